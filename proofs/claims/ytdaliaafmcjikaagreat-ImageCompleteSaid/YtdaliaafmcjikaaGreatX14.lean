/- A part of the proof: lemmas. -/
import Derived.Test.YtdaliaafmcjikaaGreatX13
import Derived.Test.YtdaliaafmcjikaaGreatX7
import Derived.Test.YtdaliaafmcjikaaGreatX8
import Derived.Test.YtdaliaafmcjikaaGreatX12
import Derived.Test.YtdaliaafmcjikaaGreatX9
import Derived.Shelf.SlSortCmp.Insertion
import Derived.Sort.Statements
set_option linter.unusedVariables false
set_option linter.unusedSimpArgs false
namespace Go.Proofs.YtdaliaafmcjikaaGreat
open Go Go.Sx
noncomputable def kPth (h : Hal) (s : Stg) (q0 : Pl3) (ns : List Int) : PC := ins 82 (oneA [.agg (stgL h s), P3 q0.1 q0.2.1 q0.2.2, .isl 1 (nl ns)] ⟨.isl 3 (imC (im1 h s) q0 ns ns.length), []⟩) (ins 123 r123 (ins 124 (crsT h s) (ins 125 (wayT h s) (ins 126 r126 (ins 104 clT (ins 103 (oneA [.isl 1 (nl ns)] ⟨.isl 1 (nl ns), []⟩) pt0))))))
theorem Ycf {h : Hal} (hk : h.ok) {s : Stg} (hs : s.few) (e0 : serr h s = 0) {q0 : Pl3} (hf : Near 5000 q0) {ns : List Int} (hl : ns.length <= 4) (hi : ∀ n ∈ ns, 0 <= n /\ n < nsur h) : PCOK Tryz.prog (kPth h s q0 ns) :=
 Yb (d82f hk hs e0 hf hl hi) (Zun (Zwp hk hs (Zto hk hs (Zum (Ye9 (Yb (Yf5 (ns := ns) (by omega)) Zc))))))
set_option maxRecDepth 100000 in
set_option maxHeartbeats 16000000 in
theorem d65 {h : Hal} (hk : h.ok) {s : Stg} (hs : s.few) (e0 : serr h s = 0) (a : Ask) (hf : Near 5000 (a.fx, a.fy, a.fz)) (ht : Near 5000 (a.tx, a.ty, a.tz)) {ns : List Int} (hl : ns.length <= 4) (hi : ∀ n ∈ ns, 0 <= n /\ n < nsur h) :
  PCall Tryz.prog 65 [.agg (stgL h s), a.av, .isl 1 (nl ns)] ⟨rawP (Xl h s (a.fx, a.fy, a.fz) (a.tx, a.ty, a.tz) ns), []⟩ := by
 obtain ⟨fx, fy, fz, tx, ty, tz, n⟩ := a
 dsimp only at hf ht ⊢
 have hk0 := Ycf hk hs e0 hf hl hi
 unfold kPth at hk0
 have w0 := Zqy hf
 have wT := Zqy ht
 have ll := Zk ns
 have o1 := Yk [.agg (stgL h s), P3 fx fy fz, .isl 1 (nl ns)] ⟨.isl 3 (imC (im1 h s) (fx, fy, fz) ns ns.length), []⟩
 have o2 := Yk [.isl 1 (nl ns)] ⟨.isl 1 (nl ns), []⟩
 have hR := Zdx h s (fx, fy, fz) (tx, ty, tz) ns
 generalize Xl h s (fx, fy, fz) (tx, ty, tz) ns = R at *
 have il := Zi3 (im1 h s) (fx, fy, fz) ns ns.length
 have x2 : IntKind.i64.wrap (((nl ns).length : Int) + 2) = ((ns.length + 2 : Nat) : Int) := by rw [ll, W_eq (by omega) (by omega)]; omega
 have x1 : IntKind.i64.wrap (((nl ns).length : Int) + 1) = ((ns.length + 1 : Nat) : Int) := by rw [ll, W_eq (by omega) (by omega)]; omega
 have a1 : decide (0 <= IntKind.i64.wrap (((nl ns).length : Int) + 2) /\ (IntKind.i64.wrap (((nl ns).length : Int) + 2)).toNat <= 1000000) = true := by rw [x2]; exact decide_eq_true ⟨by omega, by omega⟩
 have g0 : (List.replicate (IntKind.i64.wrap (((nl ns).length : Int) + 2)).toNat (ptc ptZ))[0 + Int.toNat 0]? = some (ptc ptZ) := by
  rw [x2, Int.toNat_natCast, List.getElem?_replicate, if_pos (by omega)]
 have g1 : (Zhl (List.replicate (IntKind.i64.wrap (((nl ns).length : Int) + 2)).toNat (ptc ptZ)) (0 + Int.toNat 0) (ptc (pnt (fx, fy, fz))))[0 + (IntKind.i64.wrap (((nl ns).length : Int) + 1)).toNat]? = some (ptc ptZ) := by
  rw [Zba, x2, x1, List.getElem?_set, if_neg (by omega)]; simp
 have hE0 : Zhl (Zhl (List.replicate (IntKind.i64.wrap (((nl ns).length : Int) + 2)).toNat (ptc ptZ)) (0 + Int.toNat 0) (ptc (pnt (fx, fy, fz)))) (0 + (IntKind.i64.wrap (((nl ns).length : Int) + 1)).toNat) (ptc (pnt (tx, ty, tz))) = (((List.replicate (ns.length + 2) ptZ).set 0 (pnt (fx, fy, fz))).set (ns.length + 1) (pnt (tx, ty, tz))).map ptc := by
  rw [Zba, Zba, x2, x1, List.map_set, List.map_set, List.map_replicate]
  congr 1
  omega
 refine bs.pv (sx := nos) hk0 Tryz.func65 (by kernel_rfl) (by kernel_rfl) (Zx6 _) ?_
 unfold Zg6
 conv => whnf
 repeat' (first | refine wk3 ?_ | (refine wk2 ?_ ?_ <;> intro _) | refine wk4 ?_ | fail); all_goals (conv => whnf)
 obtain ⟨l, hlk⟩ : ∃ l, l = lkG (im1 h s) (fx, fy, fz) ns := ⟨_, rfl⟩
 have hll : l.length = ns.length := by rw [hlk, Zaf]
 have hlt' : ∀ {k : Nat} (hk : k < ns.length), (l.take (k + 1)).reverse = (ns[k], imA (im1 h s) (fx, fy, fz) ns (k + 1)) :: (l.take k).reverse := fun hk => by rw [hlk]; exact Zlw hk
 rw [<-hlk] at hR
 clear hlk
 refine Ya (S := Nat × Int × List (List AV) × List Pt) (fun t => t.1) (fun t => [(2, .isl 1 (nl ns)), (3, .ptr 0 0 0), (4, .ptr 1 0 0), (6, .ptr 2 0 0), (8, .isl 3 (imC (im1 h s) (fx, fy, fz) ns ns.length)), (9, I (nl ns).length), (10, .asl 3 0 (IntKind.i64.wrap (((nl ns).length : Int) + 2)).toNat), (11, I t.2.1)])
  (fun t => [(3, .row 4 t.2.2.1 true true), (2, .row 3 [[.nils, .nils, I 0]] true false), (1, .row 7 [[I fx, I fy, I fz, I tx, I ty, I tz, I n]] true false), (0, .row 11 [stgL h s] true false)]) 18 18
  (fun t => t.2.1 = t.1 /\ t.1 <= ns.length /\ t.2.2.1 = t.2.2.2.map ptc /\ t.2.2.2.length = ns.length + 2 /\ t.2.2.2[0]? = some (pnt (fx, fy, fz)) /\ (∀ p ∈ t.2.2.2, p.wf) /\ ∃ to P Q, t.2.2.2.drop (t.1 + 1) = to :: Q /\ P ++ [pnt (tx, ty, tz)] = to :: Q /\ goP (fP h s) (l.take t.1).reverse to P = goP (fP h s) l.reverse (pnt (tx, ty, tz)) [])
  (ns.length, (nl ns).length, _, (((List.replicate (ns.length + 2) ptZ).set 0 (pnt (fx, fy, fz))).set (ns.length + 1) (pnt (tx, ty, tz)))) ⟨by dsimp only; rw [ll], Nat.le_refl _, hE0, by simp, by simp, ?_, pnt (tx, ty, tz), [], [], by rw [Zch (by simp)]; simp, rfl, by rw [<-hll, List.take_length]⟩ (Nat.le_refl _) [] rfl (kps) (kps) ?_
 ·intro p hp
  rcases List.mem_or_eq_of_mem_set hp with hp | rfl
  ·rcases List.mem_or_eq_of_mem_set hp with hp | rfl
   ·rw [List.eq_of_mem_replicate hp]; exact Zkk
   ·exact w0
  ·exact wT
 clear g0 g1 hE0 a1
 rintro ⟨k, i, els, pts⟩ ⟨hi1, hk1, hels, hpl, hp0, hwf, to, P, Q, hd, hPQ, hgo⟩
 dsimp only at hi1 hk1 hels hpl hp0 hwf hd hPQ hgo ⊢
 subst hi1 hels
 have lp : (pts.map ptc).length = ns.length + 2 := by rw [List.length_map, hpl]
 refine bs.av (sx := nos) hk0 ?_
 cases k with
 | succ j =>
  have b0 : ((j + 1 : Nat) : Int) >= 1 := by omega
  have b1 : IntKind.i64.wrap (((j + 1 : Nat) : Int) - 1) = j := by rw [W_eq (by omega) (by omega)]; omega
  have b2 : IntKind.i64.wrap (((j + 1 : Nat) : Int) + 1) = ((j + 2 : Nat) : Int) := by rw [W_eq (by omega) (by omega)]; omega
  have e1 : (nl ns)[(IntKind.i64.wrap (((j + 1 : Nat) : Int) - 1)).toNat]? = some [I ns[j]] := by rw [b1]; simp [nl]
  have e2 : (imC (im1 h s) (fx, fy, fz) ns ns.length)[((j + 1 : Nat) : Int).toNat]? = some (pl3 (imA (im1 h s) (fx, fy, fz) ns (j + 1))) := by
   rw [Int.toNat_natCast]; unfold imC; rw [List.getElem?_map, List.getElem?_range (by omega)]; rfl
  have hto : pts[j + 2]? = some to := by rw [<-List.head?_drop, hd]; rfl
  have e3 : (pts.map ptc)[0 + (IntKind.i64.wrap (((j + 1 : Nat) : Int) + 1)).toNat]? = some (ptc to) := by rw [b2, Int.toNat_natCast, Nat.zero_add, List.getElem?_map, hto]; rfl
  have e4 : (pts.map ptc)[0 + ((j + 1 : Nat) : Int).toNat]? = some (ptc (pts[j + 1]'(by omega))) := by rw [Int.toNat_natCast, Nat.zero_add]; exact Zgm (by omega)
  have wto : to.wf := hwf _ (List.mem_of_getElem? hto)
  rw [hlt' (by omega), goP] at hgo
  have c1 := Zrr (h := h) (s := s) (c := ⟨ns[j], (imA (im1 h s) (fx, fy, fz) ns (j + 1)).1, (imA (im1 h s) (fx, fy, fz) ns (j + 1)).2.1, (imA (im1 h s) (fx, fy, fz) ns (j + 1)).2.2, to⟩) wto
  have w1 := Zwq (h := h) (s := s) ⟨ns[j], (imA (im1 h s) (fx, fy, fz) ns (j + 1)).1, (imA (im1 h s) (fx, fy, fz) ns (j + 1)).2.1, (imA (im1 h s) (fx, fy, fz) ns (j + 1)).2.2, to⟩ hk hs
  have hfp : fP h s ns[j] (imA (im1 h s) (fx, fy, fz) ns (j + 1)) to = crsA h s ⟨ns[j], (imA (im1 h s) (fx, fy, fz) ns (j + 1)).1, (imA (im1 h s) (fx, fy, fz) ns (j + 1)).2.1, (imA (im1 h s) (fx, fy, fz) ns (j + 1)).2.2, to⟩ := rfl
  rw [hfp] at hgo
  clear hfp
  generalize crsA h s ⟨ns[j], (imA (im1 h s) (fx, fy, fz) ns (j + 1)).1, (imA (im1 h s) (fx, fy, fz) ns (j + 1)).2.1, (imA (im1 h s) (fx, fy, fz) ns (j + 1)).2.2, to⟩ = r at *
  obtain ⟨⟨x, y, z, d⟩, E⟩ := r
  generalize imA (im1 h s) (fx, fy, fz) ns (j + 1) = q at *
  obtain ⟨qx, qy, qz⟩ := q
  obtain ⟨X, Y, Z, V⟩ := to
  dsimp only at hgo w1 c1
  by_cases hE : E = 0
  ·subst hE
   rw [if_pos rfl] at hgo
   have hs1 : Zhl (pts.map ptc) (0 + ((j + 1 : Nat) : Int).toNat) (ptc ⟨x, y, z, d⟩) = (pts.set (j + 1) ⟨x, y, z, d⟩).map ptc := by
    rw [Int.toNat_natCast, Nat.zero_add]; exact Zmr _ _ _
   repeat' (first | refine wk3 ?_ | (refine wk2 ?_ ?_ <;> intro _) | refine wk4 ?_ | fail); all_goals (conv => whnf)
   exact Done.mk ⟨(j, _, _, pts.set (j + 1) ⟨x, y, z, d⟩), [], rfl, kps, kps, ⟨b1, by dsimp only; omega, hs1, by dsimp only; rw [List.length_set, hpl], by dsimp only; rw [List.getElem?_set, if_neg (by omega)]; exact hp0, (fun p hp => by
    rcases List.mem_or_eq_of_mem_set hp with hp | rfl
    ·exact hwf p hp
    ·exact w1), ⟨x, y, z, d⟩, ⟨x, y, z, d⟩ :: P, ⟨X, Y, Z, V⟩ :: Q, by dsimp only; rw [Zch (by omega), hd], by rw [List.cons_append, hPQ], hgo⟩, by dsimp only; omega⟩
  ·rw [if_neg hE] at hgo
   rw [<-hgo] at hR
   dsimp only at hR
   subst hR
   repeat' (first | refine wk3 ?_ | (refine wk2 ?_ ?_ <;> intro _) | refine wk4 ?_ | fail); all_goals (conv => whnf)
   all_goals exact Zf rfl rfl
 | zero =>
  have hpe : pts = pnt (fx, fy, fz) :: P ++ [pnt (tx, ty, tz)] := by
   rw [List.cons_append, hPQ, <-hd]
   clear hk0 hwf lp hpl
   cases pts with
   | nil => cases hp0
   | cons p r => cases hp0; rfl
  rw [List.take_zero, List.reverse_nil, goP] at hgo
  rw [<-hgo] at hR
  dsimp only at hR
  rw [<-hpe] at hR
  have hPl : P.length = ns.length := by
   have := congrArg List.length hpe
   simp at this; omega
  clear hgo hlt' hd hPQ Q to
  repeat' (first | refine wk3 ?_ | (refine wk2 ?_ ?_ <;> intro _) | refine wk4 ?_ | fail); all_goals (conv => whnf)
  refine Ya (S := Nat × Int) (fun t => ns.length + 1 - t.1) (fun t => [(2, .isl 1 (nl ns)), (3, .ptr 0 0 0), (4, .ptr 1 0 0), (6, .ptr 2 0 0), (8, .isl 3 (imC (im1 h s) (fx, fy, fz) ns ns.length)), (9, I (nl ns).length), (10, .asl 3 0 (IntKind.i64.wrap (((nl ns).length : Int) + 2)).toNat), (75, I (IntKind.i64.wrap (((nl ns).length : Int) + 1))), (76, I t.2)])
   (fun t => [(3, .row 4 (pts.map ptc) true true), (2, .row 3 [[.nils, .nils, I 0]] true false), (1, .row 7 [[I fx, I fy, I fz, I tx, I ty, I tz, I n]] true false), (0, .row 11 [stgL h s] true false)]) 18 18
   (fun t => t.2 = t.1 /\ t.1 <= ns.length + 1 /\ chkW (wP h s) (pts.drop t.1) = chkW (wP h s) pts) (0, 0) ⟨rfl, Nat.zero_le _, rfl⟩ (Nat.le_refl _) [] rfl (kps) (kps) ?_
  rintro ⟨k, i⟩ ⟨hi1, hk1, hck⟩
  dsimp only at hi1 hk1 hck ⊢
  subst hi1
  by_cases hlt : k < ns.length + 1
  ·have b0 : ((k : Nat) : Int) < IntKind.i64.wrap (((nl ns).length : Int) + 1) := by rw [x1]; omega
   have b2 : IntKind.i64.wrap (((k : Nat) : Int) + 1) = ((k + 1 : Nat) : Int) := by rw [W_eq (by omega) (by omega)]; omega
   have e3 : (pts.map ptc)[0 + ((k : Nat) : Int).toNat]? = some (ptc (pts[k]'(by omega))) := by rw [Int.toNat_natCast, Nat.zero_add]; exact Zgm (by omega)
   have e4 : (pts.map ptc)[0 + (IntKind.i64.wrap (((k : Nat) : Int) + 1)).toNat]? = some (ptc (pts[k + 1]'(by omega))) := by rw [b2, Int.toNat_natCast, Nat.zero_add]; exact Zgm (by omega)
   rw [Zon (by omega)] at hck
   have v1 := Zqg (h := h) (s := s) (hwf (pts[k]'(by omega)) (List.getElem_mem _)) (hwf (pts[k + 1]'(by omega)) (List.getElem_mem _))
   have hw : wP h s (pts[k]'(by omega)) (pts[k + 1]'(by omega)) = (decide (wayE h s (pts[k]'(by omega)) (pts[k + 1]'(by omega)) = 0) && Ze7 h s (pts[k]'(by omega)) (pts[k + 1]'(by omega))) := rfl
   rw [hw] at hck
   clear hw
   generalize (pts[k]'(by omega)) = p1 at *
   generalize (pts[k + 1]'(by omega)) = p2 at *
   generalize wayE h s p1 p2 = u at *
   generalize Ze7 h s p1 p2 = f at *
   obtain ⟨x1, y1, z1, d1⟩ := p1
   obtain ⟨x2, y2, z2, d2⟩ := p2
   refine bs.av (sx := nos) hk0 ?_
   cases hb : (decide (u = 0) && f) with
   | true =>
    rw [hb, Bool.true_and] at hck
    repeat' (first | refine wk3 ?_ | (refine wk2 ?_ ?_ <;> intro _) | refine wk4 ?_ | fail); all_goals (conv => whnf)
    all_goals first
     | (exfalso; clear hk0; simp_all; done)
     | exact Done.mk ⟨(k + 1, _), [], rfl, kps, kps, ⟨b2, hlt, hck⟩, by dsimp only; omega⟩
   | false =>
    rw [hb, Bool.false_and] at hck
    rw [<-hck, if_neg (by simp)] at hR
    subst hR
    repeat' (first | refine wk3 ?_ | (refine wk2 ?_ ?_ <;> intro _) | refine wk4 ?_ | fail); all_goals (conv => whnf)
    all_goals first
     | exact Zf rfl rfl
     | (exfalso; clear hk0; simp_all; done)
  ·have hke : k = ns.length + 1 := by omega
   subst hke
   rw [Zoo (by omega)] at hck
   rw [<-hck, if_pos rfl] at hR
   subst hR
   refine Awp.froz [3] rfl (bs.av (sx := nos) hk0 ?_)
   conv => whnf
   repeat' (first | refine wk3 ?_ | (refine wk2 ?_ ?_ <;> intro _) | refine wk4 ?_ | fail); all_goals (conv => whnf)
   have y1 : Zeb (some (I (IntKind.i64.wrap (((nl ns).length : Int) + 1)))) (IntKind.i64.wrap (((nl ns).length : Int) + 2)).toNat = some (ns.length + 1) := by
    show cond (decide (0 <= IntKind.i64.wrap (((nl ns).length : Int) + 1))) (some (IntKind.i64.wrap (((nl ns).length : Int) + 1)).toNat) none = _
    rw [x1, decide_eq_true (by omega)]
    simp only [cond_true, Option.some.injEq]; omega
   have cl : clT [.isl 4 (List.take (ns.length + 1 - Int.toNat 1) (List.drop (0 + Int.toNat 1) (pts.map ptc)))] = some ⟨.isl 4 ((P.map tup4).map hp4), []⟩ := by
    have e : List.take (ns.length + 1 - Int.toNat 1) (List.drop (0 + Int.toNat 1) (pts.map ptc)) = (P.map tup4).map hp4 := by
     rw [hpe, List.cons_append, List.map_cons, show (0 + Int.toNat 1) = 1 from rfl, List.drop_succ_cons, List.drop_zero, List.map_append, show ns.length + 1 - Int.toNat 1 = (P.map ptc).length by rw [List.length_map, hPl]; omega, List.take_left, List.map_map]
     rfl
    rw [e]
    exact Yc8 (by rw [List.length_map]; omega)
   have e5 : (imC (im1 h s) (fx, fy, fz) ns ns.length)[((nl ns).length : Int).toNat]? = some (pl3 (imA (im1 h s) (fx, fy, fz) ns ns.length)) := by
    rw [Int.toNat_natCast, ll]; exact Zlx _ _ _ _
   refine Zk4 rfl rfl rfl rfl rfl rfl y1 (by omega) (by rw [x2]; omega) (by rw [x2]; omega) ?_
   conv => whnf
   generalize imA (im1 h s) (fx, fy, fz) ns ns.length = q at *
   obtain ⟨qx, qy, qz⟩ := q
   repeat' (first | refine wk3 ?_ | (refine wk2 ?_ ?_ <;> intro _) | refine wk4 ?_ | fail); all_goals (conv => whnf)
   exact Zf rfl rfl
theorem Zwo {h : Hal} {s : Stg} (g : Sit h s) (e0 : serr h s = 0) {n : Int} (hn : 0 <= n /\ n < nsur h) {q : Pl3} (hq : Near 45000 q) {to : Pt} (hto : Xn to = 0) :
  CrOk (Zl h s n) ⟨n, q.1, q.2.1, q.2.2, to⟩ /\ SK h n /\ crsA h s ⟨n, q.1, q.2.1, q.2.2, to⟩ = Za4 (Zh1 h n) (Zl h s n) ⟨n, q.1, q.2.1, q.2.2, to⟩ /\
  ((crsA h s ⟨n, q.1, q.2.1, q.2.2, to⟩).2 = 0 -> Xn (crsA h s ⟨n, q.1, q.2.1, q.2.2, to⟩).1 = 0 /\ valN (Zl h s n).1 (crsA h s ⟨n, q.1, q.2.1, q.2.2, to⟩).1.x (crsA h s ⟨n, q.1, q.2.1, q.2.2, to⟩).1.y (crsA h s ⟨n, q.1, q.2.1, q.2.2, to⟩).1.z = (Zl h s n).2 * (crsA h s ⟨n, q.1, q.2.1, q.2.2, to⟩).1.d) := by
 have hi := Zse hn.1 hn.2
 obtain ⟨⟨b1, b2⟩, b3⟩ := Zlo g hi
 obtain ⟨h1, h2, h3⟩ := hq
 obtain ⟨p1, p2, _, p4⟩ := Zgn hto
 unfold ptIn at p4
 simp only [Bool.and_eq_true, within_iff] at p4
 have ho : CrOk (Zl h s n) ⟨n, q.1, q.2.1, q.2.2, to⟩ := ⟨b1, b2, b3, h1, h2, h3, p1, p2, p4.1.1, p4.1.2, p4.2⟩
 have he : crsE h s ⟨n, q.1, q.2.1, q.2.2, to⟩ = 0 := by
  unfold crsE surE Vs img
  rw [if_pos e0, if_pos (within_iff.2 (by dsimp only; omega)), if_pos rfl, if_pos (by simp only [Bool.and_eq_true, within_iff]; omega)]
  exact hto
 have hA : crsA h s ⟨n, q.1, q.2.1, q.2.2, to⟩ = Za4 (Za3 h n) (Zl h s n) ⟨n, q.1, q.2.1, q.2.2, to⟩ := by unfold crsA; rw [if_pos he]
 refine ⟨ho, hi, by rw [hA]; exact Zzf (c := ⟨n, q.1, q.2.1, q.2.2, to⟩) g hi ho, fun hz => ?_⟩
 rw [hA] at hz ⊢
 refine ⟨Zp5 (c := ⟨n, q.1, q.2.1, q.2.2, to⟩) g hi ho hz, ?_⟩
 unfold Za4 at hz ⊢
 split at hz
 ·cases hz
 ·rename_i hs
  split at hz
  ·rename_i hw
   split at hz
   ·cases hz
   ·rename_i hd
    rw [if_neg hs, if_pos hw, if_neg hd]
    exact Zfa ho hs
  ·cases hz
theorem Ycs (a b c : Int) : Nat.gcd (Nat.gcd a.natAbs b.natAbs) (Nat.gcd c.natAbs (1 : Int).natAbs) = 1 := by
 rw [show (1 : Int).natAbs = 1 from rfl, Nat.gcd_one_right, Nat.gcd_one_right]
theorem Zuq {q : Pl3} (h : Near 5000 q) : Xn (pnt q) = 0 := by
 obtain ⟨h1, h2, h3⟩ := h
 unfold Xn pnt g4 ptIn
 dsimp only
 rw [Ycs, if_neg (by simp), if_neg (by omega), if_pos (by simp only [Bool.and_eq_true, within_iff]; omega)]
theorem Ydn {h : Hal} {ns : List Int} (hi : ∀ n ∈ ns, 0 <= n /\ n < nsur h) : ∀ n ∈ ns, SK h n := fun n hn => Zse (hi n hn).1 (hi n hn).2
theorem Znb {m k : Int} (h : k <= m) {p : Pl3} (hp : Near k p) : Near m p := by
 obtain ⟨h1, h2, h3⟩ := hp
 exact ⟨by omega, by omega, by omega⟩
abbrev Pt4 := Int × Int × Int × Int
def eqP4 (a b : Pt4) : Bool := decide (a.1 = b.1) && (decide (a.2.1 = b.2.1) && (decide (a.2.2.1 = b.2.2.1) && decide (a.2.2.2 = b.2.2.2)))
def eqP : List Pt4 -> List Pt4 -> Bool
 | [], [] => true
 | x :: a, y :: b => eqP4 x y && eqP a b
 | _, _ => false
theorem eqP4_iff {a b : Pt4} : eqP4 a b = true ↔ a = b := by
 obtain ⟨a1, a2, a3, a4⟩ := a
 obtain ⟨b1, b2, b3, b4⟩ := b
 simp [eqP4]
theorem Zpy : ∀ {a b : List Pt4}, eqP a b = true ↔ a = b
 | [], [] => by simp [eqP]
 | x :: a, y :: b => by rw [eqP, Bool.and_eq_true, eqP4_iff, Zpy]; simp
 | [], y :: b => by simp [eqP]
 | x :: a, [] => by simp [eqP]
theorem Zwe {a b : List Pt4} (h : a.length ≠ b.length) : eqP a b = false := by
 rw [Bool.eq_false_iff, ne_eq, Zpy]
 intro e; exact h (by rw [e])
def same (a b : Pth) : Bool := eqN a.ss b.ss && (decide (a.sq = b.sq) && eqP a.ps b.ps)
theorem same_iff {a b : Pth} : same a b = true ↔ a = b := by
 obtain ⟨a1, a2, a3⟩ := a
 obtain ⟨b1, b2, b3⟩ := b
 unfold same
 rw [Bool.and_eq_true, Bool.and_eq_true, eqN_iff, Zpy, decide_eq_true_eq]
 simp only [Pth.mk.injEq]
 exact ⟨fun ⟨h1, h2, h3⟩ => ⟨h1, h3, h2⟩, fun ⟨h1, h2, h3⟩ => ⟨h1, h3, h2⟩⟩
theorem Zre (l : List Pt4) : (l.map hp4).length = l.length := by simp
theorem Zrf {l : List Pt4} {k : Nat} (h : k < l.length) : (l.map hp4)[((k : Nat) : Int).toNat]? = some (hp4 l[k]) := by simp [h]
set_option maxRecDepth 100000 in
set_option maxHeartbeats 8000000 in
theorem d20 {a b : Pth} (ha : a.ss.length < 1000000) (hb : b.ss.length < 1000000) (ka : a.ps.length < 1000000) (kb : b.ps.length < 1000000) : PCall Tryz.prog 20 [a.av, b.av] ⟨Bo (same a b), []⟩ := by
 obtain ⟨a1, a2, a3⟩ := a
 obtain ⟨b1, b2, b3⟩ := b
 dsimp only at ha hb ka kb
 have l1 := Zre a2
 have l2 := Zre b2
 have q1 := Zys ha hb
 have hk : PCOK Tryz.prog (ins 58 Yco pt0) := Zyt Zc
 unfold same
 dsimp only
 cases h1 : eqN a1 b1
 ·rw [h1] at q1
  refine bs.pv (sx := nos) hk Tryz.func20 (by kernel_rfl) (by kernel_rfl) rfl ?_
  repeat' (first | refine wk3 ?_ | (refine wk2 ?_ ?_ <;> intro _) | refine wk4 ?_ | fail); all_goals (conv => whnf)
  exact Zb rfl
 rw [h1] at q1
 by_cases h2 : a3 = b3
 rotate_left
 ·rw [decide_eq_false h2]
  refine bs.pv (sx := nos) hk Tryz.func20 (by kernel_rfl) (by kernel_rfl) rfl ?_
  repeat' (first | refine wk3 ?_ | (refine wk2 ?_ ?_ <;> intro _) | refine wk4 ?_ | fail); all_goals (conv => whnf)
  exact Zb rfl
 rw [decide_eq_true h2]
 by_cases h3 : a2.length = b2.length
 rotate_left
 ·rw [Zwe h3]
  refine bs.pv (sx := nos) hk Tryz.func20 (by kernel_rfl) (by kernel_rfl) rfl ?_
  repeat' (first | refine wk3 ?_ | (refine wk2 ?_ ?_ <;> intro _) | refine wk4 ?_ | fail); all_goals (conv => whnf)
  all_goals first | exact Zb rfl | (exfalso; simp_all <;> omega)
 refine bs.pv (sx := nos) hk Tryz.func20 (by kernel_rfl) (by kernel_rfl) rfl ?_
 repeat' (first | refine wk3 ?_ | (refine wk2 ?_ ?_ <;> intro _) | refine wk4 ?_ | fail); all_goals (conv => whnf)
 ·exfalso; simp_all
 refine Ya (S := Nat × Int) (fun t => a2.length - t.1) (fun t => [(2, .ptr 0 0 0), (3, .ptr 1 0 0), (5, I t.2)]) (fun _ => [(1, .row 3 [[.isl 1 (nl b1), .isl 4 (b2.map hp4), I b3]] true false), (0, .row 3 [[.isl 1 (nl a1), .isl 4 (a2.map hp4), I a3]] true false)]) 2 2 (fun t => t.2 = t.1 /\ t.1 <= a2.length /\ eqP (a2.drop t.1) (b2.drop t.1) = eqP a2 b2) (0, 0) ⟨rfl, Nat.zero_le _, rfl⟩ (Nat.le_refl _) [] rfl (kps) (kps) ?_
 rintro ⟨k, i⟩ ⟨hi, hkk, hh⟩
 dsimp only at hi hkk hh ⊢
 subst hi
 generalize eqP a2 b2 = R at *
 refine bs.av (sx := nos) hk ?_
 by_cases hlt : k < a2.length
 ·have e1 := Zrf hlt
  have e2 := Zrf (l := b2) (k := k) (by omega)
  rw [List.drop_eq_getElem_cons hlt, List.drop_eq_getElem_cons (show k < b2.length by omega), eqP] at hh
  generalize a2[k] = x at *
  generalize b2[k]'(by omega) = y at *
  cases h4 : eqP4 x y
  ·have h5 : ¬ x = y := fun e => by rw [eqP4_iff.2 e] at h4; cases h4
   rw [h4] at hh
   have hh : false = R := hh
   subst hh
   obtain ⟨x1, x2, x3, x4⟩ := x
   obtain ⟨y1, y2, y3, y4⟩ := y
   repeat' (first | refine wk3 ?_ | (refine wk2 ?_ ?_ <;> intro _) | refine wk4 ?_ | fail); all_goals (conv => whnf)
   all_goals first | exact Zb rfl | (exfalso; rename_i q; simp [eqP4] at h4 q; omega)
  ·have h5 := eqP4_iff.1 h4
   subst h5
   rw [h4, Bool.true_and] at hh
   obtain ⟨x1, x2, x3, x4⟩ := x
   repeat' (first | refine wk3 ?_ | (refine wk2 ?_ ?_ <;> intro _) | refine wk4 ?_ | fail); all_goals (conv => whnf)
   all_goals first | exact Done.mk ⟨(k + 1, _), [], rfl, kps, kps, ⟨Zg (by omega), hlt, hh⟩, by dsimp only; omega⟩ | (exfalso; rename_i q; simp at q; done)
 ·rw [List.drop_of_length_le (by omega), List.drop_of_length_le (by omega)] at hh
  repeat' (first | refine wk3 ?_ | (refine wk2 ?_ ?_ <;> intro _) | refine wk4 ?_ | fail); all_goals (conv => whnf)
  exact Zb hh
theorem Zvp {a b : List Pt4} (h : a.map hp4 = b.map hp4) : a = b := by
 refine (List.map_inj_right (fun x y hxy => ?_)).1 h
 obtain ⟨x1, x2, x3, x4⟩ := x
 obtain ⟨y1, y2, y3, y4⟩ := y
 simpa using hxy
theorem Zut {a b : Pth} (h : a.av = b.av) : a = b := by
 obtain ⟨a1, a2, a3⟩ := a
 obtain ⟨b1, b2, b3⟩ := b
 simp only [AV.agg.injEq, List.cons.injEq, AV.isl.injEq, AV.int.injEq, true_and, and_true] at h
 rw [Zfp h.1, Zvp h.2.1, h.2.2]
abbrev zPth : Pth := ⟨[], [], 0⟩
abbrev zAV : AV := .agg [.nils, .nils, I 0]
noncomputable def r20 : List AV -> Option PRes := famA (fun q : Pth × Option Pth => q.1.ss.length < 1000000 /\ q.1.ps.length < 1000000 /\ match q.2 with
 | some b => b.ss.length < 1000000 /\ b.ps.length < 1000000
 | none => True) (fun q => match q.2 with
 | some b => [q.1.av, b.av]
 | none => [q.1.av, zAV]) (fun q => match q.2 with
 | some b => ⟨Bo (same q.1 b), []⟩
 | none => ⟨Bo (same q.1 zPth), []⟩)
theorem Yag {pt : PC} (h : PCOK Tryz.prog pt) : PCOK Tryz.prog (ins 20 r20 pt) := by
 refine Ym (fun q hq => ?_) h
 obtain ⟨a, b⟩ := q
 cases b with
 | some b => exact d20 hq.1 hq.2.2.1 hq.2.1 hq.2.2.2
 | none =>
  refine (d20 (a := a) (b := zPth) hq.1 (by simp) hq.2.1 (by simp)).nilArgs ?_
  exact ⟨NA.rfl, .inr ⟨_, _, rfl, rfl, .inr ⟨rfl, _, rfl⟩, .inr ⟨rfl, _, rfl⟩, .inl rfl, trivial⟩, trivial⟩
theorem Ygb {b : Pth} (h : b.av = zAV) : False := by
 simp only [AV.agg.injEq, List.cons.injEq] at h
 cases h.1
theorem Zx3 {a b : Pth} (h1 : a.ss.length < 1000000) (h2 : a.ps.length < 1000000) (h3 : b.ss.length < 1000000) (h4 : b.ps.length < 1000000) : r20 [a.av, b.av] = some ⟨Bo (same a b), []⟩ :=
 Zv (k := (a, some b)) (g := fun q : Pth × Option Pth => match q.2 with
 | some b => [q.1.av, b.av]
 | none => [q.1.av, zAV]) (fun j hj => by
  obtain ⟨x, y⟩ := j
  cases y with
  | some y =>
   simp only [List.cons.injEq, and_true] at hj
   dsimp only
   rw [Zut hj.1, Zut hj.2]
  | none =>
   simp only [List.cons.injEq, and_true] at hj
   exact (Ygb hj.2.symm).elim) ⟨h1, h2, h3, h4⟩
set_option maxRecDepth 100000 in
set_option maxHeartbeats 8000000 in
theorem d97 {a b : List Pt4} (ka : a.length < 1000000) (kb : b.length < 1000000) : PCall Tryz.prog 97 [.isl 4 (a.map hp4), .isl 4 (b.map hp4)] ⟨Bo (eqP a b), []⟩ := by
 have l1 := Zre a
 have l2 := Zre b
 by_cases h3 : a.length = b.length
 rotate_left
 ·rw [Zwe h3]
  refine bs.pv (sx := nos) Zc Tryz.func97 (by kernel_rfl) (by kernel_rfl) rfl ?_
  repeat' (first | refine wk3 ?_ | (refine wk2 ?_ ?_ <;> intro _) | refine wk4 ?_ | fail); all_goals (conv => whnf)
  exact Zb rfl
 refine bs.pv (sx := nos) Zc Tryz.func97 (by kernel_rfl) (by kernel_rfl) rfl ?_
 repeat' (first | refine wk3 ?_ | (refine wk2 ?_ ?_ <;> intro _) | refine wk4 ?_ | fail); all_goals (conv => whnf)
 refine Ya (S := Nat × Int) (fun t => a.length - t.1) (fun t => [(0, .isl 4 (a.map hp4)), (1, .isl 4 (b.map hp4)), (12, I (a.map hp4).length), (13, I t.2)]) (fun _ => []) 0 0
  (fun t => t.2 = t.1 /\ t.1 <= a.length /\ eqP (a.drop t.1) (b.drop t.1) = eqP a b) (0, 0) ⟨rfl, Nat.zero_le _, rfl⟩ (Nat.le_refl _) [] rfl (kps) (kps) ?_
 rintro ⟨k, i⟩ ⟨hi, hk, hh⟩
 dsimp only at hi hk hh ⊢
 subst hi
 generalize eqP a b = R at *
 refine bs.av (sx := nos) Zc ?_
 by_cases hlt : k < a.length
 ·have e1 := Zrf hlt
  have e2 := Zrf (l := b) (k := k) (by omega)
  rw [List.drop_eq_getElem_cons hlt, List.drop_eq_getElem_cons (show k < b.length by omega), eqP] at hh
  generalize a[k] = x at *
  generalize (b[k]'(by omega)) = y at *
  obtain ⟨x1, x2, x3, x4⟩ := x
  obtain ⟨y1, y2, y3, y4⟩ := y
  cases hb : eqP4 (x1, x2, x3, x4) (y1, y2, y3, y4) with
  | true =>
   rw [hb, Bool.true_and] at hh
   repeat' (first | refine wk3 ?_ | (refine wk2 ?_ ?_ <;> intro _) | refine wk4 ?_ | fail); all_goals (conv => whnf)
   all_goals first
    | (exfalso; simp_all [eqP4]; done)
    | exact Done.mk ⟨(k + 1, _), [], rfl, kps, kps, ⟨Zg (by omega), hlt, hh⟩, by dsimp only; omega⟩
  | false =>
   rw [hb, Bool.false_and] at hh
   subst hh
   repeat' (first | refine wk3 ?_ | (refine wk2 ?_ ?_ <;> intro _) | refine wk4 ?_ | fail); all_goals (conv => whnf)
   all_goals first
    | exact Zb rfl
    | (exfalso; simp_all [eqP4]; done)
 ·rw [List.drop_of_length_le (by omega), List.drop_of_length_le (by omega), eqP] at hh
  subst hh
  repeat' (first | refine wk3 ?_ | (refine wk2 ?_ ?_ <;> intro _) | refine wk4 ?_ | fail); all_goals (conv => whnf)
  exact Zb rfl
structure AskOk (h : Hal) (s : Stg) (a : Ask) : Prop where
 e0 : serr h s = 0
 f : Near 5000 (a.fx, a.fy, a.fz)
 t : Near 5000 (a.tx, a.ty, a.tz)
 fi : Uz h ⟨a.fx, a.fy, a.fz, 1⟩ = true
 ti : Uz h ⟨a.tx, a.ty, a.tz, 1⟩ = true
 ne : a.same = false
 n : 0 <= a.n /\ a.n <= 4
theorem Yx {h : Hal} {s : Stg} {a : Ask} (e : askE h s a = 0) : AskOk h s a := by
 unfold askE at e
 split at e
 ·rename_i e0
  simp only [fstL] at e
  by_cases c1 : plaE h a.fx a.fy a.fz = 0
  rotate_left
  ·rw [if_pos (fun k => c1 k)] at e; exact absurd e c1
  by_cases c2 : plaE h a.tx a.ty a.tz = 0
  rotate_left
  ·rw [if_neg (fun k => k c1), if_pos (fun k => c2 k)] at e; exact absurd e c2
  by_cases c3 : unl (!a.same) 11 = 0
  rotate_left
  ·rw [if_neg (fun k => k c1), if_neg (fun k => k c2), if_pos (fun k => c3 k)] at e; exact absurd e c3
  by_cases c4 : unl (within a.n 0 4) 2 = 0
  rotate_left
  ·rw [if_neg (fun k => k c1), if_neg (fun k => k c2), if_neg (fun k => k c3), if_pos (fun k => c4 k)] at e; exact absurd e c4
  refine ⟨e0, (Zfm c1).1, (Zfm c2).1, (Zfm c1).2, (Zfm c2).2, ?_, ?_⟩
  ·cases hs : a.same with
   | false => rfl
   | true => rw [hs] at c3; cases c3
  ·cases hw : within a.n 0 4 with
   | true => exact within_iff.1 hw
   | false => rw [hw] at c4; cases c4
 ·rename_i e0; exact absurd e e0
theorem Zfn {h : Hal} {s : Stg} {q0 q1 : Pl3} {ns : List Int} {p : Pth} (e : Xl h s q0 q1 ns = some p) : p.ss = ns := by
 rw [Zdx] at e
 split at e
 ·cases e
 ·split at e
  ·cases e; rfl
  ·cases e
theorem Zvv {f : Int -> Pl3 -> Pt -> Pt × Int} : ∀ {l : List (Int × Pl3)} {to : Pt} {P R : List Pt}, goP f l to P = some R -> R.length = l.length + P.length
 | [], _, _, _, h => by rw [goP, Option.some.injEq] at h; subst h; simp
 | (a, q) :: r, to, P, R, h => by
  rw [goP] at h
  split at h
  ·have := Zvv h
   rw [this, List.length_cons, List.length_cons]; omega
  ·cases h
theorem Zhr {h : Hal} {s : Stg} {q0 q1 : Pl3} {ns : List Int} {p : Pth} (e : Xl h s q0 q1 ns = some p) : p.ps.length = ns.length := by
 rw [Zdx] at e
 split at e
 ·cases e
 ·rename_i P hP
  have := Zvv hP
  rw [List.length_reverse, Zaf, List.length_nil] at this
  split at e
  ·cases e; rw [List.length_map]; exact this
  ·cases e
abbrev qF (a : Ask) : Pl3 := (a.fx, a.fy, a.fz)
abbrev qT (a : Ask) : Pl3 := (a.tx, a.ty, a.tz)
def pofV (h : Hal) (s : Stg) (a : Ask) (ns : List Int) : Option Pth × Int := if askE h s a = 0 then (if suE h ns = 0 then (match Xl h s (qF a) (qT a) ns with
 | none => (none, 12)
 | some p => (some p, 0)) else (none, suE h ns)) else (none, askE h s a)
def rawO : Option Pth -> AV
 | none => .agg [.nils, .nils, I 0]
 | some p => p.av
theorem d65a {h : Hal} (hk : h.ok) {s : Stg} (hs : s.few) {a : Ask} (e : askE h s a = 0) {ns : List Int} (e2 : suE h ns = 0) : PCall Tryz.prog 65 [.agg (stgL h s), a.av, .isl 1 (nl ns)] ⟨rawP (Xl h s (qF a) (qT a) ns), []⟩ :=
 d65 hk hs (Yx e).e0 a (Yx e).f (Yx e).t (Zlg e2).1 (Zlg e2).2
set_option maxRecDepth 100000 in
set_option maxHeartbeats 8000000 in
theorem d14 {h : Hal} (hk : h.ok) {s : Stg} (hs : s.few) (a : Ask) {ns : List Int} (hl : ns.length < 1000) : PCall Tryz.prog 14 [h.av, s.av, a.av, .isl 1 (nl ns)] ⟨.tup [rawO (pofV h s a ns).1, I (pofV h s a ns).2], []⟩ := by
 have ha := d24 hk hs a
 have hp := fun e e2 => d65a (a := a) (ns := ns) hk hs e e2
 obtain ⟨fx, fy, fz, tx, ty, tz, n⟩ := a
 unfold pofV
 by_cases e : askE h s ⟨fx, fy, fz, tx, ty, tz, n⟩ = 0
 rotate_left
 ·rw [if_neg e]
  have hk0 := Yb ha Zc
  have o1 := Yk [h.av, s.av, Ask.av ⟨fx, fy, fz, tx, ty, tz, n⟩] ⟨I (askE h s ⟨fx, fy, fz, tx, ty, tz, n⟩), []⟩
  generalize askE h s ⟨fx, fy, fz, tx, ty, tz, n⟩ = E at *
  refine bs.pv (sx := nos) hk0 Tryz.func14 (by kernel_rfl) (by kernel_rfl) rfl ?_
  repeat' (first | refine wk3 ?_ | (refine wk2 ?_ ?_ <;> intro _) | refine wk4 ?_ | fail); all_goals (conv => whnf)
  all_goals first
   | exact Zf rfl rfl
   | (exfalso; simp_all; done)
 have e0 := (Yx e).e0
 have hw := d165 hk (Zbm e0) ns hl
 rw [if_pos e]
 rw [e] at ha
 by_cases e2 : suE h ns = 0
 rotate_left
 ·rw [if_neg e2]
  have hk0 := Yb ha (Yb hw Zc)
  have o1 := Yk [h.av, s.av, Ask.av ⟨fx, fy, fz, tx, ty, tz, n⟩] ⟨I 0, []⟩
  have o2 := Yk [h.av, .isl 1 (nl ns)] ⟨I (suE h ns), []⟩
  generalize suE h ns = E at *
  refine bs.pv (sx := nos) hk0 Tryz.func14 (by kernel_rfl) (by kernel_rfl) rfl ?_
  repeat' (first | refine wk3 ?_ | (refine wk2 ?_ ?_ <;> intro _) | refine wk4 ?_ | fail); all_goals (conv => whnf)
  all_goals first
   | exact Zf rfl rfl
   | (exfalso; clear hk0 o1 o2; simp_all; done)
 rw [if_pos e2]
 have hp := hp e e2
 rw [e2] at hw
 have hk0 := Yb ha (Yb hw (Yb hp Zc))
 have o1 := Yk [h.av, s.av, Ask.av ⟨fx, fy, fz, tx, ty, tz, n⟩] ⟨I 0, []⟩
 have o2 := Yk [h.av, .isl 1 (nl ns)] ⟨I 0, []⟩
 generalize Xl h s (qF ⟨fx, fy, fz, tx, ty, tz, n⟩) (qT ⟨fx, fy, fz, tx, ty, tz, n⟩) ns = R at *
 have o3 := Yk [.agg (stgL h s), Ask.av ⟨fx, fy, fz, tx, ty, tz, n⟩, .isl 1 (nl ns)] ⟨rawP R, []⟩
 cases R with
 | none =>
  refine bs.pv (sx := nos) hk0 Tryz.func14 (by kernel_rfl) (by kernel_rfl) rfl ?_
  repeat' (first | refine wk3 ?_ | (refine wk2 ?_ ?_ <;> intro _) | refine wk4 ?_ | fail); all_goals (conv => whnf)
  all_goals exact Zf rfl rfl
 | some p =>
  obtain ⟨ss, ps, sq⟩ := p
  refine bs.pv (sx := nos) hk0 Tryz.func14 (by kernel_rfl) (by kernel_rfl) rfl ?_
  repeat' (first | refine wk3 ?_ | (refine wk2 ?_ ?_ <;> intro _) | refine wk4 ?_ | fail); all_goals (conv => whnf)
  all_goals exact Zf rfl rfl
def rowP (o : Option Pth) : PRes := match o with
 | none => ⟨.tup [.agg [.nils, .nils, I 0], Bo false], []⟩
 | some p => ⟨.tup [.agg [.asl 0 0 (nl p.ss).length, .asl 1 0 (p.ps.map hp4).length, I p.sq], Bo true], [(1, nl p.ss), (4, p.ps.map hp4)]⟩
theorem Zx4 (o : Option Pth) : Ve (rowP o).blks.length (rowP o).v = true := by cases o <;> rfl
noncomputable abbrev clR : List AV -> Option PRes := famA (fun ps : List (Int × Int × Int × Int) => 0 < ps.length /\ ps.length < 100000) (fun ps => [.isl 4 (ps.map hp4)]) (fun ps => ⟨.asl 0 0 (ps.map hp4).length, [(4, ps.map hp4)]⟩)
theorem Yfa {pt : PC} (hp : PCOK Tryz.prog pt) : PCOK Tryz.prog (ins 104 clR pt) := Ym (fun ps hl => d104 hl.1 hl.2) hp
theorem Yc9 {ps : List (Int × Int × Int × Int)} (h0 : 0 < ps.length) (h : ps.length < 100000) : clR [.isl 4 (ps.map hp4)] = some ⟨.asl 0 0 (ps.map hp4).length, [(4, ps.map hp4)]⟩ :=
 Zv (p := fun ps : List (Int × Int × Int × Int) => 0 < ps.length /\ ps.length < 100000) (g := fun ps => [.isl 4 (ps.map hp4)]) (r := fun ps => ⟨.asl 0 0 (ps.map hp4).length, [(4, ps.map hp4)]⟩) (fun j hj => by
  simp only [List.cons.injEq, AV.isl.injEq, true_and, and_true] at hj
  rw [hj]) ⟨h0, h⟩
noncomputable def Yei (h : Hal) (s : Stg) (q0 : Pl3) (ns : List Int) : PC := ins 82 (oneA [.agg (stgL h s), P3 q0.1 q0.2.1 q0.2.2, .isl 1 (nl ns)] ⟨.isl 3 (imC (im1 h s) q0 ns ns.length), []⟩) (ins 123 r123 (ins 124 (crsT h s) (ins 125 (wayT h s) (ins 126 r126 (ins 104 clR (ins 103 (oneA [.isl 1 (nl ns)] ⟨.asl 0 0 (nl ns).length, [(1, nl ns)]⟩) pt0))))))
theorem Zyp {h : Hal} (hk : h.ok) {s : Stg} (hs : s.few) (e0 : serr h s = 0) {q0 : Pl3} (hf : Near 5000 q0) {ns : List Int} (h0 : 0 < ns.length) (hl : ns.length <= 4) (hi : ∀ n ∈ ns, 0 <= n /\ n < nsur h) : PCOK Tryz.prog (Yei h s q0 ns) :=
 Yb (d82f hk hs e0 hf hl hi) (Zun (Zwp hk hs (Zto hk hs (Zum (Yfa (Yb (d103 (ns := ns) h0 (by omega)) Zc))))))
set_option maxRecDepth 100000 in
set_option maxHeartbeats 16000000 in
theorem d65r {h : Hal} (hk : h.ok) {s : Stg} (hs : s.few) (e0 : serr h s = 0) (a : Ask) (hf : Near 5000 (a.fx, a.fy, a.fz)) (ht : Near 5000 (a.tx, a.ty, a.tz)) {ns : List Int} (h0 : 0 < ns.length) (hl : ns.length <= 4) (hi : ∀ n ∈ ns, 0 <= n /\ n < nsur h) :
  PCall Tryz.prog 65 [.agg (stgL h s), a.av, .isl 1 (nl ns)] (rowP (Xl h s (a.fx, a.fy, a.fz) (a.tx, a.ty, a.tz) ns)) := by
 obtain ⟨fx, fy, fz, tx, ty, tz, n⟩ := a
 dsimp only at hf ht ⊢
 have hk0 := Zyp hk hs e0 hf h0 hl hi
 unfold Yei at hk0
 have w0 := Zqy hf
 have wT := Zqy ht
 have ll := Zk ns
 have o1 := Yk [.agg (stgL h s), P3 fx fy fz, .isl 1 (nl ns)] ⟨.isl 3 (imC (im1 h s) (fx, fy, fz) ns ns.length), []⟩
 have o2 := Yk [.isl 1 (nl ns)] ⟨.asl 0 0 (nl ns).length, [(1, nl ns)]⟩
 have hR := Zdx h s (fx, fy, fz) (tx, ty, tz) ns
 generalize Xl h s (fx, fy, fz) (tx, ty, tz) ns = R at *
 have il := Zi3 (im1 h s) (fx, fy, fz) ns ns.length
 have x2 : IntKind.i64.wrap (((nl ns).length : Int) + 2) = ((ns.length + 2 : Nat) : Int) := by rw [ll, W_eq (by omega) (by omega)]; omega
 have x1 : IntKind.i64.wrap (((nl ns).length : Int) + 1) = ((ns.length + 1 : Nat) : Int) := by rw [ll, W_eq (by omega) (by omega)]; omega
 have a1 : decide (0 <= IntKind.i64.wrap (((nl ns).length : Int) + 2) /\ (IntKind.i64.wrap (((nl ns).length : Int) + 2)).toNat <= 1000000) = true := by rw [x2]; exact decide_eq_true ⟨by omega, by omega⟩
 have g0 : (List.replicate (IntKind.i64.wrap (((nl ns).length : Int) + 2)).toNat (ptc ptZ))[0 + Int.toNat 0]? = some (ptc ptZ) := by
  rw [x2, Int.toNat_natCast, List.getElem?_replicate, if_pos (by omega)]
 have g1 : (Zhl (List.replicate (IntKind.i64.wrap (((nl ns).length : Int) + 2)).toNat (ptc ptZ)) (0 + Int.toNat 0) (ptc (pnt (fx, fy, fz))))[0 + (IntKind.i64.wrap (((nl ns).length : Int) + 1)).toNat]? = some (ptc ptZ) := by
  rw [Zba, x2, x1, List.getElem?_set, if_neg (by omega)]; simp
 have hE0 : Zhl (Zhl (List.replicate (IntKind.i64.wrap (((nl ns).length : Int) + 2)).toNat (ptc ptZ)) (0 + Int.toNat 0) (ptc (pnt (fx, fy, fz)))) (0 + (IntKind.i64.wrap (((nl ns).length : Int) + 1)).toNat) (ptc (pnt (tx, ty, tz))) = (((List.replicate (ns.length + 2) ptZ).set 0 (pnt (fx, fy, fz))).set (ns.length + 1) (pnt (tx, ty, tz))).map ptc := by
  rw [Zba, Zba, x2, x1, List.map_set, List.map_set, List.map_replicate]
  congr 1
  omega
 refine bs.pv (sx := nos) hk0 Tryz.func65 (by kernel_rfl) (by kernel_rfl) (Zx4 _) ?_
 unfold Zg6
 conv => whnf
 repeat' (first | refine wk3 ?_ | (refine wk2 ?_ ?_ <;> intro _) | refine wk4 ?_ | fail); all_goals (conv => whnf)
 obtain ⟨l, hlk⟩ : ∃ l, l = lkG (im1 h s) (fx, fy, fz) ns := ⟨_, rfl⟩
 have hll : l.length = ns.length := by rw [hlk, Zaf]
 have hlt' : ∀ {k : Nat} (hk : k < ns.length), (l.take (k + 1)).reverse = (ns[k], imA (im1 h s) (fx, fy, fz) ns (k + 1)) :: (l.take k).reverse := fun hk => by rw [hlk]; exact Zlw hk
 rw [<-hlk] at hR
 clear hlk
 refine Ya (S := Nat × Int × List (List AV) × List Pt) (fun t => t.1) (fun t => [(2, .isl 1 (nl ns)), (3, .ptr 0 0 0), (4, .ptr 1 0 0), (6, .ptr 2 0 0), (8, .isl 3 (imC (im1 h s) (fx, fy, fz) ns ns.length)), (9, I (nl ns).length), (10, .asl 3 0 (IntKind.i64.wrap (((nl ns).length : Int) + 2)).toNat), (11, I t.2.1)])
  (fun t => [(3, .row 4 t.2.2.1 true true), (2, .row 3 [[.nils, .nils, I 0]] true false), (1, .row 7 [[I fx, I fy, I fz, I tx, I ty, I tz, I n]] true false), (0, .row 11 [stgL h s] true false)]) 18 18
  (fun t => t.2.1 = t.1 /\ t.1 <= ns.length /\ t.2.2.1 = t.2.2.2.map ptc /\ t.2.2.2.length = ns.length + 2 /\ t.2.2.2[0]? = some (pnt (fx, fy, fz)) /\ (∀ p ∈ t.2.2.2, p.wf) /\ ∃ to P Q, t.2.2.2.drop (t.1 + 1) = to :: Q /\ P ++ [pnt (tx, ty, tz)] = to :: Q /\ goP (fP h s) (l.take t.1).reverse to P = goP (fP h s) l.reverse (pnt (tx, ty, tz)) [])
  (ns.length, (nl ns).length, _, (((List.replicate (ns.length + 2) ptZ).set 0 (pnt (fx, fy, fz))).set (ns.length + 1) (pnt (tx, ty, tz)))) ⟨by dsimp only; rw [ll], Nat.le_refl _, hE0, by simp, by simp, ?_, pnt (tx, ty, tz), [], [], by rw [Zch (by simp)]; simp, rfl, by rw [<-hll, List.take_length]⟩ (Nat.le_refl _) [] rfl (kps) (kps) ?_
 ·intro p hp
  rcases List.mem_or_eq_of_mem_set hp with hp | rfl
  ·rcases List.mem_or_eq_of_mem_set hp with hp | rfl
   ·rw [List.eq_of_mem_replicate hp]; exact Zkk
   ·exact w0
  ·exact wT
 clear g0 g1 hE0 a1
 rintro ⟨k, i, els, pts⟩ ⟨hi1, hk1, hels, hpl, hp0, hwf, to, P, Q, hd, hPQ, hgo⟩
 dsimp only at hi1 hk1 hels hpl hp0 hwf hd hPQ hgo ⊢
 subst hi1 hels
 have lp : (pts.map ptc).length = ns.length + 2 := by rw [List.length_map, hpl]
 refine bs.av (sx := nos) hk0 ?_
 cases k with
 | succ j =>
  have b0 : ((j + 1 : Nat) : Int) >= 1 := by omega
  have b1 : IntKind.i64.wrap (((j + 1 : Nat) : Int) - 1) = j := by rw [W_eq (by omega) (by omega)]; omega
  have b2 : IntKind.i64.wrap (((j + 1 : Nat) : Int) + 1) = ((j + 2 : Nat) : Int) := by rw [W_eq (by omega) (by omega)]; omega
  have e1 : (nl ns)[(IntKind.i64.wrap (((j + 1 : Nat) : Int) - 1)).toNat]? = some [I ns[j]] := by rw [b1]; simp [nl]
  have e2 : (imC (im1 h s) (fx, fy, fz) ns ns.length)[((j + 1 : Nat) : Int).toNat]? = some (pl3 (imA (im1 h s) (fx, fy, fz) ns (j + 1))) := by
   rw [Int.toNat_natCast]; unfold imC; rw [List.getElem?_map, List.getElem?_range (by omega)]; rfl
  have hto : pts[j + 2]? = some to := by rw [<-List.head?_drop, hd]; rfl
  have e3 : (pts.map ptc)[0 + (IntKind.i64.wrap (((j + 1 : Nat) : Int) + 1)).toNat]? = some (ptc to) := by rw [b2, Int.toNat_natCast, Nat.zero_add, List.getElem?_map, hto]; rfl
  have e4 : (pts.map ptc)[0 + ((j + 1 : Nat) : Int).toNat]? = some (ptc (pts[j + 1]'(by omega))) := by rw [Int.toNat_natCast, Nat.zero_add]; exact Zgm (by omega)
  have wto : to.wf := hwf _ (List.mem_of_getElem? hto)
  rw [hlt' (by omega), goP] at hgo
  have c1 := Zrr (h := h) (s := s) (c := ⟨ns[j], (imA (im1 h s) (fx, fy, fz) ns (j + 1)).1, (imA (im1 h s) (fx, fy, fz) ns (j + 1)).2.1, (imA (im1 h s) (fx, fy, fz) ns (j + 1)).2.2, to⟩) wto
  have w1 := Zwq (h := h) (s := s) ⟨ns[j], (imA (im1 h s) (fx, fy, fz) ns (j + 1)).1, (imA (im1 h s) (fx, fy, fz) ns (j + 1)).2.1, (imA (im1 h s) (fx, fy, fz) ns (j + 1)).2.2, to⟩ hk hs
  have hfp : fP h s ns[j] (imA (im1 h s) (fx, fy, fz) ns (j + 1)) to = crsA h s ⟨ns[j], (imA (im1 h s) (fx, fy, fz) ns (j + 1)).1, (imA (im1 h s) (fx, fy, fz) ns (j + 1)).2.1, (imA (im1 h s) (fx, fy, fz) ns (j + 1)).2.2, to⟩ := rfl
  rw [hfp] at hgo
  clear hfp
  generalize crsA h s ⟨ns[j], (imA (im1 h s) (fx, fy, fz) ns (j + 1)).1, (imA (im1 h s) (fx, fy, fz) ns (j + 1)).2.1, (imA (im1 h s) (fx, fy, fz) ns (j + 1)).2.2, to⟩ = r at *
  obtain ⟨⟨x, y, z, d⟩, E⟩ := r
  generalize imA (im1 h s) (fx, fy, fz) ns (j + 1) = q at *
  obtain ⟨qx, qy, qz⟩ := q
  obtain ⟨X, Y, Z, V⟩ := to
  dsimp only at hgo w1 c1
  by_cases hE : E = 0
  ·subst hE
   rw [if_pos rfl] at hgo
   have hs1 : Zhl (pts.map ptc) (0 + ((j + 1 : Nat) : Int).toNat) (ptc ⟨x, y, z, d⟩) = (pts.set (j + 1) ⟨x, y, z, d⟩).map ptc := by
    rw [Int.toNat_natCast, Nat.zero_add]; exact Zmr _ _ _
   repeat' (first | refine wk3 ?_ | (refine wk2 ?_ ?_ <;> intro _) | refine wk4 ?_ | fail); all_goals (conv => whnf)
   exact Done.mk ⟨(j, _, _, pts.set (j + 1) ⟨x, y, z, d⟩), [], rfl, kps, kps, ⟨b1, by dsimp only; omega, hs1, by dsimp only; rw [List.length_set, hpl], by dsimp only; rw [List.getElem?_set, if_neg (by omega)]; exact hp0, (fun p hp => by
    rcases List.mem_or_eq_of_mem_set hp with hp | rfl
    ·exact hwf p hp
    ·exact w1), ⟨x, y, z, d⟩, ⟨x, y, z, d⟩ :: P, ⟨X, Y, Z, V⟩ :: Q, by dsimp only; rw [Zch (by omega), hd], by rw [List.cons_append, hPQ], hgo⟩, by dsimp only; omega⟩
  ·rw [if_neg hE] at hgo
   rw [<-hgo] at hR
   dsimp only at hR
   subst hR
   repeat' (first | refine wk3 ?_ | (refine wk2 ?_ ?_ <;> intro _) | refine wk4 ?_ | fail); all_goals (conv => whnf)
   all_goals exact Zf rfl rfl
 | zero =>
  have hpe : pts = pnt (fx, fy, fz) :: P ++ [pnt (tx, ty, tz)] := by
   rw [List.cons_append, hPQ, <-hd]
   clear hk0 hwf lp hpl
   cases pts with
   | nil => cases hp0
   | cons p r => cases hp0; rfl
  rw [List.take_zero, List.reverse_nil, goP] at hgo
  rw [<-hgo] at hR
  dsimp only at hR
  rw [<-hpe] at hR
  have hPl : P.length = ns.length := by
   have := congrArg List.length hpe
   simp at this; omega
  clear hgo hlt' hd hPQ Q to
  repeat' (first | refine wk3 ?_ | (refine wk2 ?_ ?_ <;> intro _) | refine wk4 ?_ | fail); all_goals (conv => whnf)
  refine Ya (S := Nat × Int) (fun t => ns.length + 1 - t.1) (fun t => [(2, .isl 1 (nl ns)), (3, .ptr 0 0 0), (4, .ptr 1 0 0), (6, .ptr 2 0 0), (8, .isl 3 (imC (im1 h s) (fx, fy, fz) ns ns.length)), (9, I (nl ns).length), (10, .asl 3 0 (IntKind.i64.wrap (((nl ns).length : Int) + 2)).toNat), (75, I (IntKind.i64.wrap (((nl ns).length : Int) + 1))), (76, I t.2)])
   (fun t => [(3, .row 4 (pts.map ptc) true true), (2, .row 3 [[.nils, .nils, I 0]] true false), (1, .row 7 [[I fx, I fy, I fz, I tx, I ty, I tz, I n]] true false), (0, .row 11 [stgL h s] true false)]) 18 18
   (fun t => t.2 = t.1 /\ t.1 <= ns.length + 1 /\ chkW (wP h s) (pts.drop t.1) = chkW (wP h s) pts) (0, 0) ⟨rfl, Nat.zero_le _, rfl⟩ (Nat.le_refl _) [] rfl (kps) (kps) ?_
  rintro ⟨k, i⟩ ⟨hi1, hk1, hck⟩
  dsimp only at hi1 hk1 hck ⊢
  subst hi1
  by_cases hlt : k < ns.length + 1
  ·have b0 : ((k : Nat) : Int) < IntKind.i64.wrap (((nl ns).length : Int) + 1) := by rw [x1]; omega
   have b2 : IntKind.i64.wrap (((k : Nat) : Int) + 1) = ((k + 1 : Nat) : Int) := by rw [W_eq (by omega) (by omega)]; omega
   have e3 : (pts.map ptc)[0 + ((k : Nat) : Int).toNat]? = some (ptc (pts[k]'(by omega))) := by rw [Int.toNat_natCast, Nat.zero_add]; exact Zgm (by omega)
   have e4 : (pts.map ptc)[0 + (IntKind.i64.wrap (((k : Nat) : Int) + 1)).toNat]? = some (ptc (pts[k + 1]'(by omega))) := by rw [b2, Int.toNat_natCast, Nat.zero_add]; exact Zgm (by omega)
   rw [Zon (by omega)] at hck
   have v1 := Zqg (h := h) (s := s) (hwf (pts[k]'(by omega)) (List.getElem_mem _)) (hwf (pts[k + 1]'(by omega)) (List.getElem_mem _))
   have hw : wP h s (pts[k]'(by omega)) (pts[k + 1]'(by omega)) = (decide (wayE h s (pts[k]'(by omega)) (pts[k + 1]'(by omega)) = 0) && Ze7 h s (pts[k]'(by omega)) (pts[k + 1]'(by omega))) := rfl
   rw [hw] at hck
   clear hw
   generalize (pts[k]'(by omega)) = p1 at *
   generalize (pts[k + 1]'(by omega)) = p2 at *
   generalize wayE h s p1 p2 = u at *
   generalize Ze7 h s p1 p2 = f at *
   obtain ⟨x1, y1, z1, d1⟩ := p1
   obtain ⟨x2, y2, z2, d2⟩ := p2
   refine bs.av (sx := nos) hk0 ?_
   cases hb : (decide (u = 0) && f) with
   | true =>
    rw [hb, Bool.true_and] at hck
    repeat' (first | refine wk3 ?_ | (refine wk2 ?_ ?_ <;> intro _) | refine wk4 ?_ | fail); all_goals (conv => whnf)
    all_goals first
     | (exfalso; clear hk0; simp_all; done)
     | exact Done.mk ⟨(k + 1, _), [], rfl, kps, kps, ⟨b2, hlt, hck⟩, by dsimp only; omega⟩
   | false =>
    rw [hb, Bool.false_and] at hck
    rw [<-hck, if_neg (by simp)] at hR
    subst hR
    repeat' (first | refine wk3 ?_ | (refine wk2 ?_ ?_ <;> intro _) | refine wk4 ?_ | fail); all_goals (conv => whnf)
    all_goals first
     | exact Zf rfl rfl
     | (exfalso; clear hk0; simp_all; done)
  ·have hke : k = ns.length + 1 := by omega
   subst hke
   rw [Zoo (by omega)] at hck
   rw [<-hck, if_pos rfl] at hR
   subst hR
   refine Awp.froz [3] rfl (bs.av (sx := nos) hk0 ?_)
   conv => whnf
   repeat' (first | refine wk3 ?_ | (refine wk2 ?_ ?_ <;> intro _) | refine wk4 ?_ | fail); all_goals (conv => whnf)
   have y1 : Zeb (some (I (IntKind.i64.wrap (((nl ns).length : Int) + 1)))) (IntKind.i64.wrap (((nl ns).length : Int) + 2)).toNat = some (ns.length + 1) := by
    show cond (decide (0 <= IntKind.i64.wrap (((nl ns).length : Int) + 1))) (some (IntKind.i64.wrap (((nl ns).length : Int) + 1)).toNat) none = _
    rw [x1, decide_eq_true (by omega)]
    simp only [cond_true, Option.some.injEq]; omega
   have cl : clR [.isl 4 (List.take (ns.length + 1 - Int.toNat 1) (List.drop (0 + Int.toNat 1) (pts.map ptc)))] = some ⟨.asl 0 0 ((P.map tup4).map hp4).length, [(4, (P.map tup4).map hp4)]⟩ := by
    have e : List.take (ns.length + 1 - Int.toNat 1) (List.drop (0 + Int.toNat 1) (pts.map ptc)) = (P.map tup4).map hp4 := by
     rw [hpe, List.cons_append, List.map_cons, show (0 + Int.toNat 1) = 1 from rfl, List.drop_succ_cons, List.drop_zero, List.map_append, show ns.length + 1 - Int.toNat 1 = (P.map ptc).length by rw [List.length_map, hPl]; omega, List.take_left, List.map_map]
     rfl
    rw [e]
    exact Yc9 (by rw [List.length_map]; omega) (by rw [List.length_map]; omega)
   have e5 : (imC (im1 h s) (fx, fy, fz) ns ns.length)[((nl ns).length : Int).toNat]? = some (pl3 (imA (im1 h s) (fx, fy, fz) ns ns.length)) := by
    rw [Int.toNat_natCast, ll]; exact Zlx _ _ _ _
   refine Zk4 rfl rfl rfl rfl rfl rfl y1 (by omega) (by rw [x2]; omega) (by rw [x2]; omega) ?_
   conv => whnf
   generalize imA (im1 h s) (fx, fy, fz) ns ns.length = q at *
   obtain ⟨qx, qy, qz⟩ := q
   repeat' (first | refine wk3 ?_ | (refine wk2 ?_ ?_ <;> intro _) | refine wk4 ?_ | fail); all_goals (conv => whnf)
   exact Xf [19, 25] rfl rfl rfl
theorem Zvc {r : Locs} {I : Imm} {w : World} {D : Nat -> Prop} {es : Nat} {x : Value} (h : VR r I w D (.isl es []) x) (r' : Locs) (I' : Imm) (w' : World) (D' : Nat -> Prop) : VR r' I' w' D' (.isl es []) x := by
 cases h with
 | isl0 => exact .isl0 _ _ _ _
 | isl _ _ _ _ _ _ h1 => exact .isl0 _ _ _ _
theorem d65f {h : Hal} (hk : h.ok) {s : Stg} (hs : s.few) {a : Ask} (e : askE h s a = 0) {ns : List Int} (hl : ns.length <= 4) (hi : ∀ n ∈ ns, 0 <= n /\ n < nsur h) :
  Zow Tryz.prog 65 [.agg (stgL h s), a.av, .isl 1 (nl ns)] (ansP (Xl h s (qF a) (qT a) ns)) := by
 by_cases h0 : 0 < ns.length
 ·refine Zus (d65r hk hs (Yx e).e0 a (Yx e).f (Yx e).t h0 hl hi) ?_ ?_ ?_
  ·cases Xl h s (qF a) (qT a) ns <;> rfl
  ·show Zab (rowP (Xl h s (qF a) (qT a) ns)).blks = true
   cases Xl h s (qF a) (qT a) ns with
   | none => rfl
   | some p => (simp [rowP, Zab, Zo8, Zee, nl]; exact ⟨fun _ _ => rfl, fun _ _ _ _ _ => rfl⟩)
  ·show Frz (rowP (Xl h s (qF a) (qT a) ns)).blks (rowP (Xl h s (qF a) (qT a) ns)).v _
   cases Xl h s (qF a) (qT a) ns with
   | none => exact ⟨⟨rfl, rfl, ⟨rfl, rfl⟩, trivial⟩, ⟨rfl, rfl⟩, trivial⟩
   | some p => exact ⟨⟨⟨rfl, rfl, rfl⟩, ⟨rfl, rfl, rfl⟩, ⟨rfl, rfl⟩, trivial⟩, ⟨rfl, rfl⟩, trivial⟩
 ·obtain rfl : ns = [] := List.length_eq_zero_iff.1 (by omega)
  have hd := (d65 hk hs (Yx e).e0 a (Yx e).f (Yx e).t hl hi).freeze (Zx7 _)
  obtain ⟨n, b, hv⟩ : ∃ n b, ansP (Xl h s (a.fx, a.fy, a.fz) (a.tx, a.ty, a.tz) []) = .tup [.agg [.isl 1 [], .isl 4 [], I n], Bo b] := by
   cases hp : Xl h s (a.fx, a.fy, a.fz) (a.tx, a.ty, a.tz) [] with
   | none => exact ⟨0, false, rfl⟩
   | some p =>
    have h1 := Zfn hp
    have h2 := Zhr hp
    obtain ⟨ss, ps, sq⟩ := p
    dsimp only at h1 h2
    subst h1
    obtain rfl : ps = [] := List.length_eq_zero_iff.1 (by simpa using h2)
    exact ⟨sq, true, rfl⟩
  show Zow Tryz.prog 65 _ (ansP (Xl h s (a.fx, a.fy, a.fz) (a.tx, a.ty, a.tz) []))
  rw [hv] at hd ⊢
  refine ⟨hd.1, fun I w vs hI hv => (hd.2 I w vs hI hv).mono fun e w' hh => ?_⟩
  obtain ⟨x, r', I', rfl, hp⟩ := hh
  refine ⟨x, fun _ _ => False, rfl, hp.below, fun b o h => h.elim, ?_⟩
  have hval := hp.val
  cases hval with
  | tup _ _ vs h1 h2 =>
   refine .tup _ _ _ h1 fun i c v hc hx => ?_
   have := h2 i c v hc hx
   match i with
   | 0 =>
    cases hc
    cases this with
    | agg _ _ vs h3 h4 =>
     refine .agg _ _ _ h3 fun i c v hc hx => ?_
     have := h4 i c v hc hx
     match i with
     | 0 => cases hc; exact Zvc this _ _ _ _
     | 1 => cases hc; exact Zvc this _ _ _ _
     | 2 => cases hc; cases this; exact .int _ _ _
     | i + 3 => simp at hc
   | 1 => cases hc; cases this; exact .bool _ _
   | i + 2 => simp at hc
set_option maxRecDepth 100000 in
set_option maxHeartbeats 8000000 in
theorem d18 {h : Hal} (hk : h.ok) {s : Stg} (hs : s.few) (a : Ask) : PCall Tryz.prog 18 [h.av, s.av, a.av] ⟨I (askE h s a), []⟩ := by
 have hk0 := Ze (d90 hk) (Ze (c75 hk.f hs) Zc)
 by_cases e : serr h s = 0
 ·have he := Zbm e
  have e2 : setE h s = 0 := by unfold serr at e; rw [if_pos he] at e; exact e
  obtain ⟨fx, fy, fz, tx, ty, tz, n⟩ := a
  unfold askE
  rw [if_pos e]
  rw [he, e2] at hk0
  dsimp only
  have hk1 := Yd3 hk he (Ze (d68 n) hk0)
  have q1 := Zln h fx fy fz
  have q2 := Zln h tx ty tz
  simp only [fstL]
  refine bs.pv (sx := nos) hk1 Tryz.func18 (by kernel_rfl) (by kernel_rfl) rfl ?_
  clear hk1 hk0
  repeat' (first | refine wk3 ?_ | (refine wk2 ?_ ?_ <;> intro _) | refine wk4 ?_ | fail); all_goals (conv => whnf)
  all_goals first
   | (refine Za ?_; simp_all [Ask.same, unl]; done)
   | (refine Za ?_; clear q1 q2; cases hw : within n 0 4 <;> by_cases c1 : fx = tx <;> by_cases c2 : fy = ty <;> by_cases c3 : fz = tz <;> simp_all [Ask.same, unl] <;> done)
   | (exfalso; simp_all; done)
 ·rw [show askE h s a = serr h s by unfold askE; rw [if_neg e]]
  unfold serr at e ⊢
  refine bs.pv (sx := nos) hk0 Tryz.func18 (by kernel_rfl) (by kernel_rfl) rfl ?_
  clear hk0
  repeat' (first | refine wk3 ?_ | (refine wk2 ?_ ?_ <;> intro _) | refine wk4 ?_ | fail); all_goals (conv => whnf)
  all_goals first
   | (refine Za ?_; simp_all; done)
   | (exfalso; simp_all; done)
theorem Zx8 (o : Option Pth) (n : Int) : Frz [] (.tup [rawO o, I n]) (.tup [(o.getD zPth).av, I n]) := by
 cases o with
 | none => exact ⟨⟨rfl, rfl, ⟨rfl, rfl⟩, trivial⟩, ⟨rfl, rfl⟩, trivial⟩
 | some p => exact ⟨⟨⟨rfl, rfl⟩, ⟨rfl, rfl⟩, ⟨rfl, rfl⟩, trivial⟩, ⟨rfl, rfl⟩, trivial⟩
theorem d14f {h : Hal} (hk : h.ok) {s : Stg} (hs : s.few) (a : Ask) {ns : List Int} (hl : ns.length < 1000) : PCall Tryz.prog 14 [h.av, s.av, a.av, .isl 1 (nl ns)] ⟨.tup [((pofV h s a ns).1.getD zPth).av, I (pofV h s a ns).2], []⟩ := (d14 hk hs a hl).freeze (Zx8 _ _)
theorem Zmt (p : Pth) : same p p = true := same_iff.2 rfl
def chkP (h : Hal) (s : Stg) (a : Ask) (p : Pth) : Int := match Xl h s (qF a) (qT a) p.ss with
 | none => 20
 | some q => if q.sq = p.sq /\ eqP q.ps p.ps = true then 0 else 20
def cpE (h : Hal) (s : Stg) (a : Ask) (p : Pth) : Int := if pthE p = 0 then (if suE h p.ss = 0 then (if (p.ss.length : Int) <= a.n then chkP h s a p else 2) else suE h p.ss) else pthE p
noncomputable abbrev r97 : List AV -> Option PRes := famA (fun q : List Pt4 × List Pt4 => q.1.length < 1000000 /\ q.2.length < 1000000) (fun q => [.isl 4 (q.1.map hp4), .isl 4 (q.2.map hp4)]) (fun q => ⟨Bo (eqP q.1 q.2), []⟩)
theorem Ydy {pt : PC} (hp : PCOK Tryz.prog pt) : PCOK Tryz.prog (ins 97 r97 pt) := Ym (fun q hq => d97 hq.1 hq.2) hp
theorem Ybw {a b : List Pt4} (h1 : a.length < 1000000) (h2 : b.length < 1000000) : r97 [.isl 4 (a.map hp4), .isl 4 (b.map hp4)] = some ⟨Bo (eqP a b), []⟩ :=
 Zv (p := fun q : List Pt4 × List Pt4 => q.1.length < 1000000 /\ q.2.length < 1000000) (g := fun q => [.isl 4 (q.1.map hp4), .isl 4 (q.2.map hp4)]) (r := fun q => ⟨Bo (eqP q.1 q.2), []⟩) (k := (a, b)) (fun j hj => by
  simp only [List.cons.injEq, AV.isl.injEq, true_and, and_true] at hj
  rw [Zvp hj.1, Zvp hj.2]) ⟨h1, h2⟩
set_option maxRecDepth 100000 in
set_option maxHeartbeats 16000000 in
theorem d34 {h : Hal} (hk : h.ok) {s : Stg} (hs : s.few) (a : Ask) {p : Pth} (hl : p.ss.length < 1000) (hl2 : p.ps.length < 1000) : PCall Tryz.prog 34 [h.av, s.av, a.av, p.av] ⟨I (if askE h s a = 0 then cpE h s a p else askE h s a), []⟩ := by
 have ha := d24 hk hs a
 have hp := fun e e2 => d65a (a := a) (ns := p.ss) hk hs e e2
 have hpe := d162 p
 obtain ⟨fx, fy, fz, tx, ty, tz, n⟩ := a
 by_cases e : askE h s ⟨fx, fy, fz, tx, ty, tz, n⟩ = 0
 rotate_left
 ·rw [if_neg e]
  have hk0 := Yb ha Zc
  have o1 := Yk [h.av, s.av, Ask.av ⟨fx, fy, fz, tx, ty, tz, n⟩] ⟨I (askE h s ⟨fx, fy, fz, tx, ty, tz, n⟩), []⟩
  generalize askE h s ⟨fx, fy, fz, tx, ty, tz, n⟩ = E at *
  refine bs.pv (sx := nos) hk0 Tryz.func34 (by kernel_rfl) (by kernel_rfl) rfl ?_
  repeat' (first | refine wk3 ?_ | (refine wk2 ?_ ?_ <;> intro _) | refine wk4 ?_ | fail); all_goals (conv => whnf)
  all_goals first
   | exact Za rfl
   | (exfalso; clear hk0 o1; simp_all; done)
 have e0 := (Yx e).e0
 have hw := d165 hk (Zbm e0) p.ss hl
 rw [if_pos e]
 rw [e] at ha
 have hp := hp e
 have ll := Zk p.ss
 have ef : ∀ A B C : Int, fstL [A, B, C] = if A = 0 then (if B = 0 then C else B) else A := fun A B C => by
  simp only [fstL]
  by_cases c1 : A = 0 <;> by_cases c2 : B = 0 <;> by_cases c3 : C = 0 <;> simp [c1, c2, c3]
 have efw := ef (pthE p) (suE h p.ss) (unl (decide ((p.ss.length : Int) <= n)) 2)
 have o1 := Yk [h.av, s.av, Ask.av ⟨fx, fy, fz, tx, ty, tz, n⟩] ⟨I 0, []⟩
 have o2 := Yk [h.av, .isl 1 (nl p.ss)] ⟨I (suE h p.ss), []⟩
 have o4 := Yk [p.av] ⟨I (pthE p), []⟩
 have ll2 : (((nl p.ss).length : Nat) : Int) = (p.ss.length : Int) := by rw [ll]
 have o5 : rFst [.isl 1 [[I (pthE p)], [I (suE h p.ss)], [I (unl (decide (((nl p.ss).length : Int) <= n)) 2)]]] = some ⟨I (fstL [pthE p, suE h p.ss, unl (decide ((p.ss.length : Int) <= n)) 2]), []⟩ := by
  rw [ll2]; exact Zqv (l := [pthE p, suE h p.ss, unl (decide ((p.ss.length : Int) <= n)) 2]) (by simp)
 rw [efw] at o5
 clear efw ef
 unfold cpE
 by_cases c1 : pthE p = 0
 rotate_left
 ·rw [if_neg c1] at o5 ⊢
  have hk0 := Yb ha (Yb hw (Yb hpe (Zm1 (Zil Zc))))
  obtain ⟨ss, ps, sq⟩ := p
  generalize pthE ⟨ss, ps, sq⟩ = E at *
  generalize suE h ss = F at *
  refine bs.pv (sx := nos) hk0 Tryz.func34 (by kernel_rfl) (by kernel_rfl) rfl ?_
  repeat' (first | refine wk3 ?_ | (refine wk2 ?_ ?_ <;> intro _) | refine wk4 ?_ | fail); all_goals (conv => whnf)
  all_goals first
   | exact Za rfl
   | (exfalso; clear hk0 o1 o2 o4 o5; simp_all; done)
 rw [if_pos c1] at o5 ⊢
 rw [c1] at hpe o4
 by_cases c2 : suE h p.ss = 0
 rotate_left
 ·rw [if_neg c2] at o5 ⊢
  have hk0 := Yb ha (Yb hw (Yb hpe (Zm1 (Zil Zc))))
  obtain ⟨ss, ps, sq⟩ := p
  dsimp only at *
  rw [c1] at o5
  generalize suE h ss = F at *
  clear hp c1
  refine bs.pv (sx := nos) hk0 Tryz.func34 (by kernel_rfl) (by kernel_rfl) rfl ?_
  repeat' (first | refine wk3 ?_ | (refine wk2 ?_ ?_ <;> intro _) | refine wk4 ?_ | fail); all_goals (conv => whnf)
  all_goals first
   | exact Za rfl
   | (exfalso; clear hk0 o1 o2 o4 o5; simp_all; done)
 rw [if_pos c2] at o5 ⊢
 have hp := hp c2
 rw [c1, c2] at o5
 rw [c2] at hw o2
 by_cases c3 : (p.ss.length : Int) <= n
 rotate_left
 ·have c4 : unl (decide ((p.ss.length : Int) <= n)) 2 = 2 := by rw [decide_eq_false c3]; rfl
  rw [c4] at o5
  rw [if_neg c3]
  have hk0 := Yb ha (Yb hw (Yb hpe (Zm1 (Zil Zc))))
  obtain ⟨ss, ps, sq⟩ := p
  dsimp only at *
  clear hp c1
  refine bs.pv (sx := nos) hk0 Tryz.func34 (by kernel_rfl) (by kernel_rfl) rfl ?_
  repeat' (first | refine wk3 ?_ | (refine wk2 ?_ ?_ <;> intro _) | refine wk4 ?_ | fail); all_goals (conv => whnf)
  all_goals first
   | exact Za rfl
   | (exfalso; clear hk0 o1 o2 o4 o5; simp_all; done)
 have c4 : unl (decide ((p.ss.length : Int) <= n)) 2 = 0 := by rw [decide_eq_true c3]; rfl
 rw [c4] at o5
 rw [if_pos c3]
 unfold chkP
 have hk0 := Yb ha (Yb hw (Yb hpe (Zm1 (Zil (Yb hp (Ydy Zc))))))
 cases hv : Xl h s (qF ⟨fx, fy, fz, tx, ty, tz, n⟩) (qT ⟨fx, fy, fz, tx, ty, tz, n⟩) p.ss with
 | none =>
  rw [hv] at hk0
  have o3 := Yk [.agg (stgL h s), Ask.av ⟨fx, fy, fz, tx, ty, tz, n⟩, .isl 1 (nl p.ss)] ⟨rawP none, []⟩
  obtain ⟨ss, ps, sq⟩ := p
  dsimp only at *
  clear hp c1
  refine bs.pv (sx := nos) hk0 Tryz.func34 (by kernel_rfl) (by kernel_rfl) rfl ?_
  repeat' (first | refine wk3 ?_ | (refine wk2 ?_ ?_ <;> intro _) | refine wk4 ?_ | fail); all_goals (conv => whnf)
  all_goals exact Za rfl
 | some q =>
  rw [hv] at hk0
  have o3 := Yk [.agg (stgL h s), Ask.av ⟨fx, fy, fz, tx, ty, tz, n⟩, .isl 1 (nl p.ss)] ⟨rawP (some q), []⟩
  have s2 := Zhr hv
  obtain ⟨ss, ps, sq⟩ := p
  obtain ⟨ss2, ps2, sq2⟩ := q
  dsimp only at *
  have o6 := Ybw (a := ps2) (b := ps) (by omega) (by omega)
  clear hp c1 hv
  generalize eqP ps2 ps = b at *
  by_cases c5 : sq2 = sq
  ·cases b with
   | true =>
    rw [if_pos ⟨c5, rfl⟩]
    refine bs.pv (sx := nos) hk0 Tryz.func34 (by kernel_rfl) (by kernel_rfl) rfl ?_
    repeat' (first | refine wk3 ?_ | (refine wk2 ?_ ?_ <;> intro _) | refine wk4 ?_ | fail); all_goals (conv => whnf)
    all_goals first
     | exact Za rfl
     | (exfalso; clear hk0 o1 o2 o4 o5; simp_all; done)
   | false =>
    rw [if_neg (by simp)]
    refine bs.pv (sx := nos) hk0 Tryz.func34 (by kernel_rfl) (by kernel_rfl) rfl ?_
    repeat' (first | refine wk3 ?_ | (refine wk2 ?_ ?_ <;> intro _) | refine wk4 ?_ | fail); all_goals (conv => whnf)
    all_goals first
     | exact Za rfl
     | (exfalso; clear hk0 o1 o2 o4 o5; simp_all; done)
  ·rw [if_neg (fun k => c5 k.1)]
   refine bs.pv (sx := nos) hk0 Tryz.func34 (by kernel_rfl) (by kernel_rfl) rfl ?_
   repeat' (first | refine wk3 ?_ | (refine wk2 ?_ ?_ <;> intro _) | refine wk4 ?_ | fail); all_goals (conv => whnf)
   all_goals first
    | exact Za rfl
    | (refine Za ?_; simp_all [unl]; done)
    | (exfalso; clear hk0 o1 o2 o4 o5; simp_all; done)
def cmpI (a b : Int) : Int := if a < b then -1 else if b < a then 1 else 0
def cmpL : List Int -> List Int -> Int
 | [], [] => 0
 | [], _ :: _ => -1
 | _ :: _, [] => 1
 | x :: a, y :: b => if cmpI x y = 0 then cmpL a b else cmpI x y
def ordP (a b : Pth) : Int := fstL [cmpI a.sq b.sq, cmpI a.ss.length b.ss.length, cmpL a.ss b.ss]
theorem Yf1 (n : Int) : PCall Tryz.prog 208 [I n] ⟨Bo false, []⟩ := by
 refine bs.pv (sx := nos) Zc Tryz.func208 (by kernel_rfl) (by kernel_rfl) rfl ?_
 repeat' (first | refine wk3 ?_ | (refine wk2 ?_ ?_ <;> intro _) | refine wk4 ?_ | fail); all_goals (conv => whnf)
 all_goals exact Zb (by simp)
def Yd4 : List AV -> Option PRes
 | [.int .i64 _] => some ⟨Bo false, []⟩
 | _ => none
theorem Zx9 {pt : PC} (h : PCOK Tryz.prog pt) : PCOK Tryz.prog (ins 208 Yd4 pt) := Zi (fun a res h => by unfold Yd4 at h; split at h <;> cases h; exact Yf1 _) h
theorem d147 (a b : Int) : PCall Tryz.prog 147 [I a, I b] ⟨I (cmpI a b), []⟩ := by
 have key : cmpI a b = cond (decide (a < b)) (-1) (cond (decide (b < a)) 1 0) := by
  unfold cmpI
  by_cases c1 : a < b
  ·simp [c1]
  ·by_cases c2 : b < a <;> simp [c1, c2]
 rw [key]
 refine bs.pv (sx := nos) (Zx9 Zc) Tryz.func147 (by kernel_rfl) (by kernel_rfl) rfl ?_
 repeat' (first | refine wk3 ?_ | (refine wk2 ?_ ?_ <;> intro _) | refine wk4 ?_ | fail); all_goals (conv => whnf)
 all_goals (refine Za ?_; clear key; generalize decide (a < b) = p at *; generalize decide (b < a) = q at *; simp_all)
def r147 : List AV -> Option PRes
 | [.int .i64 a, .int .i64 b] => some ⟨I (cmpI a b), []⟩
 | _ => none
theorem Zul {pt : PC} (h : PCOK Tryz.prog pt) : PCOK Tryz.prog (ins 147 r147 pt) := Zi (fun a res h => by unfold r147 at h; split at h <;> cases h; exact d147 _ _) h
set_option maxHeartbeats 4000000 in
theorem d148 {a b : List Int} (ha : a.length < 1000000) (hb : b.length < 1000000) : PCall Tryz.prog 148 [.isl 1 (nl a), .isl 1 (nl b)] ⟨I (cmpL a b), []⟩ := by
 have la := Zk a
 have lb := Zk b
 have hk := Zul Zc
 refine bs.pv (sx := nos) hk Tryz.func148 (by kernel_rfl) (by kernel_rfl) rfl ?_
 repeat' (first | refine wk3 ?_ | (refine wk2 ?_ ?_ <;> intro _) | refine wk4 ?_ | fail); all_goals (conv => whnf)
 refine Ya (S := Nat × Int) (fun t => a.length - t.1) (fun t => [(0, .isl 1 (nl a)), (1, .isl 1 (nl b)), (9, .isl 1 (nl a)), (10, I (nl a).length), (11, I t.2)]) (fun _ => []) 0 0
  (fun t => t.2 = t.1 /\ t.1 <= a.length /\ t.1 <= b.length /\ cmpL (a.drop t.1) (b.drop t.1) = cmpL a b) (0, 0) ⟨rfl, Nat.zero_le _, Nat.zero_le _, rfl⟩ (Nat.le_refl _) [] rfl (kps) (kps) ?_
 rintro ⟨k, i⟩ ⟨hi, h1, h2, hh⟩
 dsimp only at hi h1 h2 hh ⊢
 subst hi
 generalize cmpL a b = R at *
 refine bs.av (sx := nos) hk ?_
 by_cases c1 : k < a.length
 ·have e1 := Xw c1
  by_cases c2 : k < b.length
  ·have e2 := Xw c2
   rw [List.drop_eq_getElem_cons c1, List.drop_eq_getElem_cons c2, cmpL] at hh
   generalize a[k] = x at *
   generalize b[k] = y at *
   generalize hz : cmpI x y = z at *
   have hz2 : r147 [I x, I y] = some ⟨I z, []⟩ := by rw [<-hz]; rfl
   by_cases c3 : z = 0
   ·rw [if_pos c3] at hh
    repeat' (first | refine wk3 ?_ | (refine wk2 ?_ ?_ <;> intro _) | refine wk4 ?_ | fail); all_goals (conv => whnf)
    all_goals first
     | (exfalso; clear hk; simp_all; done)
     | exact Done.mk ⟨(k + 1, _), [], rfl, kps, kps, ⟨Zg (by omega), c1, c2, hh⟩, by dsimp only; omega⟩
   ·rw [if_neg c3] at hh
    subst hh
    repeat' (first | refine wk3 ?_ | (refine wk2 ?_ ?_ <;> intro _) | refine wk4 ?_ | fail); all_goals (conv => whnf)
    all_goals first
     | exact Za (by assumption)
     | exact Za rfl
     | (exfalso; clear hk; simp_all; done)
  ·rw [List.drop_eq_getElem_cons c1, show b.drop k = [] from List.drop_of_length_le (by omega), cmpL] at hh
   subst hh
   repeat' (first | refine wk3 ?_ | (refine wk2 ?_ ?_ <;> intro _) | refine wk4 ?_ | fail); all_goals (conv => whnf)
   exact Za rfl
 ·rw [show a.drop k = [] from List.drop_of_length_le (by omega)] at hh
  by_cases c2 : k < b.length
  ·rw [List.drop_eq_getElem_cons c2, cmpL] at hh
   subst hh
   repeat' (first | refine wk3 ?_ | (refine wk2 ?_ ?_ <;> intro _) | refine wk4 ?_ | fail); all_goals (conv => whnf)
   exact Za rfl
  ·rw [List.drop_of_length_le (by omega), cmpL] at hh
   subst hh
   repeat' (first | refine wk3 ?_ | (refine wk2 ?_ ?_ <;> intro _) | refine wk4 ?_ | fail); all_goals (conv => whnf)
   exact Za rfl
noncomputable abbrev r148 : List AV -> Option PRes := famA (fun q : List Int × List Int => q.1.length < 1000000 /\ q.2.length < 1000000) (fun q => [.isl 1 (nl q.1), .isl 1 (nl q.2)]) (fun q => ⟨I (cmpL q.1 q.2), []⟩)
theorem Ybx {pt : PC} (hp : PCOK Tryz.prog pt) : PCOK Tryz.prog (ins 148 r148 pt) := Ym (fun q hq => d148 hq.1 hq.2) hp
theorem Zya {a b : List Int} (h1 : a.length < 1000000) (h2 : b.length < 1000000) : r148 [.isl 1 (nl a), .isl 1 (nl b)] = some ⟨I (cmpL a b), []⟩ :=
 Zv (p := fun q : List Int × List Int => q.1.length < 1000000 /\ q.2.length < 1000000) (g := fun q => [.isl 1 (nl q.1), .isl 1 (nl q.2)]) (r := fun q => ⟨I (cmpL q.1 q.2), []⟩) (k := (a, b)) (fun j hj => by
  simp only [List.cons.injEq, AV.isl.injEq, true_and, and_true] at hj
  rw [Zfp hj.1, Zfp hj.2]) ⟨h1, h2⟩
theorem d146 {l : List Int} (hl : l.length < 1000) : PCall Tryz.prog 146 [.isl 1 (nl l)] ⟨I (fstL l), []⟩ := by
 have ll := Zk l
 refine bs.pv (sx := nos) Zc Tryz.func146 (by kernel_rfl) (by kernel_rfl) rfl ?_
 repeat' (first | refine wk3 ?_ | (refine wk2 ?_ ?_ <;> intro _) | refine wk4 ?_ | fail); all_goals (conv => whnf)
 refine Ya (S := Nat × Int) (fun t => l.length - t.1) (fun t => [(3, I 0), (6, .isl 1 (nl l)), (7, I (nl l).length), (8, I t.2)]) (fun _ => []) 0 0
  (fun t => t.2 = t.1 /\ t.1 <= l.length /\ fstL (l.drop t.1) = fstL l) (0, 0) ⟨rfl, Nat.zero_le _, rfl⟩ (Nat.le_refl _) [] rfl (kps) (kps) ?_
 rintro ⟨k, i⟩ ⟨hi, hk, hh⟩
 dsimp only at hi hk hh ⊢
 subst hi
 generalize fstL l = R at *
 refine bs.av (sx := nos) Zc ?_
 by_cases hlt : k < l.length
 ·have e1 := Xw hlt
  rw [List.drop_eq_getElem_cons hlt, fstL] at hh
  generalize l[k] = x at *
  by_cases c : x = 0
  ·rw [if_neg (fun q => q c)] at hh
   repeat' (first | refine wk3 ?_ | (refine wk2 ?_ ?_ <;> intro _) | refine wk4 ?_ | fail); all_goals (conv => whnf)
   all_goals first
    | (exfalso; simp_all; done)
    | exact Done.mk ⟨(k + 1, _), [], rfl, kps, kps, ⟨Zg (by omega), hlt, hh⟩, by dsimp only; omega⟩
  ·rw [if_pos c] at hh
   subst hh
   repeat' (first | refine wk3 ?_ | (refine wk2 ?_ ?_ <;> intro _) | refine wk4 ?_ | fail); all_goals (conv => whnf)
   all_goals first
    | exact Za rfl
    | (exfalso; simp_all; done)
 ·rw [List.drop_of_length_le (by omega), fstL] at hh
  subst hh
  repeat' (first | refine wk3 ?_ | (refine wk2 ?_ ?_ <;> intro _) | refine wk4 ?_ | fail); all_goals (conv => whnf)
  exact Za rfl
noncomputable abbrev rOr : List AV -> Option PRes := famA (fun l : List Int => l.length < 1000) (fun l => [.isl 1 (nl l)]) (fun l => ⟨I (fstL l), []⟩)
theorem Ydx {pt : PC} (hp : PCOK Tryz.prog pt) : PCOK Tryz.prog (ins 146 rOr pt) := Ym (fun l hl => d146 hl) hp
theorem Ybv {l : List Int} (h : l.length < 1000) : rOr [.isl 1 (nl l)] = some ⟨I (fstL l), []⟩ :=
 Zv (p := fun l : List Int => l.length < 1000) (g := fun l => [.isl 1 (nl l)]) (r := fun l => ⟨I (fstL l), []⟩) (fun j hj => by
  simp only [List.cons.injEq, AV.isl.injEq, true_and, and_true] at hj
  rw [Zfp hj]) h
theorem d115 {a b : Pth} (ha : a.ss.length < 1000000) (hb : b.ss.length < 1000000) : PCall Tryz.prog 115 [a.av, b.av] ⟨I (ordP a b), []⟩ := by
 obtain ⟨s1, p1, q1⟩ := a
 obtain ⟨s2, p2, q2⟩ := b
 dsimp only at ha hb
 have l1 := Zk s1
 have l2 := Zk s2
 have e1 := Zya ha hb
 have e2 := Ybv (l := [cmpI q1 q2, cmpI ((nl s1).length : Int) ((nl s2).length : Int), cmpL s1 s2]) (by simp)
 unfold ordP
 dsimp only
 rw [<-l1, <-l2]
 refine bs.pv (sx := nos) (Zul (Ybx (Ydx Zc))) Tryz.func115 (by kernel_rfl) (by kernel_rfl) rfl ?_
 repeat' (first | refine wk3 ?_ | (refine wk2 ?_ ?_ <;> intro _) | refine wk4 ?_ | fail); all_goals (conv => whnf)
 exact Za rfl
theorem Vp (a b : Int) : (a < b /\ cmpI a b = -1) \/ (a = b /\ cmpI a b = 0) \/ (b < a /\ cmpI a b = 1) := by
 unfold cmpI
 split
 ·exact .inl ⟨‹_›, rfl⟩
 ·split
  ·exact .inr (.inr ⟨‹_›, rfl⟩)
  ·exact .inr (.inl ⟨by omega, rfl⟩)
theorem Zol : ∀ a : List Int, cmpL a a = 0
 | [] => rfl
 | x :: a => by
  have : cmpI x x = 0 := by rcases Vp x x with h | h | h <;> omega
  rw [cmpL, if_pos this, Zol a]
theorem Zom : ∀ a b : List Int, cmpL b a = -cmpL a b
 | [], [] => rfl
 | [], _ :: _ => rfl
 | _ :: _, [] => rfl
 | x :: a, y :: b => by
  rw [cmpL, cmpL, Zom a b]
  rcases Vp x y with h | h | h <;> rcases Vp y x with k | k | k <;> rw [h.2, k.2] <;> first | rfl | omega
theorem Zok : ∀ {a b : List Int}, cmpL a b = 0 -> a = b
 | [], [], _ => rfl
 | [], _ :: _, h => by cases h
 | _ :: _, [], h => by cases h
 | x :: a, y :: b, h => by
  rw [cmpL] at h
  rcases Vp x y with k | k | k
  ·rw [k.2] at h; simp at h
  ·rw [k.2] at h; rw [k.1, Zok (a := a) (b := b) (by simpa using h)]
  ·rw [k.2] at h; simp at h
theorem Zk1 : ∀ {a b c : List Int}, cmpL a b <= 0 -> cmpL b c <= 0 -> cmpL a c <= 0
 | [], _, [], _, _ => by simp [cmpL]
 | [], _, _ :: _, _, _ => by simp [cmpL]
 | x :: a, [], c, h, _ => by simp [cmpL] at h
 | x :: a, y :: b, [], _, h => by simp [cmpL] at h
 | x :: a, y :: b, z :: c, h1, h2 => by
  rw [cmpL] at h1 h2 ⊢
  rcases Vp x y with k | k | k <;> rcases Vp y z with m | m | m <;> rcases Vp x z with n | n | n <;> rw [k.2] at h1 <;> rw [m.2] at h2 <;> rw [n.2]
  all_goals simp at h1 h2 ⊢
  all_goals first
   | omega
   | exact Zk1 h1 h2
abbrev ordK (p : Pth) : List Int := p.sq :: (p.ss.length : Int) :: p.ss
theorem Zdb (a b : Pth) : ordP a b = cmpL (ordK a) (ordK b) := by
 unfold ordP ordK
 simp only [fstL, cmpL]
 by_cases c1 : cmpI a.sq b.sq = 0 <;> by_cases c2 : cmpI a.ss.length b.ss.length = 0 <;> by_cases c3 : cmpL a.ss b.ss = 0 <;> simp [c1, c2, c3]
theorem Zuv (a : Pth) : ordP a a = 0 := by rw [Zdb, Zol]
theorem Zat (a b : Pth) : ordP b a = -ordP a b := by rw [Zdb, Zdb, Zom]
theorem Zdz {a b c : Pth} (h1 : ordP a b <= 0) (h2 : ordP b c <= 0) : ordP a c <= 0 := by rw [Zdb] at *; exact Zk1 h1 h2
theorem Zm6 {a b : Pth} (h : ordP a b = 0) : a.sq = b.sq /\ a.ss = b.ss := by
 rw [Zdb] at h
 have := Zok h
 simp only [ordK, List.cons.injEq] at this
 exact ⟨this.1, this.2.2⟩
theorem Zyg : Go.Sort.SWO (Go.Proofs.ltOf ordP) := by
 refine ⟨fun x => ?_, fun x y z h1 h2 => ?_, fun x y z h1 h2 => ?_⟩
 ·simp [ltOf, Zuv]
 ·simp only [ltOf, decide_eq_true_eq] at *
  have h := Zdz (Int.le_of_lt h1) (Int.le_of_lt h2)
  rcases Int.lt_or_eq_of_le h with h | h
  ·exact h
  ·obtain ⟨e1, e2⟩ := Zm6 h
   have : ordP x y = ordP z y := by rw [Zdb, Zdb]; unfold ordK; rw [e1, e2]
   have := Zat y z
   omega
 ·simp only [ltOf, decide_eq_false_iff_not, Int.not_lt] at *
  have a1 := Zat x y
  have a2 := Zat y z
  have a3 := Zat x z
  have := Zdz (a := z) (b := y) (c := x) (by omega) (by omega)
  omega
theorem Zml {G : Pth -> Prop} (hG : ∀ a b, G a -> G b -> a.ss = b.ss -> a = b) : ∀ {l m : List Pth}, l.Perm m -> (∀ a ∈ l, G a) -> l.Pairwise (fun a b => ordP a b <= 0) -> m.Pairwise (fun a b => ordP a b <= 0) -> l = m
 | [], m, hp, _, _, _ => by rw [List.nil_perm.1 hp]
 | a :: l, [], hp, _, _, _ => by have := hp.length_eq; simp at this
 | a :: l, b :: m, hp, hg, h1, h2 => by
  have hab : a = b := by
   by_cases c : a = b
   ·exact c
   ·have hb : b ∈ a :: l := hp.symm.subset (by simp)
    have ha : a ∈ b :: m := hp.subset (by simp)
    rw [List.mem_cons] at ha hb
    have q1 := (List.pairwise_cons.1 h1).1 b (by rcases hb with h | h; exact absurd h.symm c; exact h)
    have q2 := (List.pairwise_cons.1 h2).1 a (by rcases ha with h | h; exact absurd h c; exact h)
    have q3 := Zat a b
    have q4 := Zm6 (a := a) (b := b) (by omega)
    exact hG a b (hg a (by simp)) (hg b (hp.symm.subset (by simp))) q4.2
  subst hab
  rw [Zml hG (List.perm_cons a |>.1 hp) (fun x hx => hg x (by simp [hx])) (List.pairwise_cons.1 h1).2 (List.pairwise_cons.1 h2).2]
def putM (p : Pth) (l : List Pth) : Nat -> Nat
 | 0 => 0
 | m + 1 => match l[m]? with
  | some x => if ordP p x < 0 then putM p l m else m + 1
  | none => m + 1
def putL (l : List Pth) (p : Pth) : List Pth := l.take (putM p l l.length) ++ p :: l.drop (putM p l l.length)
theorem Zuo (p : Pth) (l : List Pth) : ∀ m, putM p l m <= m
 | 0 => Nat.le_refl _
 | m + 1 => by
  rw [putM]
  split
  ·split
   ·exact Nat.le_trans (Zuo p l m) (Nat.le_succ _)
   ·exact Nat.le_refl _
  ·exact Nat.le_refl _
theorem Zup (l : List Pth) (p : Pth) : (putL l p).Perm (p :: l) := by
 unfold putL
 refine List.perm_middle.trans ?_
 rw [List.take_append_drop]
theorem Zm3 (p : Pth) (l : List Pth) : ∀ m, m <= l.length -> (∀ j (h : j < l.length), putM p l m <= j -> j < m -> ordP p l[j] < 0) /\ (∀ j (h : j < l.length), j + 1 = putM p l m -> ¬ ordP p l[j] < 0)
 | 0, _ => ⟨fun j h h1 h2 => by omega, fun j h h1 => by simp [putM] at h1⟩
 | m + 1, hm => by
  have hml : m < l.length := by omega
  rw [putM, List.getElem?_eq_getElem hml]
  dsimp only
  by_cases c : ordP p l[m] < 0
  ·rw [if_pos c]
   obtain ⟨q1, q2⟩ := Zm3 p l m (by omega)
   refine ⟨fun j h h1 h2 => ?_, q2⟩
   by_cases e : j = m
   ·subst e; exact c
   ·exact q1 j h h1 (by omega)
  ·rw [if_neg c]
   refine ⟨fun j h h1 h2 => by omega, fun j h h1 => ?_⟩
   have : j = m := by omega
   subst this; exact c
theorem Zpc {l : List Pth} {p : Pth} (hs : l.Pairwise (fun a b => ordP a b <= 0)) : (putL l p).Pairwise (fun a b => ordP a b <= 0) := by
 have hle := Zuo p l l.length
 obtain ⟨q1, q2⟩ := Zm3 p l l.length (Nat.le_refl _)
 unfold putL
 generalize putM p l l.length = m at *
 rw [List.pairwise_append]
 have hgt : ∀ x ∈ l.drop m, ordP p x <= 0 := fun x hx => by
  obtain ⟨i, hi, rfl⟩ := List.mem_iff_getElem.1 hx
  rw [List.length_drop] at hi
  rw [List.getElem_drop]
  exact Int.le_of_lt (q1 (m + i) (by omega) (by omega) (by omega))
 have hlt : ∀ x ∈ l.take m, ordP x p <= 0 := fun x hx => by
  obtain ⟨i, hi, rfl⟩ := List.mem_iff_getElem.1 hx
  rw [List.length_take] at hi
  rw [List.getElem_take]
  have h1 := q2 (m - 1) (by omega) (by omega)
  have h2 := Zat (l[m - 1]'(by omega)) p
  have h3 : ordP (l[m - 1]'(by omega)) p <= 0 := by omega
  by_cases e : i = m - 1
  ·subst e; exact h3
  ·exact Zdz (List.pairwise_iff_getElem.1 hs i (m - 1) (by omega) (by omega) (by omega)) h3
 refine ⟨hs.sublist (List.take_sublist _ _), ?_, fun a ha b hb => ?_⟩
 ·rw [List.pairwise_cons]
  exact ⟨hgt, hs.sublist (List.drop_sublist _ _)⟩
 ·rcases List.mem_cons.1 hb with rfl | hb
  ·exact hlt a ha
  ·exact Zdz (hlt a ha) (hgt b hb)
def rngI (k n : Nat) : List Int := (List.range' k (n - k)).map fun (i : Nat) => (i : Int)
theorem Zc3 {k n : Nat} (h : k < n) : rngI k n = (k : Int) :: rngI (k + 1) n := by
 unfold rngI
 rw [show n - k = (n - (k + 1)) + 1 by omega, List.range'_succ]
 rfl
theorem Zfi {k n : Nat} (h : n <= k) : rngI k n = [] := by
 unfold rngI
 rw [show n - k = 0 by omega]
 rfl
def wlk (n : Nat) : Nat -> List Int -> List (List Int)
 | 0, L => [L]
 | o + 1, L => L :: (rngI 0 n).flatMap fun i => if L.getLast? = some i then [] else wlk n o (L ++ [i])
def nl1 (ns : List Int) : List (List AV) := ns.map fun n => [I n]
abbrev lsX (l : List (List Int)) : List (List AV) := l.map fun L => [.isl 1 (nl1 L)]
def Xe : FuncId -> Bool := fun f => Nat.beq f 143
set_option maxHeartbeats 4000000 in
theorem Ycl (n : Nat) (hn : n < 1000) : Zox Tryz.prog 142 [] [.ipt [I 0], .ipt [I (n : Int)]] (lsX (wlk n 0 [])) := by
 refine bs.titer (sx := Xe) Zc Tryz.func142 (by kernel_rfl) rfl (by kernel_rfl) fun B Ig l JX hI => ?_
 conv => whnf
 refine bs.ysv (sx := Xe) Zc hI Tryz.func143 (by kernel_rfl) rfl (by kernel_rfl) ?_
 conv => whnf
 refine Yd.mk ⟨rfl, rfl, ⟨_, _, rfl, .inr ⟨rfl, _, rfl⟩, trivial⟩, (fun h => by cases h), ?_, ?_⟩
 ·repeat' (first | refine wk3 ?_ | (refine wk2 ?_ ?_ <;> intro _) | refine wk4 ?_ | fail); all_goals (conv => whnf)
  exact Done.mk (.inl rfl)
 ·repeat' (first | refine wk3 ?_ | (refine wk2 ?_ ?_ <;> intro _) | refine wk4 ?_ | fail); all_goals (conv => whnf)
  exact Done.mk (.inr rfl)
def w1Z (l : Nat) (f : AV) : Nat -> List (List AV) -> List (Nat × ABlk)
 | 0, _ => [(2, .row 1 [[f]] true false), (1, .row 1 [[.nils]] true false), (0, .row 1 [[.yld l]] true false)]
 | _ + 1, A => [(3, .row 1 A true true), (2, .row 1 [[f]] true false), (1, .row 1 [[.asl 3 0 0]] true false), (0, .row 1 [[.yld l]] true false)]
set_option maxHeartbeats 4000000 in
theorem Yck (n : Nat) (hn : n < 1000) : Zox Tryz.prog 142 [] [.ipt [I 1], .ipt [I (n : Int)]] (lsX (wlk n 1 [])) := by
 refine bs.titer (sx := Xe) Zc Tryz.func142 (by kernel_rfl) rfl (by kernel_rfl) fun B Ig l JX hI => ?_
 conv => whnf
 refine bs.ysv (sx := Xe) Zc hI Tryz.func143 (by kernel_rfl) rfl (by kernel_rfl) ?_
 conv => whnf
 refine Yd.mk ⟨rfl, rfl, ⟨_, _, rfl, .inr ⟨rfl, _, rfl⟩, trivial⟩, (fun h => by cases h), ?_, ?_⟩
 ·conv => whnf
  refine Zsr (S := Nat × Int × Nat × List (List AV)) (fun t => n - t.1) (fun t => [(0, .ptr 0 0 0), (1, .ptr 1 0 0), (2, .ipt [I 1]), (3, .ipt [I (n : Int)]), (4, .ptr 2 0 0), (15, I (n : Int)), (16, I t.2.1)]) (fun t => w1Z l (.func 143 [] [.ptr 0 0 0, .ptr 1 0 0, .ipt [I 1], .ipt [I (n : Int)], .ptr 2 0 0]) t.2.2.1 t.2.2.2)
   (fun t => some (lsX ((rngI t.1 n).flatMap fun i => wlk n 0 [i]))) 3 (fun t => match t.2.2.1 with
   | 0 => 3
   | _ => 4) (fun t => t.2.1 = t.1 /\ t.1 <= n /\ (t.2.2.1 ≠ 0 -> ∃ c, t.2.2.2 = [[c]])) (0, 0, 0, []) ⟨rfl, Nat.zero_le _, fun h => absurd rfl h⟩ (Nat.le_refl _) rfl [] rfl (kps) (kps) ?_
  rintro ⟨k, i, m, A⟩ ⟨hi, hk, hA⟩
  dsimp only at hi hk hA
  subst hi
  by_cases hlt : k < n
  ·have hw : IntKind.i64.wrap ((k : Int) + 1) = ((k + 1 : Nat) : Int) := W_eq (by omega) (by omega)
   dsimp only
   rw [Zc3 hlt]
   cases m with
   | zero =>
    refine bs.yv Zc hI (sx := Xe) ?_
    repeat' (first | refine wk3 ?_ | (refine wk2 ?_ ?_ <;> intro _) | refine wk4 ?_ | fail); all_goals (conv => whnf)
    refine bs.ysv (sx := Xe) Zc hI Tryz.func143 (by kernel_rfl) rfl (by kernel_rfl) ?_
    conv => whnf
    refine Yd.mk ⟨rfl, rfl, .same rfl, (fun h => by cases h), ?_, ?_⟩
    ·conv => whnf
     repeat' (first | refine wk3 ?_ | (refine wk2 ?_ ?_ <;> intro _) | refine wk4 ?_ | fail); all_goals (conv => whnf)
     exact Done.mk ⟨(k + 1, IntKind.i64.wrap ((k : Int) + 1), 1, [[I k]]), [(3, 4)], rfl, kps, kps, rfl, ⟨hw, by omega, fun _ => ⟨_, rfl⟩⟩, by dsimp only; omega⟩
    ·repeat' (first | refine wk3 ?_ | (refine wk2 ?_ ?_ <;> intro _) | refine wk4 ?_ | fail); all_goals (conv => whnf)
     exact Done.mk (.inr rfl)
   | succ m =>
    obtain ⟨c, rfl⟩ := hA (by simp)
    have hfit := Fits.here
    refine bs.yv Zc hI (sx := Xe) ?_
    repeat' (first | refine wk3 ?_ | (refine wk2 ?_ ?_ <;> intro _) | refine wk4 ?_ | fail); all_goals (conv => whnf)
    refine bs.ysv (sx := Xe) Zc hI Tryz.func143 (by kernel_rfl) rfl (by kernel_rfl) ?_
    conv => whnf
    refine Yd.mk ⟨rfl, rfl, .same rfl, (fun h => by cases h), ?_, ?_⟩
    ·conv => whnf
     repeat' (first | refine wk3 ?_ | (refine wk2 ?_ ?_ <;> intro _) | refine wk4 ?_ | fail); all_goals (conv => whnf)
     exact Done.mk ⟨(k + 1, IntKind.i64.wrap ((k : Int) + 1), m + 1, [[I k]]), [(3, 3)], rfl, kps, kps, rfl, ⟨hw, by omega, fun _ => ⟨_, rfl⟩⟩, by dsimp only; omega⟩
    ·repeat' (first | refine wk3 ?_ | (refine wk2 ?_ ?_ <;> intro _) | refine wk4 ?_ | fail); all_goals (conv => whnf)
     exact Done.mk (.inr rfl)
  ·dsimp only
   rw [Zfi (by omega)]
   cases m with
   | zero =>
    refine bs.yv Zc hI (sx := Xe) ?_
    repeat' (first | refine wk3 ?_ | (refine wk2 ?_ ?_ <;> intro _) | refine wk4 ?_ | fail); all_goals (conv => whnf)
    exact Done.mk (.inl rfl)
   | succ m =>
    refine bs.yv Zc hI (sx := Xe) ?_
    repeat' (first | refine wk3 ?_ | (refine wk2 ?_ ?_ <;> intro _) | refine wk4 ?_ | fail); all_goals (conv => whnf)
    exact Done.mk (.inl rfl)
 ·repeat' (first | refine wk3 ?_ | (refine wk2 ?_ ?_ <;> intro _) | refine wk4 ?_ | fail); all_goals (conv => whnf)
  exact Done.mk (.inr rfl)
def w2Z (l : Nat) (f : AV) (a b : AV) : Nat -> List (Nat × ABlk)
 | 0 => [(2, .row 1 [[f]] true false), (1, .row 1 [[.nils]] true false), (0, .row 1 [[.yld l]] true false)]
 | 1 => [(3, .row 1 [[a]] true true), (2, .row 1 [[f]] true false), (1, .row 1 [[.asl 3 0 0]] true false), (0, .row 1 [[.yld l]] true false)]
 | _ + 2 => [(3, .row 1 [[a], [b]] true true), (2, .row 1 [[f]] true false), (1, .row 1 [[.asl 3 0 0]] true false), (0, .row 1 [[.yld l]] true false)]
abbrev fn2 (n : Nat) : AV := .func 143 [] [.ptr 0 0 0, .ptr 1 0 0, .ipt [I 2], .ipt [I (n : Int)], .ptr 2 0 0]
def w3Z (l : Nat) (f : AV) (a b : AV) (rI : Nat) : Nat -> List (Nat × ABlk)
 | 0 => [(rI, .row 1 [[a]] true true), (2, .row 1 [[f]] true false), (1, .row 1 [[.asl rI 0 1]] true false), (0, .row 1 [[.yld l]] true false)]
 | _ + 1 => [(5, .row 1 [[a], [b]] true true), (2, .row 1 [[f]] true false), (1, .row 1 [[.asl 5 0 1]] true false), (0, .row 1 [[.yld l]] true false)]
def w4Z (l : Nat) (f : AV) (a b : AV) : List (Nat × ABlk) := [(3, .row 1 [[a], [b]] true true), (2, .row 1 [[f]] true false), (1, .row 1 [[.asl 3 0 1]] true false), (0, .row 1 [[.yld l]] true false)]
theorem wl2 (n k : Nat) : wlk n 1 [(k : Int)] = [(k : Int)] :: (rngI 0 n).flatMap fun j => if (k : Int) = j then [] else [[(k : Int), j]] := by
 simp [wlk]
set_option maxHeartbeats 8000000 in
theorem Ycj (n : Nat) (hn : n < 1000) : Zox Tryz.prog 142 [] [.ipt [I 2], .ipt [I (n : Int)]] (lsX (wlk n 2 [])) := by
 refine bs.titer (sx := Xe) Zc Tryz.func142 (by kernel_rfl) rfl (by kernel_rfl) fun B Ig l JX hI => ?_
 conv => whnf
 refine bs.ysv (sx := Xe) Zc hI Tryz.func143 (by kernel_rfl) rfl (by kernel_rfl) ?_
 conv => whnf
 refine Yd.mk ⟨rfl, rfl, ⟨_, _, rfl, .inr ⟨rfl, _, rfl⟩, trivial⟩, (fun h => by cases h), ?_, ?_⟩
 ·conv => whnf
  refine Zsr (S := Nat × Int × Nat × AV × AV) (fun t => n - t.1) (fun t => [(0, .ptr 0 0 0), (1, .ptr 1 0 0), (2, .ipt [I 2]), (3, .ipt [I (n : Int)]), (4, .ptr 2 0 0), (15, I (n : Int)), (16, I t.2.1)]) (fun t => w2Z l (fn2 n) t.2.2.2.1 t.2.2.2.2 t.2.2.1)
   (fun t => some (lsX ((rngI t.1 n).flatMap fun i => wlk n 1 [i]))) 3 (fun t => match t.2.2.1 with
   | 0 => 3
   | _ => 4) (fun t => t.2.1 = t.1 /\ t.1 <= n) (0, 0, 0, I 0, I 0) ⟨rfl, Nat.zero_le _⟩ (Nat.le_refl _) rfl [] rfl (kps) (kps) ?_
  rintro ⟨k, i, m, a, b⟩ ⟨hi, hk⟩
  dsimp only at hi hk
  subst hi
  by_cases hlt : k < n
  ·have hw : IntKind.i64.wrap ((k : Int) + 1) = ((k + 1 : Nat) : Int) := W_eq (by omega) (by omega)
   dsimp only
   rw [Zc3 hlt, List.flatMap_cons, wl2]
   rcases m with _ | _ | m
   ·refine bs.yv Zc hI (sx := Xe) ?_
    repeat' (first | refine wk3 ?_ | (refine wk2 ?_ ?_ <;> intro _) | refine wk4 ?_ | fail); all_goals (conv => whnf)
    refine bs.ysv (sx := Xe) Zc hI Tryz.func143 (by kernel_rfl) rfl (by kernel_rfl) ?_
    conv => whnf
    refine Yd.mk ⟨rfl, rfl, .same rfl, (fun h => by cases h), ?_, ?_⟩
    ·conv => whnf
     repeat' (first | refine wk3 ?_ | (refine wk2 ?_ ?_ <;> intro _) | refine wk4 ?_ | fail); all_goals (conv => whnf)
     refine Zsr (S := Nat × Int × Nat × AV) (fun t => n - t.1) (fun t => [(0, .ptr 0 0 0), (1, .ptr 1 0 0), (2, .ipt [I 2]), (3, .ipt [I (n : Int)]), (4, .ptr 2 0 0), (15, I (n : Int)), (16, I t.2.1)]) (fun t => w3Z l (fn2 n) (I k) t.2.2.2 4 t.2.2.1)
      (fun t => some (lsX (((rngI t.1 n).flatMap fun j => if (k : Int) = j then [] else [[(k : Int), j]]) ++ (rngI (k + 1) n).flatMap fun i => wlk n 1 [i]))) 5 (fun t => match t.2.2.1 with
       | 0 => 5
       | _ => 6) (fun t => t.2.1 = t.1 /\ t.1 <= n) (0, 0, 0, I 0) ⟨rfl, Nat.zero_le _⟩ (Nat.le_refl _) rfl [] rfl (kps) (kps) ?_
     rintro ⟨j, i, q, b'⟩ ⟨hi, hj⟩
     dsimp only at hi hj
     subst hi
     by_cases hl2 : j < n
     ·have hw2 : IntKind.i64.wrap ((j : Int) + 1) = ((j + 1 : Nat) : Int) := W_eq (by omega) (by omega)
      dsimp only
      rw [Zc3 hl2, List.flatMap_cons]
      by_cases hkj : (k : Int) = (j : Int)
      ·rw [if_pos hkj, List.nil_append]
       rcases q with _ | q
       ·refine bs.yv Zc hI (sx := Xe) ?_
        repeat' (first | refine wk3 ?_ | (refine wk2 ?_ ?_ <;> intro _) | refine wk4 ?_ | fail); all_goals (conv => whnf)
        exact Done.mk ⟨(j + 1, IntKind.i64.wrap ((j : Int) + 1), 0, b'), [], rfl, kps, kps, rfl, ⟨hw2, by omega⟩, by dsimp only; omega⟩
       ·refine bs.yv Zc hI (sx := Xe) ?_
        repeat' (first | refine wk3 ?_ | (refine wk2 ?_ ?_ <;> intro _) | refine wk4 ?_ | fail); all_goals (conv => whnf)
        exact Done.mk ⟨(j + 1, IntKind.i64.wrap ((j : Int) + 1), q + 1, b'), [(5, 5)], rfl, kps, kps, rfl, ⟨hw2, by omega⟩, by dsimp only; omega⟩
      ·rw [if_neg hkj]
       rcases q with _ | q
       ·refine bs.yv Zc hI (sx := Xe) ?_
        repeat' (first | refine wk3 ?_ | (refine wk2 ?_ ?_ <;> intro _) | refine wk4 ?_ | fail); all_goals (conv => whnf)
        refine bs.ysv (sx := Xe) Zc hI Tryz.func143 (by kernel_rfl) rfl (by kernel_rfl) ?_
        conv => whnf
        refine Yd.mk ⟨rfl, rfl, .same rfl, (fun h => by cases h), ?_, ?_⟩
        ·conv => whnf
         repeat' (first | refine wk3 ?_ | (refine wk2 ?_ ?_ <;> intro _) | refine wk4 ?_ | fail); all_goals (conv => whnf)
         exact Done.mk ⟨(j + 1, IntKind.i64.wrap ((j : Int) + 1), 1, I j), [(5, 6)], rfl, kps, kps, rfl, ⟨hw2, by omega⟩, by dsimp only; omega⟩
        ·repeat' (first | refine wk3 ?_ | (refine wk2 ?_ ?_ <;> intro _) | refine wk4 ?_ | fail); all_goals (conv => whnf)
         exact Done.mk (.inr rfl)
       ·have hfit := Fits.here
        refine bs.yv Zc hI (sx := Xe) ?_
        repeat' (first | refine wk3 ?_ | (refine wk2 ?_ ?_ <;> intro _) | refine wk4 ?_ | fail); all_goals (conv => whnf)
        refine bs.ysv (sx := Xe) Zc hI Tryz.func143 (by kernel_rfl) rfl (by kernel_rfl) ?_
        conv => whnf
        refine Yd.mk ⟨rfl, rfl, .same rfl, (fun h => by cases h), ?_, ?_⟩
        ·conv => whnf
         repeat' (first | refine wk3 ?_ | (refine wk2 ?_ ?_ <;> intro _) | refine wk4 ?_ | fail); all_goals (conv => whnf)
         exact Done.mk ⟨(j + 1, IntKind.i64.wrap ((j : Int) + 1), q + 1, I j), [(5, 5)], rfl, kps, kps, rfl, ⟨hw2, by omega⟩, by dsimp only; omega⟩
        ·repeat' (first | refine wk3 ?_ | (refine wk2 ?_ ?_ <;> intro _) | refine wk4 ?_ | fail); all_goals (conv => whnf)
         exact Done.mk (.inr rfl)
     ·dsimp only
      rw [Zfi (k := j) (by omega), List.flatMap_nil, List.nil_append]
      rcases q with _ | q
      ·refine bs.yv Zc hI (sx := Xe) ?_
       repeat' (first | refine wk3 ?_ | (refine wk2 ?_ ?_ <;> intro _) | refine wk4 ?_ | fail); all_goals (conv => whnf)
       exact Done.mk ⟨(k + 1, IntKind.i64.wrap ((k : Int) + 1), 1, I k, b), [(3, 4)], rfl, kps, kps, rfl, ⟨hw, by omega⟩, by dsimp only; omega⟩
      ·refine bs.yv Zc hI (sx := Xe) ?_
       repeat' (first | refine wk3 ?_ | (refine wk2 ?_ ?_ <;> intro _) | refine wk4 ?_ | fail); all_goals (conv => whnf)
       exact Done.mk ⟨(k + 1, IntKind.i64.wrap ((k : Int) + 1), 2, I k, b'), [(3, 5)], rfl, kps, kps, rfl, ⟨hw, by omega⟩, by dsimp only; omega⟩
    ·repeat' (first | refine wk3 ?_ | (refine wk2 ?_ ?_ <;> intro _) | refine wk4 ?_ | fail); all_goals (conv => whnf)
     exact Done.mk (.inr rfl)
   ·have hfit := Fits.here
    refine bs.yv Zc hI (sx := Xe) ?_
    repeat' (first | refine wk3 ?_ | (refine wk2 ?_ ?_ <;> intro _) | refine wk4 ?_ | fail); all_goals (conv => whnf)
    clear hfit
    refine bs.ysv (sx := Xe) Zc hI Tryz.func143 (by kernel_rfl) rfl (by kernel_rfl) ?_
    conv => whnf
    refine Yd.mk ⟨rfl, rfl, .same rfl, (fun h => by cases h), ?_, ?_⟩
    ·conv => whnf
     repeat' (first | refine wk3 ?_ | (refine wk2 ?_ ?_ <;> intro _) | refine wk4 ?_ | fail); all_goals (conv => whnf)
     refine Zsr (S := Nat × Int × Nat × AV) (fun t => n - t.1) (fun t => [(0, .ptr 0 0 0), (1, .ptr 1 0 0), (2, .ipt [I 2]), (3, .ipt [I (n : Int)]), (4, .ptr 2 0 0), (15, I (n : Int)), (16, I t.2.1)]) (fun t => w3Z l (fn2 n) (I k) t.2.2.2 3 t.2.2.1)
      (fun t => some (lsX (((rngI t.1 n).flatMap fun j => if (k : Int) = j then [] else [[(k : Int), j]]) ++ (rngI (k + 1) n).flatMap fun i => wlk n 1 [i]))) 5 (fun t => match t.2.2.1 with
       | 0 => 5
       | _ => 6) (fun t => t.2.1 = t.1 /\ t.1 <= n) (0, 0, 0, I 0) ⟨rfl, Nat.zero_le _⟩ (Nat.le_refl _) rfl [] rfl (kps) (kps) ?_
     rintro ⟨j, i, q, b'⟩ ⟨hi, hj⟩
     dsimp only at hi hj
     subst hi
     by_cases hl2 : j < n
     ·have hw2 : IntKind.i64.wrap ((j : Int) + 1) = ((j + 1 : Nat) : Int) := W_eq (by omega) (by omega)
      dsimp only
      rw [Zc3 hl2, List.flatMap_cons]
      by_cases hkj : (k : Int) = (j : Int)
      ·rw [if_pos hkj, List.nil_append]
       rcases q with _ | q
       ·refine bs.yv Zc hI (sx := Xe) ?_
        repeat' (first | refine wk3 ?_ | (refine wk2 ?_ ?_ <;> intro _) | refine wk4 ?_ | fail); all_goals (conv => whnf)
        exact Done.mk ⟨(j + 1, IntKind.i64.wrap ((j : Int) + 1), 0, b'), [], rfl, kps, kps, rfl, ⟨hw2, by omega⟩, by dsimp only; omega⟩
       ·refine bs.yv Zc hI (sx := Xe) ?_
        repeat' (first | refine wk3 ?_ | (refine wk2 ?_ ?_ <;> intro _) | refine wk4 ?_ | fail); all_goals (conv => whnf)
        exact Done.mk ⟨(j + 1, IntKind.i64.wrap ((j : Int) + 1), q + 1, b'), [(5, 5)], rfl, kps, kps, rfl, ⟨hw2, by omega⟩, by dsimp only; omega⟩
      ·rw [if_neg hkj]
       rcases q with _ | q
       ·refine bs.yv Zc hI (sx := Xe) ?_
        repeat' (first | refine wk3 ?_ | (refine wk2 ?_ ?_ <;> intro _) | refine wk4 ?_ | fail); all_goals (conv => whnf)
        refine bs.ysv (sx := Xe) Zc hI Tryz.func143 (by kernel_rfl) rfl (by kernel_rfl) ?_
        conv => whnf
        refine Yd.mk ⟨rfl, rfl, .same rfl, (fun h => by cases h), ?_, ?_⟩
        ·conv => whnf
         repeat' (first | refine wk3 ?_ | (refine wk2 ?_ ?_ <;> intro _) | refine wk4 ?_ | fail); all_goals (conv => whnf)
         exact Done.mk ⟨(j + 1, IntKind.i64.wrap ((j : Int) + 1), 1, I j), [(5, 6)], rfl, kps, kps, rfl, ⟨hw2, by omega⟩, by dsimp only; omega⟩
        ·repeat' (first | refine wk3 ?_ | (refine wk2 ?_ ?_ <;> intro _) | refine wk4 ?_ | fail); all_goals (conv => whnf)
         exact Done.mk (.inr rfl)
       ·have hfit := Fits.here
        refine bs.yv Zc hI (sx := Xe) ?_
        repeat' (first | refine wk3 ?_ | (refine wk2 ?_ ?_ <;> intro _) | refine wk4 ?_ | fail); all_goals (conv => whnf)
        refine bs.ysv (sx := Xe) Zc hI Tryz.func143 (by kernel_rfl) rfl (by kernel_rfl) ?_
        conv => whnf
        refine Yd.mk ⟨rfl, rfl, .same rfl, (fun h => by cases h), ?_, ?_⟩
        ·conv => whnf
         repeat' (first | refine wk3 ?_ | (refine wk2 ?_ ?_ <;> intro _) | refine wk4 ?_ | fail); all_goals (conv => whnf)
         exact Done.mk ⟨(j + 1, IntKind.i64.wrap ((j : Int) + 1), q + 1, I j), [(5, 5)], rfl, kps, kps, rfl, ⟨hw2, by omega⟩, by dsimp only; omega⟩
        ·repeat' (first | refine wk3 ?_ | (refine wk2 ?_ ?_ <;> intro _) | refine wk4 ?_ | fail); all_goals (conv => whnf)
         exact Done.mk (.inr rfl)
     ·dsimp only
      rw [Zfi (k := j) (by omega), List.flatMap_nil, List.nil_append]
      rcases q with _ | q
      ·refine bs.yv Zc hI (sx := Xe) ?_
       repeat' (first | refine wk3 ?_ | (refine wk2 ?_ ?_ <;> intro _) | refine wk4 ?_ | fail); all_goals (conv => whnf)
       exact Done.mk ⟨(k + 1, IntKind.i64.wrap ((k : Int) + 1), 1, I k, b), [(3, 3)], rfl, kps, kps, rfl, ⟨hw, by omega⟩, by dsimp only; omega⟩
      ·refine bs.yv Zc hI (sx := Xe) ?_
       repeat' (first | refine wk3 ?_ | (refine wk2 ?_ ?_ <;> intro _) | refine wk4 ?_ | fail); all_goals (conv => whnf)
       exact Done.mk ⟨(k + 1, IntKind.i64.wrap ((k : Int) + 1), 2, I k, b'), [(3, 5)], rfl, kps, kps, rfl, ⟨hw, by omega⟩, by dsimp only; omega⟩
    ·repeat' (first | refine wk3 ?_ | (refine wk2 ?_ ?_ <;> intro _) | refine wk4 ?_ | fail); all_goals (conv => whnf)
     exact Done.mk (.inr rfl)
   ·have hfit := Fits.here
    refine bs.yv Zc hI (sx := Xe) ?_
    repeat' (first | refine wk3 ?_ | (refine wk2 ?_ ?_ <;> intro _) | refine wk4 ?_ | fail); all_goals (conv => whnf)
    refine bs.ysv (sx := Xe) Zc hI Tryz.func143 (by kernel_rfl) rfl (by kernel_rfl) ?_
    conv => whnf
    refine Yd.mk ⟨rfl, rfl, .same rfl, (fun h => by cases h), ?_, ?_⟩
    ·conv => whnf
     repeat' (first | refine wk3 ?_ | (refine wk2 ?_ ?_ <;> intro _) | refine wk4 ?_ | fail); all_goals (conv => whnf)
     refine Zsr (S := Nat × Int × AV) (fun t => n - t.1) (fun t => [(0, .ptr 0 0 0), (1, .ptr 1 0 0), (2, .ipt [I 2]), (3, .ipt [I (n : Int)]), (4, .ptr 2 0 0), (15, I (n : Int)), (16, I t.2.1)]) (fun t => w4Z l (fn2 n) (I k) t.2.2)
      (fun t => some (lsX (((rngI t.1 n).flatMap fun j => if (k : Int) = j then [] else [[(k : Int), j]]) ++ (rngI (k + 1) n).flatMap fun i => wlk n 1 [i]))) 5 (fun _ => 5) (fun t => t.2.1 = t.1 /\ t.1 <= n) (0, 0, b) ⟨rfl, Nat.zero_le _⟩ (Nat.le_refl _) rfl [] rfl (kps) (kps) ?_
     rintro ⟨j, i, b'⟩ ⟨hi, hj⟩
     dsimp only at hi hj
     subst hi
     by_cases hl2 : j < n
     ·have hw2 : IntKind.i64.wrap ((j : Int) + 1) = ((j + 1 : Nat) : Int) := W_eq (by omega) (by omega)
      dsimp only
      rw [Zc3 hl2, List.flatMap_cons]
      by_cases hkj : (k : Int) = (j : Int)
      ·rw [if_pos hkj, List.nil_append]
       refine bs.yv Zc hI (sx := Xe) ?_
       repeat' (first | refine wk3 ?_ | (refine wk2 ?_ ?_ <;> intro _) | refine wk4 ?_ | fail); all_goals (conv => whnf)
       exact Done.mk ⟨(j + 1, IntKind.i64.wrap ((j : Int) + 1), b'), [], rfl, kps, kps, rfl, ⟨hw2, by omega⟩, by dsimp only; omega⟩
      ·rw [if_neg hkj]
       refine bs.yv Zc hI (sx := Xe) ?_
       repeat' (first | refine wk3 ?_ | (refine wk2 ?_ ?_ <;> intro _) | refine wk4 ?_ | fail); all_goals (conv => whnf)
       refine bs.ysv (sx := Xe) Zc hI Tryz.func143 (by kernel_rfl) rfl (by kernel_rfl) ?_
       conv => whnf
       refine Yd.mk ⟨rfl, rfl, .same rfl, (fun h => by cases h), ?_, ?_⟩
       ·conv => whnf
        repeat' (first | refine wk3 ?_ | (refine wk2 ?_ ?_ <;> intro _) | refine wk4 ?_ | fail); all_goals (conv => whnf)
        exact Done.mk ⟨(j + 1, IntKind.i64.wrap ((j : Int) + 1), I j), [], rfl, kps, kps, rfl, ⟨hw2, by omega⟩, by dsimp only; omega⟩
       ·repeat' (first | refine wk3 ?_ | (refine wk2 ?_ ?_ <;> intro _) | refine wk4 ?_ | fail); all_goals (conv => whnf)
        exact Done.mk (.inr rfl)
     ·dsimp only
      rw [Zfi (k := j) (by omega), List.flatMap_nil, List.nil_append]
      refine bs.yv Zc hI (sx := Xe) ?_
      repeat' (first | refine wk3 ?_ | (refine wk2 ?_ ?_ <;> intro _) | refine wk4 ?_ | fail); all_goals (conv => whnf)
      exact Done.mk ⟨(k + 1, IntKind.i64.wrap ((k : Int) + 1), m + 2, I k, b'), [(3, 3)], rfl, kps, kps, rfl, ⟨hw, by omega⟩, by dsimp only; omega⟩
    ·repeat' (first | refine wk3 ?_ | (refine wk2 ?_ ?_ <;> intro _) | refine wk4 ?_ | fail); all_goals (conv => whnf)
     exact Done.mk (.inr rfl)
  ·dsimp only
   rw [Zfi (by omega)]
   rcases m with _ | _ | m
   all_goals
    refine bs.yv Zc hI (sx := Xe) ?_
    repeat' (first | refine wk3 ?_ | (refine wk2 ?_ ?_ <;> intro _) | refine wk4 ?_ | fail); all_goals (conv => whnf)
    exact Done.mk (.inl rfl)
 ·repeat' (first | refine wk3 ?_ | (refine wk2 ?_ ?_ <;> intro _) | refine wk4 ?_ | fail); all_goals (conv => whnf)
  exact Done.mk (.inr rfl)
def extL (m : Nat) (L : List Int) : List (List Int) := (rngI 0 m).flatMap fun i => if L.getLast? = some i then [] else [L ++ [i]]
def bfsL (m : Nat) : Nat -> List (List Int)
 | 0 => [[]]
 | n + 1 => (bfsL m n).flatMap (extL m)
def lev (m : Nat) : Nat -> List Int -> List (List Int)
 | 0, L => [L]
 | n + 1, L => (extL m L).flatMap (lev m n)
theorem Zq5 (m : Nat) : ∀ (n : Nat) (L : List Int), lev m (n + 1) L = (lev m n L).flatMap (extL m)
 | 0, L => by simp [lev]
 | n + 1, L => by
  rw [lev, lev, List.flatMap_assoc]
  congr 1
  funext L'
  exact Zq5 m n L'
theorem Zw5 (m : Nat) : ∀ n, bfsL m n = lev m n []
 | 0 => rfl
 | n + 1 => by rw [Zq5, bfsL, Zw5 m n]
theorem Zi8 {α β : Type} (f g : α -> List β) : ∀ l : List α, (l.flatMap fun x => f x ++ g x).Perm (l.flatMap f ++ l.flatMap g)
 | [] => .nil
 | a :: l => by
  simp only [List.flatMap_cons]
  refine ((List.Perm.refl _).append (Zi8 f g l)).trans ?_
  rw [List.append_assoc, List.append_assoc]
  refine (List.Perm.refl _).append ?_
  rw [<-List.append_assoc, <-List.append_assoc]
  exact List.perm_append_comm.append (List.Perm.refl _)
theorem flatMap_nil {α β : Type} : ∀ l : List α, (l.flatMap fun _ => ([] : List β)) = []
 | [] => rfl
 | a :: l => by rw [List.flatMap_cons, flatMap_nil l]; rfl
theorem Zhf {α β γ : Type} (f : α -> β -> List γ) (b : List β) : ∀ a : List α, (a.flatMap fun x => b.flatMap fun y => f x y).Perm (b.flatMap fun y => a.flatMap fun x => f x y)
 | [] => by simp [flatMap_nil]
 | x :: a => by
  simp only [List.flatMap_cons]
  exact ((List.Perm.refl _).append (Zhf f b a)).trans (Zi8 _ _ b).symm
theorem Zhg {α β : Type} {f g : α -> List β} : ∀ {l : List α}, (∀ x ∈ l, (f x).Perm (g x)) -> (l.flatMap f).Perm (l.flatMap g)
 | [], _ => .nil
 | a :: l, h => by
  simp only [List.flatMap_cons]
  exact (h a (by simp)).append (Zhg fun x hx => h x (by simp [hx]))
theorem Ybe (m o : Nat) (L : List Int) : wlk m (o + 1) L = L :: (extL m L).flatMap (wlk m o) := by
 rw [wlk, extL, List.flatMap_assoc]
 congr 2
 funext i
 split <;> simp
theorem Ztl (m : Nat) : ∀ (o : Nat) (L : List Int), (wlk m o L).Perm ((List.range (o + 1)).flatMap fun k => lev m k L)
 | 0, L => by simp [wlk, lev]
 | o + 1, L => by
  rw [Ybe, List.range_succ_eq_map, List.flatMap_cons]
  show (L :: _).Perm ([L] ++ _)
  refine List.Perm.cons L ?_
  refine (Zhg fun L' _ => Ztl m o L').trans ?_
  refine (Zhf _ _ _).trans ?_
  rw [List.flatMap_map]
  exact .refl _
theorem Ybf (m o : Nat) : (wlk m o []).Perm ((List.range (o + 1)).flatMap (bfsL m)) := by
 have : bfsL m = fun k => lev m k [] := funext fun k => Zw5 m k
 rw [this]
 exact Ztl m o []
theorem Zqs {m : Nat} {i : Int} (h : i ∈ rngI 0 m) : 0 <= i /\ i < m := by
 unfold rngI at h
 obtain ⟨k, hk, rfl⟩ := List.mem_map.1 h
 have := List.mem_range'_1.1 hk
 omega
structure Wok (m : Nat) (L : List Int) (n : Nat) : Prop where
 len : L.length <= n
 mem : ∀ i ∈ L, 0 <= i /\ i < m
theorem Ztj (m : Nat) : ∀ (o : Nat) (L : List Int) (n : Nat), Wok m L n -> ∀ x ∈ wlk m o L, Wok m x (n + o)
 | 0, L, n, h, x, hx => by
  rw [wlk] at hx
  rw [List.mem_singleton.1 hx]; exact h
 | o + 1, L, n, h, x, hx => by
  rw [wlk] at hx
  rcases List.mem_cons.1 hx with rfl | hx
  ·exact ⟨Nat.le_trans h.len (Nat.le_add_right _ _), h.mem⟩
  ·obtain ⟨i, hi, hx⟩ := List.mem_flatMap.1 hx
   split at hx
   ·simp at hx
   ·have := Ztj m o (L ++ [i]) (n + 1) ⟨by have := h.len; simp; omega, fun j hj => by
     rcases List.mem_append.1 hj with hj | hj
     ·exact h.mem j hj
     ·rw [List.mem_singleton.1 hj]; exact Zqs hi⟩ x hx
    rw [show n + (o + 1) = n + 1 + o by omega]
    exact this
def fndP (f : List Int -> Option Pth) (m o : Nat) : List Pth := (wlk m o []).filterMap f
def refL (f : List Int -> Option Pth) (m o : Nat) : List Pth := (((List.range (o + 1)).flatMap (bfsL m)).filterMap f).foldl putL []
theorem Zi7 : ∀ (l a : List Pth), a.Pairwise (fun a b => ordP a b <= 0) -> (l.foldl putL a).Pairwise (fun a b => ordP a b <= 0) /\ (l.foldl putL a).Perm (l ++ a)
 | [], a, h => ⟨h, .refl _⟩
 | p :: l, a, h => by
  obtain ⟨q1, q2⟩ := Zi7 l (putL a p) (Zpc h)
  refine ⟨q1, q2.trans ?_⟩
  refine ((List.Perm.refl l).append (Zup a p)).trans ?_
  exact List.perm_middle
theorem Zfj (f : List Int -> Option Pth) (m o : Nat) : (refL f m o).Perm (fndP f m o) := by
 have := (Zi7 (((List.range (o + 1)).flatMap (bfsL m)).filterMap f) [] .nil).2
 rw [List.append_nil] at this
 exact this.trans ((Ybf m o).symm.filterMap f)
theorem Zij (f : List Int -> Option Pth) (m o : Nat) : (refL f m o).Pairwise (fun a b => ordP a b <= 0) := (Zi7 _ [] .nil).1
theorem Zkf {f : List Int -> Option Pth} (hf : ∀ L p, f L = some p -> p.ss = L) {m o : Nat} {ys : List Pth} (h1 : ys.Perm (fndP f m o)) (h2 : ys.Pairwise (fun a b => ¬ ordP b a < 0)) : ys = refL f m o := by
 refine Zml (G := fun p => f p.ss = some p) (fun a b ha hb e => ?_) (h1.trans (Zfj f m o).symm) (fun a ha => ?_) (h2.imp fun {a b} h => ?_) (Zij f m o)
 ·rw [e, hb] at ha; cases ha; rfl
 ·have := h1.subset ha
  obtain ⟨L, hL, e⟩ := List.mem_filterMap.1 this
  rw [hf L a e]; exact e
 ·have := Zat a b; omega
end Go.Proofs.YtdaliaafmcjikaaGreat
