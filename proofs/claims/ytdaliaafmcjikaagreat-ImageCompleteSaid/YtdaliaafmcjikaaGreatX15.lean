/- A part of the proof: lemmas. -/
import Derived.Test.YtdaliaafmcjikaaGreatX14
import Derived.Test.YtdaliaafmcjikaaGreatX8
import Derived.Test.YtdaliaafmcjikaaGreatX9
import Derived.Test.YtdaliaafmcjikaaGreatX11
import Derived.Test.YtdaliaafmcjikaaGreatX13
import Derived.Shelf.SlSortCmp.NoneTotal
set_option linter.unusedVariables false
set_option linter.unusedSimpArgs false
namespace Go.Proofs.YtdaliaafmcjikaaGreat
open Go Go.Sx
theorem Yf2 (n o : Int) : PCall Tryz.prog 113 [I n, I o] ⟨.func 142 [] [.ipt [I o], .ipt [I n]], []⟩ := by
 refine PCall.frzFns (rows := [(1, [I n]), (1, [I o])]) (ks := [(1, [I o]), (0, [I n])]) (by
  intro q hq
  simp only [List.mem_cons, List.not_mem_nil, or_false] at hq
  rcases hq with rfl | rfl <;> exact ⟨_, rfl⟩) ?_
 refine bs.pv (sx := nos) Zc Tryz.func113 (by kernel_rfl) (by kernel_rfl) rfl ?_
 repeat' (first | refine wk3 ?_ | (refine wk2 ?_ ?_ <;> intro _) | refine wk4 ?_ | fail); all_goals (conv => whnf)
 exact Xf [0, 1] rfl rfl rfl
def wlkB (m : Nat) : Nat -> Nat
 | 0 => 1
 | o + 1 => 1 + m * wlkB m o
theorem Zkw {α β : Type} {f : α -> List β} {B : Nat} : ∀ l : List α, (∀ x ∈ l, (f x).length <= B) -> (l.flatMap f).length <= l.length * B
 | [], _ => by simp
 | a :: l, h => by
  have h1 := h a (by simp)
  have h2 := Zkw l fun x hx => h x (by simp [hx])
  rw [List.flatMap_cons, List.length_append, List.length_cons, Nat.add_mul, Nat.one_mul]
  omega
theorem Zo0 (m : Nat) : ∀ (o : Nat) (L : List Int), (wlk m o L).length <= wlkB m o
 | 0, L => by simp [wlk, wlkB]
 | o + 1, L => by
  have := Zkw (f := fun i => if L.getLast? = some i then [] else wlk m o (L ++ [i])) (B := wlkB m o) (rngI 0 m) fun i _ => by
   split
   ·simp
   ·exact Zo0 m o _
  rw [wlk, List.length_cons, wlkB]
  have hl : (rngI 0 m).length = m := by simp [rngI]
  rw [hl] at this
  omega
theorem Zy0 (f : List Int -> Option Pth) {m o : Nat} (hm : m < 900) (ho : o <= 2) : (fndP f m o).length < 900000 := by
 have h1 : (fndP f m o).length <= (wlk m o []).length := List.length_filterMap_le _ _
 have h2 := Zo0 m o []
 have h3 : wlkB m o <= 1 + m + m * m := by
  obtain rfl | rfl | rfl : o = 0 \/ o = 1 \/ o = 2 := by omega
  ·simp [wlkB]; omega
  ·simp [wlkB]
  ·simp [wlkB, Nat.mul_add]; omega
 have h4 : m * m <= 899 * 899 := Nat.mul_le_mul (by omega) (by omega)
 omega
theorem Zy5 {P : Program} {f : FuncId} {fn : Func} (hf : P.funcs[f]? = some fn) (h1 : (fn.name == "runtime.NumGoroutine") = false) (h2 : fn.body.isNone = false) (args : Array Value) (w : World) : (callFunc f args).run P w = .ok (.enter f args) w := by
 have q2' : ¬ fn.name = "runtime.NumGoroutine" := by simpa using h1
 have q3' : ¬ fn.body = none := by intro h; rw [h] at h2; simp at h2
 simp [callFunc, hf, q2', q3']
theorem Yd9 : FnOK Tryz.prog 114 := FnOK.of Tryz.func114 (by kernel_rfl) (by kernel_rfl)
abbrev gcP (p : Pth) : List AV := [.isl 1 (nl p.ss), .isl 4 (p.ps.map hp4), I p.sq]
def Yfp : FuncId -> Bool := fun f => Nat.beq f 114
noncomputable def kAll (h : Hal) (s : Stg) (fx fy fz tx ty tz n : Int) : PC := ins 24 (oneA [h.av, s.av, .agg [I fx, I fy, I fz, I tx, I ty, I tz, I n]] ⟨I 0, []⟩) (ins 112 (oneA [h.av] ⟨.tup [.isl 1 (sl (surf h)), I 0], []⟩) (ins 113 (oneA [I (sl (surf h)).length, I n] ⟨.func 142 [] [.ipt [I n], .ipt [I (nsN h : Nat)]], []⟩) pt0))
set_option maxRecDepth 100000 in
set_option maxHeartbeats 8000000 in
theorem d55 {h : Hal} (hk : h.ok) {s : Stg} (hs : s.few) (hS : SortsK Tryz.prog 114 3) (a : Ask) (e : askE h s a = 0) (hn : a.n < 3) (hN : nsN h < 900) :
  PCall Tryz.prog 55 [h.av, s.av, a.av] ⟨.tup [.isl 3 ((refL (Xl h s (qF a) (qT a)) (nsN h) a.n.toNat).map gcP), I 0], []⟩ := by
 have A := Yx e
 have he := Zbm A.e0
 have h24 := d24 hk hs a
 rw [e] at h24
 have h112 := c64 hk
 rw [if_pos he, he] at h112
 obtain ⟨fx, fy, fz, tx, ty, tz, n⟩ := a
 dsimp only at hn
 have hkA : PCOK Tryz.prog (kAll h s fx fy fz tx ty tz n) := Yb h24 (Yb h112 (Yb (by rw [<-Zqm]; exact Yf2 _ n) Zc))
 unfold kAll at hkA
 have o1 := Yk [h.av, s.av, .agg [I fx, I fy, I fz, I tx, I ty, I tz, I n]] ⟨I 0, []⟩
 have o2 := Yk [h.av] ⟨.tup [.isl 1 (sl (surf h)), I 0], []⟩
 have o3 := Yk [I (sl (surf h)).length, I n] ⟨.func 142 [] [.ipt [I n], .ipt [I (nsN h : Nat)]], []⟩
 refine PCall.freeze (res := if (refL (Xl h s (fx, fy, fz) (tx, ty, tz)) (nsN h) n.toNat) = [] then ⟨.tup [.nils, I 0], []⟩ else ⟨.tup [.asl 0 0 (refL (Xl h s (fx, fy, fz) (tx, ty, tz)) (nsN h) n.toNat).length, I 0], [(3, (refL (Xl h s (fx, fy, fz) (tx, ty, tz)) (nsN h) n.toNat).map gcP)]⟩) ?_ ?_
 rotate_left
 ·split <;> rename_i hre
  ·rw [hre]; exact ⟨rfl, ⟨rfl, rfl⟩, trivial⟩
  ·refine ⟨⟨rfl, rfl, ?_⟩, ⟨rfl, rfl⟩, trivial⟩
   exact (List.length_map _).symm
 refine bs.pv (sx := Yfp) hkA Tryz.func55 (by kernel_rfl) (by kernel_rfl) (by split <;> rfl) ?_
 repeat' (first | refine wk3 ?_ | (refine wk2 ?_ ?_ <;> intro _) | refine wk4 ?_ | fail); all_goals (conv => whnf)
 obtain ⟨f, hf⟩ : ∃ f, f = Xl h s (fx, fy, fz) (tx, ty, tz) := ⟨_, rfl⟩
 have hfs : ∀ L p, f L = some p -> p.ss = L := fun L p hp => by rw [hf] at hp; exact Zfn hp
 have hfr : ∀ L : List Int, Wok (nsN h) L 2 -> Zow Tryz.prog 65 [.agg (stgL h s), .agg [I fx, I fy, I fz, I tx, I ty, I tz, I n], .isl 1 (nl1 L)] (ansP (f L)) := fun L hL => by
  rw [hf]
  exact d65f hk hs e (by have := hL.len; omega) (fun i hi => by have := hL.mem i hi; rw [Zqz] at this; exact this)
 rw [<-hf]
 have hn2 : n.toNat <= 2 := by omega
 have hwok : ∀ L ∈ wlk (nsN h) n.toNat [], Wok (nsN h) L 2 := fun L hL => by
  have := Ztj (nsN h) n.toNat [] 0 ⟨Nat.le_refl _, by simp⟩ L hL
  exact ⟨by have := this.len; omega, this.mem⟩
 have hcnt := Zy0 f (m := nsN h) (o := n.toNat) hN hn2
 have hit : Zox Tryz.prog 142 [] [.ipt [I n], .ipt [I (nsN h : Nat)]] (lsX (wlk (nsN h) n.toNat [])) := by
  have hN : nsN h < 1000 := by omega
  have hn0 := A.n.1
  dsimp only at hn0
  obtain rfl | rfl | rfl : n = 0 \/ n = 1 \/ n = 2 := by omega
  ·exact Ycl _ hN
  ·exact Yck _ hN
  ·exact Ycj _ hN
 refine Rg.ren (env2 := [(5, .ptr 2 0 0), (11, .ptr 3 0 0), (12, .ptr 4 0 0), (35, .func 142 [] [.ipt [I n], .ipt [I (nsN h : Nat)]])]) (σ2 := ⟨[(4, .row 11 [stgL h s] true false), (3, .row 1 [[.nils]] true false), (2, .row 7 [[I fx, I fy, I fz, I tx, I ty, I tz, I n]] true false)], 5⟩) (Ren.of [] rfl (kps) (kps)) ?_
 refine rngT hit rfl rfl rfl rfl (Zuc (S := Nat × Nat × List (List AV)) (fun t => gz 5 3 t.1 t.2.2 [(4, .row 11 [stgL h s] true false), (3, .row 1 [[gv 5 t.1 t.2.1]] true false), (2, .row 7 [[I fx, I fy, I fz, I tx, I ty, I tz, I n]] true false)]) 5 (fun t => nm2 5 6 t.1)
  (fun xs t => ∃ (Ls : List (List Int)) (ds : List Pth), xs = lsX Ls /\ (∀ L ∈ Ls, Wok (nsN h) L 2) /\ t.1 = ds.length /\ t.2.1 = t.2.2.length /\ t.2.2 = ds.map gcP /\ ds ++ Ls.filterMap f = fndP f (nsN h) n.toNat) ?_ ?_ _ (0, 0, []) ⟨wlk (nsN h) n.toNat [], [], rfl, ?_, rfl, rfl, rfl, rfl⟩)
 ·rintro x xs ⟨k, len, els⟩ ⟨Ls, ds, hxs, hok, hkd, hlen, hels, hfd⟩
  dsimp only at hkd hlen hels ⊢
  cases Ls with
  | nil => cases hxs
  | cons L Ls =>
   cases hxs
   refine ⟨⟨rfl, rfl⟩, fun ys hys hsl => ?_⟩
   obtain ⟨y, rfl⟩ : ∃ y, ys = #[y] := by
    obtain ⟨l⟩ := ys
    match l, hys with
    | [y], _ => exact ⟨y, rfl⟩
   obtain ⟨sa, sn, sc, rfl⟩ := hsl 0 _ rfl
   have hr := hfr L (hok L (by simp))
   rw [List.filterMap_cons] at hfd
   have e4 : els.length < 900000 := by
    rw [<-hfd, List.length_append] at hcnt
    rw [hels, List.length_map]; omega
   cases hp : f L with
   | none =>
    rw [hp] at hfd hr
    cases k with
    | zero =>
     refine bs.av (sx := nos) hkA ?_
     conv => whnf
     repeat' (first | refine wk3 ?_ | (refine wk2 ?_ ?_ <;> intro _) | refine wk4 ?_ | fail); all_goals (conv => whnf)
     refine Zd7 (Zhw (Zcj (Zf2 (sx := nos) bs.hT bs.hok hkA) rfl ?_))
     conv => whnf
     repeat' (first | refine wk3 ?_ | (refine wk2 ?_ ?_ <;> intro _) | refine wk4 ?_ | fail); all_goals (conv => whnf)
     refine CtT.mk ⟨[.agg (stgL h s), .agg [I fx, I fy, I fz, I tx, I ty, I tz, I n], .isl 1 (nl1 L)], _, ⟨.inl rfl, .inl rfl, .inr ⟨⟨sa, sn, sc, rfl, rfl⟩, rfl⟩, trivial⟩, rfl, hr, ?_⟩
     conv => whnf
     repeat' (first | refine wk3 ?_ | (refine wk2 ?_ ?_ <;> intro _) | refine wk4 ?_ | fail); all_goals (conv => whnf)
     refine bs.av (sx := nos) hkA ?_
     conv => whnf
     repeat' (first | refine wk3 ?_ | (refine wk2 ?_ ?_ <;> intro _) | refine wk4 ?_ | fail); all_goals (conv => whnf)
     exact Done.mk ⟨(0, len, els), [], rfl, kps, Ls, ds, rfl, fun L hL => hok L (by simp [hL]), hkd, hlen, hels, hfd⟩
    | succ k =>
     refine bs.av (sx := nos) hkA ?_
     conv => whnf
     repeat' (first | refine wk3 ?_ | (refine wk2 ?_ ?_ <;> intro _) | refine wk4 ?_ | fail); all_goals (conv => whnf)
     refine Zd7 (Zhw (Zcj (Zf2 (sx := nos) bs.hT bs.hok hkA) rfl ?_))
     conv => whnf
     repeat' (first | refine wk3 ?_ | (refine wk2 ?_ ?_ <;> intro _) | refine wk4 ?_ | fail); all_goals (conv => whnf)
     refine CtT.mk ⟨[.agg (stgL h s), .agg [I fx, I fy, I fz, I tx, I ty, I tz, I n], .isl 1 (nl1 L)], _, ⟨.inl rfl, .inl rfl, .inr ⟨⟨sa, sn, sc, rfl, rfl⟩, rfl⟩, trivial⟩, rfl, hr, ?_⟩
     conv => whnf
     repeat' (first | refine wk3 ?_ | (refine wk2 ?_ ?_ <;> intro _) | refine wk4 ?_ | fail); all_goals (conv => whnf)
     refine bs.av (sx := nos) hkA ?_
     conv => whnf
     repeat' (first | refine wk3 ?_ | (refine wk2 ?_ ?_ <;> intro _) | refine wk4 ?_ | fail); all_goals (conv => whnf)
     exact Done.mk ⟨(k + 1, len, els), [(5, 5)], rfl, kps, Ls, ds, rfl, fun L hL => hok L (by simp [hL]), hkd, hlen, hels, hfd⟩
   | some p =>
    rw [hp] at hfd hr
    cases k with
    | zero =>
     refine bs.av (sx := nos) hkA ?_
     conv => whnf
     repeat' (first | refine wk3 ?_ | (refine wk2 ?_ ?_ <;> intro _) | refine wk4 ?_ | fail); all_goals (conv => whnf)
     refine Zd7 (Zhw (Zcj (Zf2 (sx := nos) bs.hT bs.hok hkA) rfl ?_))
     conv => whnf
     repeat' (first | refine wk3 ?_ | (refine wk2 ?_ ?_ <;> intro _) | refine wk4 ?_ | fail); all_goals (conv => whnf)
     refine CtT.mk ⟨[.agg (stgL h s), .agg [I fx, I fy, I fz, I tx, I ty, I tz, I n], .isl 1 (nl1 L)], _, ⟨.inl rfl, .inl rfl, .inr ⟨⟨sa, sn, sc, rfl, rfl⟩, rfl⟩, trivial⟩, rfl, hr, ?_⟩
     conv => whnf
     repeat' (first | refine wk3 ?_ | (refine wk2 ?_ ?_ <;> intro _) | refine wk4 ?_ | fail); all_goals (conv => whnf)
     refine bs.av (sx := nos) hkA ?_
     conv => whnf
     repeat' (first | refine wk3 ?_ | (refine wk2 ?_ ?_ <;> intro _) | refine wk4 ?_ | fail); all_goals (conv => whnf)
     exact Done.mk ⟨(1, _, _), [(5, 7)], rfl, kps, Ls, ds ++ [p], rfl, fun L hL => hok L (by simp [hL]), by rw [List.length_append, <-hkd]; rfl, rfl, by rw [List.length_eq_zero_iff.1 hkd.symm]; rfl, by rw [List.append_assoc]; exact hfd⟩
    | succ k =>
     refine bs.av (sx := nos) hkA ?_
     conv => whnf
     repeat' (first | refine wk3 ?_ | (refine wk2 ?_ ?_ <;> intro _) | refine wk4 ?_ | fail); all_goals (conv => whnf)
     refine Zd7 (Zhw (Zcj (Zf2 (sx := nos) bs.hT bs.hok hkA) rfl ?_))
     conv => whnf
     repeat' (first | refine wk3 ?_ | (refine wk2 ?_ ?_ <;> intro _) | refine wk4 ?_ | fail); all_goals (conv => whnf)
     refine CtT.mk ⟨[.agg (stgL h s), .agg [I fx, I fy, I fz, I tx, I ty, I tz, I n], .isl 1 (nl1 L)], _, ⟨.inl rfl, .inl rfl, .inr ⟨⟨sa, sn, sc, rfl, rfl⟩, rfl⟩, trivial⟩, rfl, hr, ?_⟩
     conv => whnf
     repeat' (first | refine wk3 ?_ | (refine wk2 ?_ ?_ <;> intro _) | refine wk4 ?_ | fail); all_goals (conv => whnf)
     refine bs.av (sx := nos) hkA ?_
     conv => whnf
     repeat' (first | refine wk3 ?_ | (refine wk2 ?_ ?_ <;> intro _) | refine wk4 ?_ | fail); all_goals (conv => whnf)
     exact Done.mk ⟨(k + 1 + 1, _, _), [(5, 8)], rfl, kps, Ls, ds ++ [p], rfl, fun L hL => hok L (by simp [hL]), by rw [List.length_append, <-hkd]; rfl, by exact List.length_append.symm, by rw [List.map_append, <-hels]; rfl, by rw [List.append_assoc]; exact hfd⟩
 ·rintro ⟨k, len, els⟩ ⟨Ls, ds, hxs, hok, hkd, hlen, hels, hfd⟩
  dsimp only at hkd hlen hels ⊢
  cases Ls with
  | cons => cases hxs
  | nil =>
   rw [List.filterMap_nil, List.append_nil] at hfd
   have hds : ∀ d ∈ ds, d.ss.length < 1000000 := fun d hd => by
    rw [hfd] at hd
    obtain ⟨L, hL, hp⟩ := List.mem_filterMap.1 hd
    rw [hfs L d hp]
    have := (hwok L hL).len; omega
   rw [<-hfd] at hcnt
   cases k with
   | zero =>
    obtain rfl : ds = [] := List.length_eq_zero_iff.1 hkd.symm
    have hre : refL f (nsN h) n.toNat = [] := (Zkf hfs (ys := []) (by rw [<-hfd]) .nil).symm
    rw [hre, if_pos rfl]
    conv => whnf
    repeat' (first | refine wk3 ?_ | (refine wk2 ?_ ?_ <;> intro _) | refine wk4 ?_ | fail); all_goals (conv => whnf)
    refine Zx0 Yd9 hS ?_
    conv => whnf
    repeat' (first | refine wk3 ?_ | (refine wk2 ?_ ?_ <;> intro _) | refine wk4 ?_ | fail); all_goals (conv => whnf)
    exact Zf rfl rfl
   | succ k =>
    rw [hels, List.length_map] at hlen
    subst hels hlen
    conv => whnf
    repeat' (first | refine wk3 ?_ | (refine wk2 ?_ ?_ <;> intro _) | refine wk4 ?_ | fail); all_goals (conv => whnf)
    refine Zxz Yd9 hS (by decide) (Zy5 Tryz.func115 (by kernel_rfl) (by kernel_rfl)) gcP (fun _ => rfl) (fun _ => rfl) (fun _ => rfl) ordP (fun a ha b hb => Zyb (d115 (hds a ha) (hds b hb))) Zyg (by omega) rfl fun ys hp hs => ?_
    obtain rfl := Zkf hfs (by rw [<-hfd]; exact hp) hs
    have hyl := hp.length_eq
    generalize refL f (nsN h) n.toNat = ys at *
    rw [if_neg (by intro h0; rw [h0, <-hkd] at hyl; cases hyl)]
    conv => whnf
    repeat' (first | refine wk3 ?_ | (refine wk2 ?_ ?_ <;> intro _) | refine wk4 ?_ | fail); all_goals (conv => whnf)
    exact Xf [5] rfl (by rw [hyl]; rfl) rfl
 ·exact hwok
theorem Zqf {n i : Int} (hi : within i 0 n = true) : ∀ (l : List Int) (q : Option Int), wkG n q l = 0 -> (l.getLast?.or q) ≠ some i -> wkG n q (l ++ [i]) = 0
 | [], q, _, hq => by
  have hq : q ≠ some i := hq
  show wkG n q [i] = 0
  rw [wkG, if_pos hi, if_neg hq]; rfl
 | x :: l, q, h, hq => by
  rw [wkG] at h
  rw [List.cons_append, wkG]
  split at h
  ·rename_i h1
   rw [if_pos h1]
   split at h
   ·cases h
   ·rename_i h2
    rw [if_neg h2]
    refine Zqf hi l (some x) h ?_
    cases l with
    | nil => exact hq
    | cons y l =>
     rw [List.getLast?_cons_cons] at hq
     cases hl : (y :: l).getLast? with
     | none => simp at hl
     | some z => rw [hl] at hq; exact hq
  ·cases h
theorem Zti (m : Nat) : ∀ (o : Nat) (L : List Int), wkG ((m : Int) - 1) none L = 0 -> ∀ x ∈ wlk m o L, wkG ((m : Int) - 1) none x = 0
 | 0, L, h, x, hx => by
  rw [wlk] at hx
  rw [List.mem_singleton.1 hx]; exact h
 | o + 1, L, h, x, hx => by
  rw [wlk] at hx
  rcases List.mem_cons.1 hx with rfl | hx
  ·exact h
  ·obtain ⟨i, hi, hx⟩ := List.mem_flatMap.1 hx
   split at hx
   ·simp at hx
   ·rename_i hl
    have hr := Zqs hi
    refine Zti m o (L ++ [i]) (Zqf (within_iff.2 (by omega)) L none h ?_) x hx
    rw [Option.or_none]; exact hl
theorem Zla (m : Nat) : ∀ (o : Nat) (L : List Int), ∀ x ∈ wlk m o L, ∃ t, x = L ++ t
 | 0, L, x, hx => by
  rw [wlk] at hx
  exact ⟨[], by rw [List.mem_singleton.1 hx]; simp⟩
 | o + 1, L, x, hx => by
  rw [wlk] at hx
  rcases List.mem_cons.1 hx with rfl | hx
  ·exact ⟨[], by simp⟩
  ·obtain ⟨i, hi, hx⟩ := List.mem_flatMap.1 hx
   split at hx
   ·simp at hx
   ·obtain ⟨t, rfl⟩ := Zla m o _ x hx
    exact ⟨i :: t, by simp⟩
theorem Zsh (m : Nat) : (rngI 0 m).Nodup := by
 unfold rngI
 rw [List.Nodup, List.pairwise_map]
 exact (List.pairwise_lt_range' (s := 0) (n := m - 0)).imp fun {a b} h e => by omega
theorem Zmd (m : Nat) : ∀ (o : Nat) (L : List Int), (wlk m o L).Nodup
 | 0, L => by simp [wlk]
 | o + 1, L => by
  rw [wlk, List.nodup_cons]
  refine ⟨fun h => ?_, ?_⟩
  ·obtain ⟨i, hi, hx⟩ := List.mem_flatMap.1 h
   split at hx
   ·simp at hx
   ·obtain ⟨t, e⟩ := Zla m o _ _ hx
    have := congrArg List.length e
    simp at this
  ·rw [List.Nodup, List.pairwise_flatMap]
   refine ⟨fun i _ => ?_, (Zsh m).imp fun {i j} hij x hx y hy e => ?_⟩
   ·split
    ·exact .nil
    ·exact Zmd m o _
   ·split at hx
    ·simp at hx
    ·split at hy
     ·simp at hy
     ·obtain ⟨t, e1⟩ := Zla m o _ _ hx
      obtain ⟨t', e2⟩ := Zla m o _ _ hy
      rw [e1, e2, List.append_assoc, List.append_assoc] at e
      have := List.append_cancel_left e
      simp at this
      exact hij this.1
theorem Ztk (m : Nat) : ∀ (l : List Int) (o : Nat) (L : List Int), wkG ((m : Int) - 1) L.getLast? l = 0 -> l.length <= o -> L ++ l ∈ wlk m o L
 | [], o, L, _, _ => by
  rw [List.append_nil]
  cases o <;> simp [wlk]
 | x :: l, 0, L, _, ho => by simp at ho
 | x :: l, o + 1, L, h, ho => by
  rw [wkG] at h
  split at h
  ·rename_i h1
   split at h
   ·cases h
   ·rename_i h2
    rw [wlk]
    refine List.mem_cons_of_mem _ (List.mem_flatMap.2 ⟨x, ?_, ?_⟩)
    ·have := within_iff.1 h1
     unfold rngI
     refine List.mem_map.2 ⟨x.toNat, List.mem_range'_1.2 ⟨Nat.zero_le _, by omega⟩, by omega⟩
    ·rw [if_neg h2]
     have := Ztk m l o (L ++ [x]) (by rw [List.getLast?_append]; exact h) (by simpa using ho)
     rwa [List.append_assoc] at this
  ·cases h
def cntS (l : List Int) (L : List Pth) : Nat := L.countP fun p => decide (p.ss = l)
theorem Zoi {l : List Int} : ∀ {xs : List (List Int)}, xs.Nodup -> l ∈ xs -> (xs.countP fun x => decide (x = l)) = 1
 | [], _, h => by simp at h
 | x :: xs, hn, h => by
  obtain ⟨h1, h2⟩ := List.nodup_cons.1 hn
  rw [List.countP_cons]
  by_cases e : x = l
  ·subst e
   rw [if_pos (by simp), List.countP_eq_zero.2 (fun y hy => by
    intro hd
    exact h1 ((of_decide_eq_true hd) ▸ hy))]
  ·rcases List.mem_cons.1 h with h | h
   ·exact absurd h.symm e
   ·rw [Zoi h2 h, if_neg (by simpa using e)]
theorem Yc6 {f : List Int -> Option Pth} (hf : ∀ L p, f L = some p -> p.ss = L) {m o : Nat} {l : List Int} (hw : wkG ((m : Int) - 1) none l = 0) (ho : l.length <= o) : cntS l (refL f m o) = if (f l).isSome then 1 else 0 := by
  unfold cntS
  rw [(Zfj f m o).countP_eq]
  unfold fndP
  rw [List.countP_filterMap]
  have hm : l ∈ wlk m o [] := by
    have := Ztk m l o [] hw ho
    rwa [List.nil_append] at this
  cases e : f l with
  | some q =>
    rw [<-Zoi (Zmd m o []) hm]
    have : (fun a => ((f a).map fun p => decide (p.ss = l)).getD false) = fun x => decide (x = l) := by
      funext L
      cases h : f L with
      | none =>
        have : L ≠ l := fun k => by rw [k, e] at h; cases h
        simp [this]
      | some p => rw [<-hf L p h]; rfl
    first
      | (rw [this]; rfl)
      | (refine List.countP_congr fun L _ => ?_
         cases h : f L with
         | none =>
           have : L ≠ l := fun k => by rw [k, e] at h; cases h
           simp [this]
         | some p => have := hf L p h; simp [this])
  | none =>
    refine List.countP_eq_zero.2 fun L _ => ?_
    cases h : f L with
    | none => simp
    | some p =>
      have := hf L p h
      have : L ≠ l := fun k => by rw [k, e] at h; cases h
      simp_all
theorem Zoj {l : List Int} {L : List Pth} {k : Nat} (hk : k < L.length) : cntS l (L.take (k + 1)) = cntS l (L.take k) + if L[k].ss = l then 1 else 0 := by
 unfold cntS
 rw [List.take_succ_eq_append_getElem hk, List.countP_append, List.countP_singleton]
 simp
theorem Ybo {a b c x y z : Int} (h1 : Near 45000 (a, b, c)) (h2 : Near 5000 (x, y, z)) : sqV a b c x y z = (a - x) * (a - x) + (b - y) * (b - y) + (c - z) * (c - z) /\ sqV a b c x y z <= 24300000000 := by
 obtain ⟨p1, p2, p3⟩ := h1
 obtain ⟨r1, r2, r3⟩ := h2
 dsimp only at p1 p2 p3 r1 r2 r3
 have k : ∀ u v : Int, (-45000 <= u /\ u <= 45000) -> (-5000 <= v /\ v <= 5000) -> IntKind.i64.wrap (u - v) = u - v /\ (0 <= (u - v) * (u - v) /\ (u - v) * (u - v) <= 2500000000) /\ IntKind.i64.wrap (IntKind.i64.wrap (u - v) * IntKind.i64.wrap (u - v)) = (u - v) * (u - v) := fun u v hu hv => by
  have e1 : IntKind.i64.wrap (u - v) = u - v := W_eq (by omega) (by omega)
  have e2 : 0 <= (u - v) * (u - v) /\ (u - v) * (u - v) <= 2500000000 := by
   generalize hd : u - v = d
   have hd1 : -50000 <= d := by omega
   have hd2 : d <= 50000 := by omega
   constructor
   ·rcases Int.le_total 0 d with h | h
    ·exact Int.mul_nonneg h h
    ·have := Int.mul_nonneg (show 0 <= -d by omega) (show 0 <= -d by omega)
     rwa [Int.neg_mul_neg] at this
   ·have := Int.mul_nonneg (show 0 <= 50000 - d by omega) (show 0 <= 50000 + d by omega)
    have e : (50000 - d) * (50000 + d) = 2500000000 - d * d := by rw [Int.mul_add, Int.sub_mul, Int.sub_mul]; omega
    omega
  exact ⟨e1, e2, by rw [e1]; exact W_eq (by omega) (by omega)⟩
 obtain ⟨_, a1, a2⟩ := k a x p1 r1
 obtain ⟨_, b1, b2⟩ := k b y p2 r2
 obtain ⟨_, c1, c2⟩ := k c z p3 r3
 unfold sqV
 rw [a2, b2, c2]
 rw [W_eq (n := (a - x) * (a - x) + (b - y) * (b - y)) (by omega) (by omega), W_eq (by omega) (by omega)]
 exact ⟨rfl, by omega⟩
theorem Zbd {d : Int} (h : d ≠ 0) : 1 <= d * d := by
 rcases Int.lt_trichotomy d 0 with h1 | h1 | h1
 ·have := Int.mul_le_mul (show (1 : Int) <= -d by omega) (show (1 : Int) <= -d by omega) (by omega) (by omega)
  rw [Int.neg_mul_neg] at this; omega
 ·exact absurd h1 h
 ·have := Int.mul_le_mul (show (1 : Int) <= d by omega) (show (1 : Int) <= d by omega) (by omega) (by omega)
  omega
theorem Zli (d : Int) : 0 <= d * d := by
 by_cases h : d = 0
 ·subst h; omega
 ·have := Zbd h; omega
theorem Yfo {a b c x y z : Int} (h : ¬ (a = x /\ b = y /\ c = z)) : 1 <= (a - x) * (a - x) + (b - y) * (b - y) + (c - z) * (c - z) := by
 have h1 := Zli (a - x)
 have h2 := Zli (b - y)
 have h3 := Zli (c - z)
 by_cases e1 : a = x
 ·by_cases e2 : b = y
  ·have := Zbd (d := c - z) (by intro k; exact h ⟨e1, e2, by omega⟩); omega
  ·have := Zbd (d := b - y) (by omega); omega
 ·have := Zbd (d := a - x) (by omega); omega
theorem Ydo (x : Int) : 0 <= sgn x * sgn x := Zli _
theorem Zyf {h : Hal} {s : Stg} (g : Sit h s) (e0 : serr h s = 0) {q0 q1 : Pl3} (hf : Near 5000 q0) (ht : Near 5000 q1) (hne : q0 ≠ q1) {ns : List Int} (hl : ns.length <= 4) (hi : ∀ n ∈ ns, 0 <= n /\ n < nsur h) {p : Pth} (e : Xl h s q0 q1 ns = some p) : 1 <= p.sq /\ p.sq <= 24300000000 := by
 have hn := Zly g hf hl (Ydn hi) ns.length (Nat.le_refl _)
 have hn : Near 45000 (imA (im1 h s) q0 ns ns.length) := Znb (by omega) hn
 have hs : imA (im1 h s) q0 ns ns.length ≠ q1 := by
  intro hq
  rw [Zdx] at e
  by_cases h0 : ns = []
  ·subst h0
   exact hne hq
  ·have hp : 0 < ns.length := List.length_pos_iff.2 h0
   have ht2 := Zlw (f := im1 h s) (q := q0) (ns := ns) (k := ns.length - 1) (by omega)
   rw [show ns.length - 1 + 1 = ns.length by omega, List.take_of_length_le (by rw [Zaf]; exact Nat.le_refl _)] at ht2
   rw [ht2, goP, hq] at e
   have hc := Zwo g e0 (hi _ (List.getElem_mem (show ns.length - 1 < ns.length by omega))) (q := q1) (Znb (by omega) ht) (to := pnt q1) (Zuq ht)
   have hz : (fP h s (ns[ns.length - 1]'(by omega)) q1 (pnt q1)).2 ≠ 0 := by
    show (crsA h s ⟨_, q1.1, q1.2.1, q1.2.2, pnt q1⟩).2 ≠ 0
    rw [hc.2.2.1]
    unfold Za4
    have : crF (Zl h s (ns[ns.length - 1]'(by omega))) ⟨ns[ns.length - 1]'(by omega), q1.1, q1.2.1, q1.2.2, pnt q1⟩ = crG (Zl h s (ns[ns.length - 1]'(by omega))) ⟨ns[ns.length - 1]'(by omega), q1.1, q1.2.1, q1.2.2, pnt q1⟩ := by
     unfold crF crG pnt
     dsimp only
     rw [Int.mul_one]
    rw [this, if_pos (Ydo _)]
    show (12 : Int) ≠ 0
    decide
   rw [if_neg hz] at e
   cases e
 rw [Zdx] at e
 split at e
 ·cases e
 ·split at e
  ·cases e
   obtain ⟨r1, r2⟩ := Ybo (a := (imA (im1 h s) q0 ns ns.length).1) (b := (imA (im1 h s) q0 ns ns.length).2.1) (c := (imA (im1 h s) q0 ns ns.length).2.2) (x := q1.1) (y := q1.2.1) (z := q1.2.2) hn ht
   dsimp only
   refine ⟨?_, r2⟩
   rw [r1]
   refine Yfo ?_
   rintro ⟨k1, k2, k3⟩
   exact hs (Prod.ext k1 (Prod.ext k2 k3))
  ·cases e
theorem Zy4 (l : List Pt4) : eqP l l = true := by
 have := Zmt ⟨[], l, 0⟩
 unfold same at this
 simp only [Bool.and_eq_true] at this
 exact this.2.2
theorem Yb1 {a b : Pth} (h : ordP a b <= 0) : a.sq <= b.sq := by
 rw [Zdb] at h
 unfold ordK at h
 rw [cmpL] at h
 rcases Vp a.sq b.sq with ⟨h1, e⟩ | ⟨h1, e⟩ | ⟨h1, e⟩
 ·omega
 ·omega
 ·rw [e, if_neg (by decide)] at h; omega
theorem Yfh {a : Ask} (h : a.same = false) : qF a ≠ qT a := by
 intro e
 have e1 : a.fx = a.tx := congrArg (·.1) e
 have e2 : a.fy = a.ty := congrArg (·.2.1) e
 have e3 : a.fz = a.tz := congrArg (·.2.2) e
 unfold Ask.same at h
 simp [e1, e2, e3] at h
theorem Ydk {h : Hal} {l : List Int} (hl : l.length <= 4) (hw : wkG ((nsN h : Int) - 1) none l = 0) : suE h l = 0 := by
 unfold suE
 rw [if_neg (by omega), <-Zqz]
 exact hw
theorem Zug {h : Hal} (hk : h.ok) {s : Stg} (hs : s.few) {a : Ask} (e : askE h s a = 0) (hn : a.n < 3) {p : Pth} (hp : p ∈ refL (Xl h s (qF a) (qT a)) (nsN h) a.n.toNat) :
  Xl h s (qF a) (qT a) p.ss = some p /\ suE h p.ss = 0 /\ p.ss.length <= 2 /\ p.ps.length <= 2 /\ cpE h s a p = 0 := by
 have A := Yx e
 have hn0 := A.n
 have h1 := (Zfj _ _ _).subset hp
 obtain ⟨L, hL, hf⟩ := List.mem_filterMap.1 h1
 obtain rfl := Zfn hf
 have hw := Ztj (nsN h) a.n.toNat [] 0 ⟨Nat.le_refl _, by simp⟩ _ hL
 have hg := Zti (nsN h) a.n.toNat [] rfl _ hL
 have hl : p.ss.length <= a.n.toNat := by have := hw.len; omega
 have hsu := Ydk (by omega) hg
 have hps := Zhr hf
 have hi := (Zlg hsu).2
 have hsq := Zyf (Zmn hk hs A.e0) A.e0 A.f A.t (Yfh A.ne) (by omega) hi hf
 refine ⟨hf, hsu, by omega, by omega, ?_⟩
 unfold cpE pthE
 rw [if_pos (show (if (p.ps.length : Int) = p.ss.length then (if 4 < (p.ss.length : Int) then 8 else (if within p.sq 1 24300000000 then 0 else 2)) else 10) = (0 : Int) by
  rw [if_pos (by omega), if_neg (by omega), if_pos (within_iff.2 hsq)]), if_pos hsu, if_pos (by omega)]
 unfold chkP
 rw [hf]
 dsimp only
 rw [if_pos ⟨rfl, Zy4 _⟩]
theorem Ydw {f : List Int -> Option Pth} {m o k : Nat} (hk : k + 1 < (refL f m o).length) : ¬ (refL f m o)[k + 1].sq < (refL f m o)[k].sq := by
 have := List.pairwise_iff_getElem.1 (Zij f m o) k (k + 1) (by omega) hk (by omega)
 have := Yb1 this
 omega
theorem Yeb {h : Hal} (hk : h.ok) {s : Stg} (e : serr h s = 0) : nsN h <= 18 := by
 have := (Zi9 hk (Zbm e)).le
 unfold nsN; omega
theorem Ybt (f : List Int -> Option Pth) {m o : Nat} (hm : m <= 18) (ho : o <= 2) : (refL f m o).length <= 343 := by
 rw [(Zfj f m o).length_eq]
 have h1 : (fndP f m o).length <= (wlk m o []).length := List.length_filterMap_le _ _
 have h2 := Zo0 m o []
 have h3 : wlkB m o <= 1 + m + m * m := by
  obtain rfl | rfl | rfl : o = 0 \/ o = 1 \/ o = 2 := by omega
  ·simp [wlkB]; omega
  ·simp [wlkB]
  ·simp [wlkB, Nat.mul_add]; omega
 have h4 : m * m <= 18 * 18 := Nat.mul_le_mul hm hm
 omega
theorem Yc7 {h : Hal} {s : Stg} {a : Ask} {l : List Int} (e2 : suE h l = 0) (ho : l.length <= a.n.toNat) : cntS l (refL (Xl h s (qF a) (qT a)) (nsN h) a.n.toNat) = if (Xl h s (qF a) (qT a) l).isSome then 1 else 0 := by
 refine Yc6 (fun L p hp => Zfn hp) ?_ ho
 unfold suE at e2
 split at e2
 ·cases e2
 ·rw [Zqz]; exact e2
end Go.Proofs.YtdaliaafmcjikaaGreat
namespace Go.Proofs
open Go.Shelf
def Tryz.laysS114_ren : Go.Shelf.Ren := ⟨fun | 6 => 114 | 15 => 145 | 14 => 144 | 28 => 206 | 29 => 207 | 20 => 198 | 21 => 199 | 22 => 200 | 23 => 201 | 24 => 202 | 25 => 203 | 26 => 204 | 27 => 205 | 46 => 271 | 47 => 272 | 48 => 273 | 49 => 274 | 50 => 275 | 57 => 293 | n => n, fun | 22 => 102 | 24 => 42 | 25 => 191 | 3 => 3 | 39 => 240 | 0 => 0 | 53 => 286 | 55 => 288 | 4 => 4 | 46 => 279 | 45 => 278 | 50 => 283 | 5 => 5 | 9 => 9 | 66 => 337 | 70 => 341 | 76 => 355 | 77 => 148 | n => n, fun | n => n⟩
theorem Tryz.laysS114 : Go.Proofs.SlLaysF0.n6 Tryz.prog Tryz.laysS114_ren := {
 mixed := by kernel_rfl
 f6 := ⟨Tryz.f114.name, by decide, Tryz.func114.trans (congrArg some (by kernel_rfl))⟩
 f14 := ⟨Tryz.f144.name, by decide, Tryz.func144.trans (congrArg some (by kernel_rfl))⟩
 f15 := Tryz.func145.trans (congrArg some (by kernel_rfl))
 f20 := ⟨Tryz.f198.name, by decide, Tryz.func198.trans (congrArg some (by kernel_rfl))⟩
 f21 := ⟨Tryz.f199.name, by decide, Tryz.func199.trans (congrArg some (by kernel_rfl))⟩
 f22 := ⟨Tryz.f200.name, by decide, Tryz.func200.trans (congrArg some (by kernel_rfl))⟩
 f23 := ⟨Tryz.f201.name, by decide, Tryz.func201.trans (congrArg some (by kernel_rfl))⟩
 f24 := ⟨Tryz.f202.name, by decide, Tryz.func202.trans (congrArg some (by kernel_rfl))⟩
 f25 := ⟨Tryz.f203.name, by decide, Tryz.func203.trans (congrArg some (by kernel_rfl))⟩
 f26 := ⟨Tryz.f204.name, by decide, Tryz.func204.trans (congrArg some (by kernel_rfl))⟩
 f27 := ⟨Tryz.f205.name, by decide, Tryz.func205.trans (congrArg some (by kernel_rfl))⟩
 f28 := Tryz.func206.trans (congrArg some (by kernel_rfl))
 f29 := Tryz.func207.trans (congrArg some (by kernel_rfl))
 f46 := ⟨Tryz.f271.name, by decide, Tryz.func271.trans (congrArg some (by kernel_rfl))⟩
 f47 := Tryz.func272.trans (congrArg some (by kernel_rfl))
 f48 := Tryz.func273.trans (congrArg some (by kernel_rfl))
 f49 := ⟨Tryz.f274.name, by decide, Tryz.func274.trans (congrArg some (by kernel_rfl))⟩
 f50 := ⟨Tryz.f275.name, by decide, Tryz.func275.trans (congrArg some (by kernel_rfl))⟩
 f57 := ⟨Tryz.f293.name, by decide, Tryz.func293.trans (congrArg some (by kernel_rfl))⟩
 t0 := Tryz.underlying0
 a0 := Tryz.isAgg0
 z0 := Tryz.sizeOf0
 v0 := Tryz.zeroValue0
 t3 := Tryz.underlying3
 a3 := Tryz.isAgg3
 z3 := Tryz.sizeOf3
 v3 := Tryz.zeroValue3
 t4 := Tryz.underlying4
 a4 := Tryz.isAgg4
 z4 := Tryz.sizeOf4
 v4 := Tryz.zeroValue4
 t5 := Tryz.underlying5
 a5 := Tryz.isAgg5
 z5 := Tryz.sizeOf5
 v5 := Tryz.zeroValue5
 t9 := Tryz.underlying9
 a9 := Tryz.isAgg9
 z9 := Tryz.sizeOf9
 v9 := Tryz.zeroValue9
 t22 := Tryz.underlying102
 a22 := Tryz.isAgg102
 z22 := Tryz.sizeOf102
 v22 := Tryz.zeroValue102
 t25 := Tryz.underlying191
 a25 := Tryz.isAgg191
 z25 := Tryz.sizeOf191
 v25 := Tryz.zeroValue191
 t39 := Tryz.underlying240
 a39 := Tryz.isAgg240
 z39 := Tryz.sizeOf240
 v39 := Tryz.zeroValue240
 t45 := Tryz.underlying278
 a45 := Tryz.isAgg278
 z45 := Tryz.sizeOf278
 v45 := Tryz.zeroValue278
 t46 := Tryz.underlying279
 a46 := Tryz.isAgg279
 z46 := Tryz.sizeOf279
 v46 := Tryz.zeroValue279
 t50 := Tryz.underlying283
 a50 := Tryz.isAgg283
 z50 := Tryz.sizeOf283
 v50 := Tryz.zeroValue283
 t53 := Tryz.underlying286
 a53 := Tryz.isAgg286
 z53 := Tryz.sizeOf286
 v53 := Tryz.zeroValue286
 t55 := Tryz.underlying288
 a55 := Tryz.isAgg288
 z55 := Tryz.sizeOf288
 v55 := Tryz.zeroValue288
 t66 := Tryz.underlying337
 a66 := Tryz.isAgg337
 z66 := Tryz.sizeOf337
 v66 := Tryz.zeroValue337
 t70 := Tryz.underlying341
 a70 := Tryz.isAgg341
 z70 := Tryz.sizeOf341
 v70 := Tryz.zeroValue341
 t76 := Tryz.underlying355
 a76 := Tryz.isAgg355
 z76 := Tryz.sizeOf355
 v76 := Tryz.zeroValue355
 t77 := Tryz.underlying148
 a77 := Tryz.isAgg148
 z77 := Tryz.sizeOf148
 v77 := Tryz.zeroValue148 }
set_option maxRecDepth 100000 in
theorem Tryz.sorts114 : Go.Sx.SortsK Tryz.prog 114 3 := {
 some := fun m _ enc hk h1 cf hO g blk off cap d w eg hcmp hH hblk hsz => AnyQ.slices_SortFunc Tryz.laysS114 3 Tryz.isAgg42 Tryz.sizeOf42 enc hk h1 cf hO g #[] blk off cap d w eg hcmp hH hblk hsz
 none := fun p cap fv w => AnyF.slices_SortFunc_none Tryz.laysS114 p cap fv w }
end Go.Proofs
namespace Go.Proofs.YtdaliaafmcjikaaGreat
open Go Go.Sx
noncomputable abbrev rCp : List AV -> Option PRes := famA (fun p : Pth => p.ss.length < 100000 /\ p.ps.length < 100000) (fun p => [p.av]) (fun p => ⟨p.av, []⟩)
theorem Yad {pt : PC} (hp : PCOK Tryz.prog pt) : PCOK Tryz.prog (ins 35 rCp pt) := Ym (fun p hq => d21 hq.1 hq.2) hp
theorem Zui {p : Pth} (h1 : p.ss.length < 100000) (h2 : p.ps.length < 100000) : rCp [p.av] = some ⟨p.av, []⟩ :=
 Zv (p := fun p : Pth => p.ss.length < 100000 /\ p.ps.length < 100000) (g := fun p => [p.av]) (r := fun p => ⟨p.av, []⟩) (k := p) (fun j hj => by
  simp only [List.cons.injEq, and_true] at hj
  rw [hj]) ⟨h1, h2⟩
noncomputable abbrev r34 (h : Hal) (s : Stg) (a : Ask) : List AV -> Option PRes := famA (fun p : Pth => (p.ss.length < 1000 /\ p.ps.length < 1000) /\ askE h s a = 0 /\ cpE h s a p = 0) (fun p => [h.av, s.av, a.av, p.av]) (fun _ => ⟨I 0, []⟩)
theorem Yaf {h : Hal} (hk : h.ok) {s : Stg} (hs : s.few) (a : Ask) {pt : PC} (hp : PCOK Tryz.prog pt) : PCOK Tryz.prog (ins 34 (r34 h s a) pt) := Ym (fun p hq => by
 have := d34 hk hs a hq.1.1 hq.1.2
 rwa [if_pos hq.2.1, hq.2.2] at this) hp
theorem Zuk {h : Hal} {s : Stg} {a : Ask} {p : Pth} (h1 : p.ss.length < 1000) (h2 : p.ps.length < 1000) (h3 : askE h s a = 0) (h4 : cpE h s a p = 0) : r34 h s a [h.av, s.av, a.av, p.av] = some ⟨I 0, []⟩ :=
 Zv (p := fun p : Pth => (p.ss.length < 1000 /\ p.ps.length < 1000) /\ askE h s a = 0 /\ cpE h s a p = 0) (g := fun p => [h.av, s.av, a.av, p.av]) (r := fun _ => ⟨I 0, []⟩) (k := p) (fun _ _ => rfl) ⟨⟨h1, h2⟩, h3, h4⟩
noncomputable abbrev r58 : List AV -> Option PRes := famA (fun q : List Int × List Int => q.1.length < 1000000 /\ q.2.length < 1000000) (fun q => [.isl 1 (nl q.1), .isl 1 (nl q.2)]) (fun q => ⟨Bo (eqN q.1 q.2), []⟩)
theorem Yae {pt : PC} (hp : PCOK Tryz.prog pt) : PCOK Tryz.prog (ins 58 r58 pt) := Ym (fun q hq => c69 hq.1 hq.2) hp
theorem Zuj {a b : List Int} (h1 : a.length < 1000000) (h2 : b.length < 1000000) : r58 [.isl 1 (nl a), .isl 1 (nl b)] = some ⟨Bo (eqN a b), []⟩ :=
 Zv (p := fun q : List Int × List Int => q.1.length < 1000000 /\ q.2.length < 1000000) (g := fun q => [.isl 1 (nl q.1), .isl 1 (nl q.2)]) (r := fun q => ⟨Bo (eqN q.1 q.2), []⟩) (k := (a, b)) (fun j hj => by
  simp only [List.cons.injEq, AV.isl.injEq, true_and, and_true] at hj
  rw [Zfp hj.1, Zfp hj.2]) ⟨h1, h2⟩
theorem Zi5 {L : List Pth} {k : Nat} (hk : k < L.length) : (L.map gcP)[((k : Nat) : Int).toNat]? = some (gcP L[k]) := by simp [hk]
set_option maxRecDepth 100000 in
set_option maxHeartbeats 16000000 in
theorem d11 (aw : PCall Tryz.prog 12 [] ⟨Bo true, []⟩) (h : Hal) (s : Stg) (a : Ask) (l : List Int) : PCall Tryz.prog 11 [.agg (stgL h s), a.av, .isl 1 (nl l)] ⟨Bo true, []⟩ := by
 have ll := Zk l
 by_cases hb : few3 h s = true
 rotate_left
 ·have hb : few3 h s = false := by simpa using hb
  have hk0 := Ze (d17 h s) (Ze aw Zc)
  rw [hb] at hk0
  obtain ⟨fx, fy, fz, tx, ty, tz, n⟩ := a
  refine bs.pv (sx := nos) hk0 Tryz.func11 (by kernel_rfl) (by kernel_rfl) rfl ?_
  repeat' (first | refine wk3 ?_ | (refine wk2 ?_ ?_ <;> intro _) | refine wk4 ?_ | fail); all_goals (conv => whnf)
  all_goals exact Zb rfl
 obtain ⟨hk, hs⟩ := Ycz hb
 by_cases hn : within a.n 0 2 = true
 rotate_left
 ·have hn : within a.n 0 2 = false := by simpa using hn
  obtain ⟨fx, fy, fz, tx, ty, tz, n⟩ := a
  have h46 := c30 n 0 2
  dsimp only at hn
  rw [hn] at h46
  have hk0 := Ze (d17 h s) (Ze aw (Ze h46 Zc))
  rw [hb] at hk0
  refine bs.pv (sx := nos) hk0 Tryz.func11 (by kernel_rfl) (by kernel_rfl) rfl ?_
  repeat' (first | refine wk3 ?_ | (refine wk2 ?_ ?_ <;> intro _) | refine wk4 ?_ | fail); all_goals (conv => whnf)
  all_goals exact Zb rfl
 have h46 := c30 a.n 0 2
 rw [hn] at h46
 have hn2 := within_iff.1 hn
 by_cases hln : a.n < l.length
 ·obtain ⟨fx, fy, fz, tx, ty, tz, n⟩ := a
  dsimp only at hln h46 hn2
  have hk0 := Ze (d17 h s) (Ze aw (Ze h46 Zc))
  rw [hb] at hk0
  refine bs.pv (sx := nos) hk0 Tryz.func11 (by kernel_rfl) (by kernel_rfl) rfl ?_
  repeat' (first | refine wk3 ?_ | (refine wk2 ?_ ?_ <;> intro _) | refine wk4 ?_ | fail); all_goals (conv => whnf)
  all_goals first
   | exact Zb rfl
   | (exfalso; clear hk0; simp_all; done)
   | (exfalso; clear hk0; simp_all; omega)
 have h18 := d18 hk hs a
 by_cases e : askE h s a = 0
 rotate_left
 ·obtain ⟨fx, fy, fz, tx, ty, tz, n⟩ := a
  generalize askE h s ⟨fx, fy, fz, tx, ty, tz, n⟩ = E at *
  dsimp only at hln h46 hn2
  have hk0 := Ze (d17 h s) (Ze aw (Ze h46 (Ze h18 Zc)))
  rw [hb] at hk0
  refine bs.pv (sx := nos) hk0 Tryz.func11 (by kernel_rfl) (by kernel_rfl) rfl ?_
  clear hk0 h18 h46 aw
  repeat' (first | refine wk3 ?_ | (refine wk2 ?_ ?_ <;> intro _) | refine wk4 ?_ | fail); all_goals (conv => whnf)
  all_goals first
   | exact Zb rfl
   | (exfalso; simp_all; done)
   | (exfalso; simp_all; omega)
 rw [e] at h18
 have h93 := d93 hk.f l (by omega)
 by_cases e2 : suE h l = 0
 rotate_left
 ·obtain ⟨fx, fy, fz, tx, ty, tz, n⟩ := a
  generalize suE h l = E at *
  dsimp only at hln h46 hn2
  have hk0 := Ze (d17 h s) (Ze aw (Ze h46 (Ze h18 (Ze h93 Zc))))
  rw [hb] at hk0
  refine bs.pv (sx := nos) hk0 Tryz.func11 (by kernel_rfl) (by kernel_rfl) rfl ?_
  clear hk0 h18 h46 aw h93
  repeat' (first | refine wk3 ?_ | (refine wk2 ?_ ?_ <;> intro _) | refine wk4 ?_ | fail); all_goals (conv => whnf)
  all_goals first
   | exact Zb rfl
   | (exfalso; simp_all; done)
   | (exfalso; simp_all; omega)
 rw [e2] at h93
 have A := Yx e
 have hN := Yeb hk A.e0
 have h55 := d55 hk hs Tryz.sorts114 a e (by omega) (by omega)
 have h14 := d14f hk hs a (ns := l) (by omega)
 have hcn := Yc7 (s := s) (a := a) e2 (show l.length <= a.n.toNat by omega)
 have hfa := fun p hp => Zug hk hs e (show a.n < 3 by omega) (p := p) hp
 have hrl := Ybt (Xl h s (qF a) (qT a)) hN (show a.n.toNat <= 2 by omega)
 have hrs : ∀ L, L = refL (Xl h s (qF a) (qT a)) (nsN h) a.n.toNat -> ∀ (k : Nat) (hk : k + 1 < L.length), ¬ L[k + 1].sq < L[k].sq := by
  rintro _ rfl k hk
  exact Ydw hk
 obtain ⟨L, hL⟩ : ∃ L, L = refL (Xl h s (qF a) (qT a)) (nsN h) a.n.toNat := ⟨_, rfl⟩
 have hrs := hrs L hL
 rw [<-hL] at h55 hcn hfa hrl
 clear hL
 have hlm : (L.map gcP).length = L.length := List.length_map _
 cases hpv : Xl h s (qF a) (qT a) l with
 | none =>
  have ep : pofV h s a l = (none, 12) := by unfold pofV; rw [if_pos e, if_pos e2, hpv]
  rw [ep] at h14
  rw [hpv] at hcn
  have hcn : cntS l L = 0 := hcn
  have hk0 := Ze (d17 h s) (Ze aw (Ze h46 (Ze h18 (Ze h93 (Ze h55 (Ze h14 (Ze (c22f hk.f) (Ze (c29 hs) (Ze (c25f l (by omega)) (Yaf hk hs a (Yae (Yad (Yag Zc)))))))))))))
  rw [hb] at hk0
  have hle : l.length <= 2 := by omega
  have h34h := fun p (hp : p ∈ L) => Zuk (h := h) (s := s) (a := a) (p := p) (by have := (hfa p hp).2.2.1; omega) (by have := (hfa p hp).2.2.2.1; omega) e (hfa p hp).2.2.2.2
  have hno : ∀ p ∈ L, eqN p.ss l = false := fun p hp => by
   rw [Bool.eq_false_iff, ne_eq, eqN_iff]
   intro k
   have := (hfa p hp).1
   rw [k, hpv] at this
   cases this
  have hbd := fun p hp => (show p.ss.length <= 2 /\ p.ps.length <= 2 from ⟨(hfa p hp).2.2.1, (hfa p hp).2.2.2.1⟩)
  clear hfa hpv
  obtain ⟨fx, fy, fz, tx, ty, tz, n⟩ := a
  dsimp only at hln hn2
  clear h18 h46 aw h93 h55 h14 ep e A e2 hn hb hN
  refine bs.pv (sx := nos) hk0 Tryz.func11 (by kernel_rfl) (by kernel_rfl) rfl ?_
  repeat' (first | refine wk3 ?_ | (refine wk2 ?_ ?_ <;> intro _) | refine wk4 ?_ | fail); all_goals (conv => whnf)
  all_goals try exact Zb rfl
  refine Ya (S := Nat × Int × Int) (fun t => L.length - t.1) (fun t => [(2, .isl 1 (nl l)), (3, .ptr 0 0 0), (4, .ptr 1 0 0), (7, .isl 3 (L.map gcP)), (9, .ptr 28 0 0), (10, I 12), (11, I t.2.2), (12, I t.2.1)]) (fun _ => [(28, .row 3 [[.isl 1 (nl []), .isl 4 (List.map hp4 []), I 0]] true false), (1, .row 7 [[I fx, I fy, I fz, I tx, I ty, I tz, I n]] true false), (0, .row 11 [stgL h s] true false)]) 31 31
   (fun t => t.2.1 = t.1 /\ t.1 <= L.length /\ t.2.2 = (cntS l (L.take t.1) : Nat)) (0, 0, 0) ⟨rfl, Nat.zero_le _, rfl⟩ (Nat.le_of_ble_eq_true rfl) [] rfl (kps) (kps) ?_
  rintro ⟨k, i, c⟩ ⟨hi, hk1, hc⟩
  dsimp only at hi hk1 hc ⊢
  subst hi
  refine bs.av (sx := nos) hk0 ?_
  by_cases hlt : k < L.length
  ·have hmem := List.getElem_mem hlt
   have e1 := Zi5 hlt
   obtain ⟨u1, u2⟩ := hbd _ hmem
   have c1 := Zui (p := L[k]) (by omega) (by omega)
   have c2 := h34h _ hmem
   have c3 := Zuj (a := L[k].ss) (b := l) (by omega) (by omega)
   have hcs := Zoj (l := l) hlt
   have hcl : cntS l (L.take k) <= L.length := Nat.le_trans List.countP_le_length (by rw [List.length_take]; omega)
   have hW : IntKind.i64.wrap (c + 1) = c + 1 := W_eq (by omega) (by omega)
   have hq := hno _ hmem
   rw [if_neg (by intro k2; rw [eqN_iff.2 k2] at hq; cases hq), Nat.add_zero] at hcs
   rw [hq] at c3
   have hcc : c = ((cntS l (L.take (k + 1)) : Nat) : Int) := by omega
   clear hno h34h
   cases k with
   | zero =>
    generalize L[0] = p at *
    obtain ⟨ps, pp, pq⟩ := p
    repeat' (first | refine wk3 ?_ | (refine wk2 ?_ ?_ <;> intro _) | refine wk4 ?_ | fail); all_goals (conv => whnf)
    all_goals first
     | exact Done.mk ⟨(1, _, _), [], rfl, kps, kps, ⟨Zg (k := 0) (by omega), hlt, hcc⟩, by dsimp only; omega⟩
     | (exfalso; clear hk0; simp_all; done)
   | succ j =>
    have b1 : IntKind.i64.wrap (((j + 1 : Nat) : Int) - 1) = j := by rw [W_eq (by omega) (by omega)]; omega
    have b0 : ((j + 1 : Nat) : Int) > 0 := by omega
    have e5 : (L.map gcP)[(IntKind.i64.wrap (((j + 1 : Nat) : Int) - 1)).toNat]? = some (gcP (L[j]'(by omega))) := by rw [b1]; exact Zi5 _
    have hsq := hrs j hlt
    generalize L[j + 1] = p at *
    generalize L[j]'(by omega) = p' at *
    obtain ⟨ps, pp, pq⟩ := p
    obtain ⟨ps', pp', pq'⟩ := p'
    dsimp only at hsq
    repeat' (first | refine wk3 ?_ | (refine wk2 ?_ ?_ <;> intro _) | refine wk4 ?_ | fail); all_goals (conv => whnf)
    all_goals first
     | exact Done.mk ⟨(j + 1 + 1, _, _), [], rfl, kps, kps, ⟨Zg (k := j + 1) (by omega), hlt, hcc⟩, by dsimp only; omega⟩
     | (exfalso; clear hk0; simp_all; done)
  ·obtain rfl : k = L.length := by omega
   rw [List.take_length, hcn] at hc
   obtain rfl : c = 0 := hc
   repeat' (first | refine wk3 ?_ | (refine wk2 ?_ ?_ <;> intro _) | refine wk4 ?_ | fail); all_goals (conv => whnf)
   all_goals first
    | exact Zb rfl
    | (exfalso; clear hk0; simp_all; done)
 | some q =>
  have ep : pofV h s a l = (some q, 0) := by unfold pofV; rw [if_pos e, if_pos e2, hpv]
  rw [ep] at h14
  rw [hpv] at hcn
  have hcn : cntS l L = 1 := hcn
  have hk0 := Ze (d17 h s) (Ze aw (Ze h46 (Ze h18 (Ze h93 (Ze h55 (Ze h14 (Ze (c22f hk.f) (Ze (c29 hs) (Ze (c25f l (by omega)) (Yaf hk hs a (Yae (Yad (Yag Zc)))))))))))))
  rw [hb] at hk0
  have s1 := Zfn hpv
  have s2 := Zhr hpv
  have hle : l.length <= 2 := by omega
  have h34h := fun p (hp : p ∈ L) => Zuk (h := h) (s := s) (a := a) (p := p) (by have := (hfa p hp).2.2.1; omega) (by have := (hfa p hp).2.2.2.1; omega) e (hfa p hp).2.2.2.2
  have hno : ∀ p ∈ L, p.ss = l -> p = q := fun p hp k => by
   have := (hfa p hp).1
   rw [k, hpv] at this
   cases this; rfl
  have hbd := fun p hp => (show p.ss.length <= 2 /\ p.ps.length <= 2 from ⟨(hfa p hp).2.2.1, (hfa p hp).2.2.2.1⟩)
  clear hfa hpv
  obtain ⟨fx, fy, fz, tx, ty, tz, n⟩ := a
  dsimp only at hln hn2
  clear h18 h46 aw h93 h55 h14 ep e A e2 hn hb hN
  obtain ⟨qs, qp, qq⟩ := q
  dsimp only at s1 s2
  subst s1
  refine bs.pv (sx := nos) hk0 Tryz.func11 (by kernel_rfl) (by kernel_rfl) rfl ?_
  repeat' (first | refine wk3 ?_ | (refine wk2 ?_ ?_ <;> intro _) | refine wk4 ?_ | fail); all_goals (conv => whnf)
  all_goals try exact Zb rfl
  refine Ya (S := Nat × Int × Int) (fun t => L.length - t.1) (fun t => [(2, .isl 1 (nl qs)), (3, .ptr 0 0 0), (4, .ptr 1 0 0), (7, .isl 3 (L.map gcP)), (9, .ptr 28 0 0), (10, I 0), (11, I t.2.2), (12, I t.2.1)]) (fun _ => [(28, .row 3 [[.isl 1 (nl qs), .isl 4 (qp.map hp4), I qq]] true false), (1, .row 7 [[I fx, I fy, I fz, I tx, I ty, I tz, I n]] true false), (0, .row 11 [stgL h s] true false)]) 31 31
   (fun t => t.2.1 = t.1 /\ t.1 <= L.length /\ t.2.2 = (cntS qs (L.take t.1) : Nat)) (0, 0, 0) ⟨rfl, Nat.zero_le _, rfl⟩ (Nat.le_of_ble_eq_true rfl) [] rfl (kps) (kps) ?_
  rintro ⟨k, i, c⟩ ⟨hi, hk1, hc⟩
  dsimp only at hi hk1 hc ⊢
  subst hi
  refine bs.av (sx := nos) hk0 ?_
  by_cases hlt : k < L.length
  ·have hmem := List.getElem_mem hlt
   have e1 := Zi5 hlt
   obtain ⟨u1, u2⟩ := hbd _ hmem
   have c1 := Zui (p := L[k]) (by omega) (by omega)
   have c2 := h34h _ hmem
   have c3 := Zuj (a := L[k].ss) (b := qs) (by omega) (by omega)
   have hcs := Zoj (l := qs) hlt
   have hcl : cntS qs (L.take k) <= L.length := Nat.le_trans List.countP_le_length (by rw [List.length_take]; omega)
   have hW : IntKind.i64.wrap (c + 1) = c + 1 := W_eq (by omega) (by omega)
   clear h34h
   by_cases hpe : L[k].ss = qs
   ·have hpq := hno _ hmem hpe
    rw [if_pos hpe] at hcs
    rw [eqN_iff.2 hpe] at c3
    have c4 := Zx3 (a := ⟨qs, qp, qq⟩) (b := ⟨qs, qp, qq⟩) (by dsimp only; omega) (by dsimp only; omega) (by dsimp only; omega) (by dsimp only; omega)
    rw [Zmt] at c4
    have hcc : IntKind.i64.wrap (c + 1) = ((cntS qs (L.take (k + 1)) : Nat) : Int) := by rw [hW, hcs, hc]; omega
    clear hno
    cases k with
    | zero =>
     rw [hpq] at e1 c1 c2 c3
     repeat' (first | refine wk3 ?_ | (refine wk2 ?_ ?_ <;> intro _) | refine wk4 ?_ | fail); all_goals (conv => whnf)
     all_goals first
      | exact Done.mk ⟨(1, _, _), [], rfl, kps, kps, ⟨Zg (k := 0) (by omega), hlt, hcc⟩, by dsimp only; omega⟩
      | (exfalso; clear hk0; simp_all; done)
    | succ j =>
     have b1 : IntKind.i64.wrap (((j + 1 : Nat) : Int) - 1) = j := by rw [W_eq (by omega) (by omega)]; omega
     have b0 : ((j + 1 : Nat) : Int) > 0 := by omega
     have e5 : (L.map gcP)[(IntKind.i64.wrap (((j + 1 : Nat) : Int) - 1)).toNat]? = some (gcP (L[j]'(by omega))) := by rw [b1]; exact Zi5 _
     have hsq := hrs j hlt
     rw [hpq] at e1 c1 c2 c3 hsq
     generalize L[j]'(by omega) = p' at *
     obtain ⟨ps', pp', pq'⟩ := p'
     dsimp only at hsq
     repeat' (first | refine wk3 ?_ | (refine wk2 ?_ ?_ <;> intro _) | refine wk4 ?_ | fail); all_goals (conv => whnf)
     all_goals first
      | exact Done.mk ⟨(j + 1 + 1, _, _), [], rfl, kps, kps, ⟨Zg (k := j + 1) (by omega), hlt, hcc⟩, by dsimp only; omega⟩
      | (exfalso; clear hk0; simp_all; done)
   ·rw [if_neg hpe, Nat.add_zero] at hcs
    have hq : eqN L[k].ss qs = false := by rw [Bool.eq_false_iff, ne_eq, eqN_iff]; exact hpe
    rw [hq] at c3
    have hcc : c = ((cntS qs (L.take (k + 1)) : Nat) : Int) := by omega
    clear hno
    cases k with
    | zero =>
     generalize L[0] = p at *
     obtain ⟨ps, pp, pq⟩ := p
     repeat' (first | refine wk3 ?_ | (refine wk2 ?_ ?_ <;> intro _) | refine wk4 ?_ | fail); all_goals (conv => whnf)
     all_goals first
      | exact Done.mk ⟨(1, _, _), [], rfl, kps, kps, ⟨Zg (k := 0) (by omega), hlt, hcc⟩, by dsimp only; omega⟩
      | (exfalso; clear hk0; simp_all; done)
    | succ j =>
     have b1 : IntKind.i64.wrap (((j + 1 : Nat) : Int) - 1) = j := by rw [W_eq (by omega) (by omega)]; omega
     have b0 : ((j + 1 : Nat) : Int) > 0 := by omega
     have e5 : (L.map gcP)[(IntKind.i64.wrap (((j + 1 : Nat) : Int) - 1)).toNat]? = some (gcP (L[j]'(by omega))) := by rw [b1]; exact Zi5 _
     have hsq := hrs j hlt
     generalize L[j + 1] = p at *
     generalize L[j]'(by omega) = p' at *
     obtain ⟨ps, pp, pq⟩ := p
     obtain ⟨ps', pp', pq'⟩ := p'
     dsimp only at hsq
     repeat' (first | refine wk3 ?_ | (refine wk2 ?_ ?_ <;> intro _) | refine wk4 ?_ | fail); all_goals (conv => whnf)
     all_goals first
      | exact Done.mk ⟨(j + 1 + 1, _, _), [], rfl, kps, kps, ⟨Zg (k := j + 1) (by omega), hlt, hcc⟩, by dsimp only; omega⟩
      | (exfalso; clear hk0; simp_all; done)
  ·obtain rfl : k = L.length := by omega
   rw [List.take_length, hcn] at hc
   obtain rfl : c = 1 := hc
   repeat' (first | refine wk3 ?_ | (refine wk2 ?_ ?_ <;> intro _) | refine wk4 ?_ | fail); all_goals (conv => whnf)
   all_goals first
    | exact Zb rfl
    | (exfalso; clear hk0; simp_all; done)
theorem Yfm {m : Nat} {x : List AV} (hw : WT TT (m + 10 + 1) 28 x) : ∃ h : Hal, x = h.cells := by
 have h0 := (Xz (T := TT) (t := 28) rfl rfl hw).1
 have h0 : x.length = 9 := h0
 match x, h0 with
 | [x0, x1, x2, x3, x4, x5, x6, x7, x8], _ =>
  obtain ⟨s, hs, hs2⟩ := wStr (Zm (T := TT) (t := 28) rfl rfl hw 0 rfl rfl)
  obtain ⟨n, hn⟩ := wInt (Zm (T := TT) (t := 28) rfl rfl hw 1 rfl rfl)
  obtain ⟨t, ht, ht2⟩ := wStr (Zm (T := TT) (t := 28) rfl rfl hw 2 rfl rfl)
  obtain ⟨u, hu, hu2⟩ := wStr (Zm (T := TT) (t := 28) rfl rfl hw 3 rfl rfl)
  obtain ⟨e4, h4, _, g4⟩ := Zds (T := TT) (t := 22) rfl rfl rfl (Zm (T := TT) (t := 28) rfl rfl hw 4 rfl rfl)
  obtain ⟨e5, h5, _, g5⟩ := Zds (T := TT) (t := 23) rfl rfl rfl (Zm (T := TT) (t := 28) rfl rfl hw 5 rfl rfl)
  obtain ⟨e6, h6, _, g6⟩ := Zds (T := TT) (t := 24) rfl rfl rfl (Zm (T := TT) (t := 28) rfl rfl hw 6 rfl rfl)
  obtain ⟨e7, h7, _, g7⟩ := Zds (T := TT) (t := 25) rfl rfl rfl (Zm (T := TT) (t := 28) rfl rfl hw 7 rfl rfl)
  obtain ⟨e8, h8, _, g8⟩ := Zds (T := TT) (t := 26) rfl rfl rfl (Zm (T := TT) (t := 28) rfl rfl hw 8 rfl rfl)
  obtain ⟨l4, k4, _⟩ := Zr5 (f := Mat.av) (fun x hx => wMat hx) e4 g4
  obtain ⟨l5, k5, _⟩ := Zr5 (f := pt) (P := fun _ => True) (fun x hx => (wP2 hx).imp fun p hp => ⟨hp, trivial⟩) e5 g5
  obtain ⟨l6, k6, _⟩ := Zr5 (f := Wal.av) (fun x hx => wWal hx) e6 g6
  obtain ⟨l7, k7, _⟩ := Zr5 (f := Can.av) (fun x hx => wCan hx) e7 g7
  obtain ⟨l8, k8, _⟩ := Zr5 (f := Sea.av) (fun x hx => wSea hx) e8 g8
  have hs : [x0] = [.str s] := hs
  have hn : [x1] = [I n] := hn
  have ht : [x2] = [.str t] := ht
  have hu : [x3] = [.str u] := hu
  have h4 : [x4] = [.isl 6 e4] := h4
  have h5 : [x5] = [.isl 2 e5] := h5
  have h6 : [x6] = [.isl 3 e6] := h6
  have h7 : [x7] = [.isl 7 e7] := h7
  have h8 : [x8] = [.isl 4 e8] := h8
  cases hs; cases hn; cases ht; cases hu; cases h4; cases h5; cases h6; cases h7; cases h8
  exact ⟨⟨s, n, t, u, l4, l5, l6, l7, l8⟩, by rw [k4, k5, k6, k7, k8]⟩
theorem wStg {m : Nat} {x : List AV} (hw : WT TT (m + 10 + 1) 31 x) : ∃ s : Stg, x = s.cells := by
 have h0 := (Xz (T := TT) (t := 31) rfl rfl hw).1
 have h0 : x.length = 2 := h0
 match x, h0 with
 | [x0, x1], _ =>
  obtain ⟨a, ha⟩ := Zxo (Zm (T := TT) (t := 31) rfl rfl hw 0 rfl rfl)
  obtain ⟨b, hb⟩ := Zxo (Zm (T := TT) (t := 31) rfl rfl hw 1 rfl rfl)
  have ha : [x0] = [.isl 1 (nl a)] := ha
  have hb : [x1] = [.isl 1 (nl b)] := hb
  cases ha; cases hb
  exact ⟨⟨a, b⟩, rfl⟩
theorem Zx2 {a : AV} (h : WTA TT 33 a) : ∃ (h : Hal) (s : Stg), a = .agg (stgL h s) := by
 obtain ⟨x, m, rfl, hw⟩ := Zth (T := TT) (t := 33) h rfl rfl 11
 have h0 := (Xz (T := TT) (t := 33) rfl rfl hw).1
 have h0 : x.length = 11 := h0
 match x, h0 with
 | [x0, x1, x2, x3, x4, x5, x6, x7, x8, x9, x10], _ =>
  obtain ⟨hl, hh⟩ := Yfm (Zm (T := TT) (t := 33) rfl rfl hw 0 rfl rfl)
  obtain ⟨st, hs⟩ := wStg (Zm (T := TT) (t := 33) rfl rfl hw 1 rfl rfl)
  have hh : [x0, x1, x2, x3, x4, x5, x6, x7, x8] = hl.cells := hh
  have hs : [x9, x10] = st.cells := hs
  cases hh; cases hs
  exact ⟨hl, st, rfl⟩
theorem Yfg {a : AV} (h : WTA TT 37 a) : ∃ b : Ask, a = b.av := by
 obtain ⟨x, m, rfl, hw⟩ := Zth (T := TT) (t := 37) h rfl rfl 11
 have h0 := (Xz (T := TT) (t := 37) rfl rfl hw).1
 have h0 : x.length = 7 := h0
 match x, h0 with
 | [x0, x1, x2, x3, x4, x5, x6], _ =>
  obtain ⟨n1, e1, l1, _⟩ := Zk7 (T := TT) (t := 35) rfl rfl rfl (Zm (T := TT) (t := 37) rfl rfl hw 0 rfl rfl)
  obtain ⟨n2, e2, l2, _⟩ := Zk7 (T := TT) (t := 35) rfl rfl rfl (Zm (T := TT) (t := 37) rfl rfl hw 1 rfl rfl)
  obtain ⟨n, hn⟩ := wInt (Zm (T := TT) (t := 37) rfl rfl hw 2 rfl rfl)
  have l1 : n1.length = 3 := l1
  have l2 : n2.length = 3 := l2
  have hn : [x6] = [I n] := hn
  match n1, l1, n2, l2 with
  | [a, b, c], _, [d, e, f], _ =>
   have e1 : [x0, x1, x2] = [I a, I b, I c] := e1
   have e2 : [x3, x4, x5] = [I d, I e, I f] := e2
   cases e1; cases e2; cases hn
   exact ⟨⟨a, b, c, d, e, f, n⟩, rfl⟩
theorem Ycn {a : AV} (h : WTA TT 29 a) : ∃ l : List Int, a = .isl 1 (nl l) := by
 obtain ⟨m, zs, hm, ha⟩ := h 13
 have ha : zs = [a] := ha
 obtain ⟨l, hl⟩ := Zxo hm
 have hl : zs = [.isl 1 (nl l)] := hl
 rw [ha] at hl
 cases hl
 exact ⟨l, rfl⟩
def tysA : List TypeId := [33, 37, 35, 28, 31, 22, 23, 24, 25, 26, 29, 194, 196, 198, 134, 216, 70, 9, 3]
theorem Ydh : tysA.all (Zh9 (tget tbl) tysA) = true := by kernel_rfl
end Go.Proofs.YtdaliaafmcjikaaGreat
