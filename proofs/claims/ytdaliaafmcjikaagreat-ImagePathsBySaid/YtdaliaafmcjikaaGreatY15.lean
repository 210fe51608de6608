/- A part of the proof: lemmas. -/
import Derived.Test.YtdaliaafmcjikaaGreatY14
import Derived.Test.YtdaliaafmcjikaaGreatY12
import Derived.Test.YtdaliaafmcjikaaGreatY13
import Derived.Test.YtdaliaafmcjikaaGreatY11
import Derived.Test.YtdaliaafmcjikaaGreatY10
set_option linter.unusedVariables false
set_option linter.unusedSimpArgs false
namespace Go.Proofs.YtdaliaafmcjikaaGreat
open Go Go.Sx
theorem Zur {a b : List Pt4} (h : a.map hp4 = b.map hp4) : a = b := by
 refine (List.map_inj_right (fun x y hxy => ?_)).1 h
 obtain ⟨x1, x2, x3, x4⟩ := x
 obtain ⟨y1, y2, y3, y4⟩ := y
 simpa using hxy
theorem Zos {a b : Pth} (h : a.av = b.av) : a = b := by
 obtain ⟨a1, a2, a3⟩ := a
 obtain ⟨b1, b2, b3⟩ := b
 simp only [AV.agg.injEq, List.cons.injEq, AV.isl.injEq, AV.int.injEq, true_and, and_true] at h
 rw [Zqg h.1, Zur h.2.1, h.2.2]
abbrev zPth : Pth := ⟨[], [], 0⟩
abbrev zAV : AV := .agg [.nils, .nils, I 0]
noncomputable def r20 : List AV -> Option PRes := famA (fun q : Pth × Option Pth => q.1.ss.length < 1000000 /\ q.1.ps.length < 1000000 /\ match q.2 with
 | some b => b.ss.length < 1000000 /\ b.ps.length < 1000000
 | none => True) (fun q => match q.2 with
 | some b => [q.1.av, b.av]
 | none => [q.1.av, zAV]) (fun q => match q.2 with
 | some b => ⟨Bo (same q.1 b), []⟩
 | none => ⟨Bo (same q.1 zPth), []⟩)
theorem Zy8 {pt : PC} (h : PCOK Tryz.prog pt) : PCOK Tryz.prog (ins 20 r20 pt) := by
 refine Ye (fun q hq => ?_) h
 obtain ⟨a, b⟩ := q
 cases b with
 | some b => exact d20 hq.1 hq.2.2.1 hq.2.1 hq.2.2.2
 | none =>
  refine (d20 (a := a) (b := zPth) hq.1 (by simp) hq.2.1 (by simp)).nilArgs ?_
  exact ⟨NA.rfl, .inr ⟨_, _, rfl, rfl, .inr ⟨rfl, _, rfl⟩, .inr ⟨rfl, _, rfl⟩, .inl rfl, trivial⟩, trivial⟩
theorem Yd6 {b : Pth} (h : b.av = zAV) : False := by
 simp only [AV.agg.injEq, List.cons.injEq] at h
 cases h.1
theorem Zp6 {a b : Pth} (h1 : a.ss.length < 1000000) (h2 : a.ps.length < 1000000) (h3 : b.ss.length < 1000000) (h4 : b.ps.length < 1000000) : r20 [a.av, b.av] = some ⟨Bo (same a b), []⟩ :=
 Zr (k := (a, some b)) (g := fun q : Pth × Option Pth => match q.2 with
 | some b => [q.1.av, b.av]
 | none => [q.1.av, zAV]) (fun j hj => by
  obtain ⟨x, y⟩ := j
  cases y with
  | some y =>
   simp only [List.cons.injEq, and_true] at hj
   dsimp only
   rw [Zos hj.1, Zos hj.2]
  | none =>
   simp only [List.cons.injEq, and_true] at hj
   exact (Yd6 hj.2.symm).elim) ⟨h1, h2, h3, h4⟩
theorem Zto {a : Pth} (h1 : a.ss.length < 1000000) (h2 : a.ps.length < 1000000) : r20 [a.av, zAV] = some ⟨Bo (same a zPth), []⟩ :=
 Zr (k := (a, none)) (g := fun q : Pth × Option Pth => match q.2 with
 | some b => [q.1.av, b.av]
 | none => [q.1.av, zAV]) (fun j hj => by
  obtain ⟨x, y⟩ := j
  cases y with
  | some y =>
   simp only [List.cons.injEq, and_true] at hj
   exact (Yd6 hj.2).elim
  | none =>
   simp only [List.cons.injEq, and_true] at hj
   dsimp only
   rw [Zos hj]) ⟨h1, h2, trivial⟩
set_option maxRecDepth 100000 in
set_option maxHeartbeats 8000000 in
theorem d97 {a b : List Pt4} (ka : a.length < 1000000) (kb : b.length < 1000000) : PCall Tryz.prog 97 [.isl 4 (a.map hp4), .isl 4 (b.map hp4)] ⟨Bo (eqP a b), []⟩ := by
 have l1 := Zkj a
 have l2 := Zkj b
 by_cases h3 : a.length = b.length
 rotate_left
 ·rw [Zvi h3]
  refine bs.pv (sx := nos) Ze Tryz.func97 (by kernel_rfl) (by kernel_rfl) rfl ?_
  repeat' (first | refine wk3 ?_ | (refine wk2 ?_ ?_ <;> intro _) | refine wk4 ?_ | fail); all_goals (conv => whnf)
  exact Zb rfl
 refine bs.pv (sx := nos) Ze Tryz.func97 (by kernel_rfl) (by kernel_rfl) rfl ?_
 repeat' (first | refine wk3 ?_ | (refine wk2 ?_ ?_ <;> intro _) | refine wk4 ?_ | fail); all_goals (conv => whnf)
 refine Zx (S := Nat × Int) (fun t => a.length - t.1) (fun t => [(0, .isl 4 (a.map hp4)), (1, .isl 4 (b.map hp4)), (12, I (a.map hp4).length), (13, I t.2)]) (fun _ => []) 0 0
  (fun t => t.2 = t.1 /\ t.1 <= a.length /\ eqP (a.drop t.1) (b.drop t.1) = eqP a b) (0, 0) ⟨rfl, Nat.zero_le _, rfl⟩ (Nat.le_refl _) [] rfl (kps) (kps) ?_
 rintro ⟨k, i⟩ ⟨hi, hk, hh⟩
 dsimp only at hi hk hh ⊢
 subst hi
 generalize eqP a b = R at *
 refine bs.av (sx := nos) Ze ?_
 by_cases hlt : k < a.length
 ·have e1 := Zna hlt
  have e2 := Zna (l := b) (k := k) (by omega)
  rw [List.drop_eq_getElem_cons hlt, List.drop_eq_getElem_cons (show k < b.length by omega), eqP] at hh
  generalize a[k] = x at *
  generalize (b[k]'(by omega)) = y at *
  obtain ⟨x1, x2, x3, x4⟩ := x
  obtain ⟨y1, y2, y3, y4⟩ := y
  cases hb : eqP4 (x1, x2, x3, x4) (y1, y2, y3, y4) with
  | true =>
   rw [hb, Bool.true_and] at hh
   repeat' (first | refine wk3 ?_ | (refine wk2 ?_ ?_ <;> intro _) | refine wk4 ?_ | fail); all_goals (conv => whnf)
   all_goals first
    | (exfalso; simp_all [eqP4]; done)
    | exact Done.mk ⟨(k + 1, _), [], rfl, kps, kps, ⟨Zk (by omega), hlt, hh⟩, by dsimp only; omega⟩
  | false =>
   rw [hb, Bool.false_and] at hh
   subst hh
   repeat' (first | refine wk3 ?_ | (refine wk2 ?_ ?_ <;> intro _) | refine wk4 ?_ | fail); all_goals (conv => whnf)
   all_goals first
    | exact Zb rfl
    | (exfalso; simp_all [eqP4]; done)
 ·rw [List.drop_of_length_le (by omega), List.drop_of_length_le (by omega), eqP] at hh
  subst hh
  repeat' (first | refine wk3 ?_ | (refine wk2 ?_ ?_ <;> intro _) | refine wk4 ?_ | fail); all_goals (conv => whnf)
  exact Zb rfl
structure AskOk (h : Hal) (s : Stg) (a : Ask) : Prop where
 e0 : serr h s = 0
 f : Near 5000 (a.fx, a.fy, a.fz)
 t : Near 5000 (a.tx, a.ty, a.tz)
 fi : Zag h ⟨a.fx, a.fy, a.fz, 1⟩ = true
 ti : Zag h ⟨a.tx, a.ty, a.tz, 1⟩ = true
 ne : a.same = false
 n : 0 <= a.n /\ a.n <= 4
theorem Xb {h : Hal} {s : Stg} {a : Ask} (e : askE h s a = 0) : AskOk h s a := by
 unfold askE at e
 split at e
 ·rename_i e0
  simp only [fstL] at e
  by_cases c1 : plaE h a.fx a.fy a.fz = 0
  rotate_left
  ·rw [if_pos (fun k => c1 k)] at e; exact absurd e c1
  by_cases c2 : plaE h a.tx a.ty a.tz = 0
  rotate_left
  ·rw [if_neg (fun k => k c1), if_pos (fun k => c2 k)] at e; exact absurd e c2
  by_cases c3 : unl (!a.same) 11 = 0
  rotate_left
  ·rw [if_neg (fun k => k c1), if_neg (fun k => k c2), if_pos (fun k => c3 k)] at e; exact absurd e c3
  by_cases c4 : unl (within a.n 0 4) 2 = 0
  rotate_left
  ·rw [if_neg (fun k => k c1), if_neg (fun k => k c2), if_neg (fun k => k c3), if_pos (fun k => c4 k)] at e; exact absurd e c4
  refine ⟨e0, (Zfh c1).1, (Zfh c2).1, (Zfh c1).2, (Zfh c2).2, ?_, ?_⟩
  ·cases hs : a.same with
   | false => rfl
   | true => rw [hs] at c3; cases c3
  ·cases hw : within a.n 0 4 with
   | true => exact within_iff.1 hw
   | false => rw [hw] at c4; cases c4
 ·rename_i e0; exact absurd e e0
theorem Zqf {h : Hal} {s : Stg} {q0 q1 : Pl3} {ns : List Int} {p : Pth} (e : Zcw h s q0 q1 ns = some p) : p.ss = ns := by
 rw [Zfi] at e
 split at e
 ·cases e
 ·split at e
  ·cases e; rfl
  ·cases e
theorem Zuw {f : Int -> Pl3 -> Pt -> Pt × Int} : ∀ {l : List (Int × Pl3)} {to : Pt} {P R : List Pt}, goP f l to P = some R -> R.length = l.length + P.length
 | [], _, _, _, h => by rw [goP, Option.some.injEq] at h; subst h; simp
 | (a, q) :: r, to, P, R, h => by
  rw [goP] at h
  split at h
  ·have := Zuw h
   rw [this, List.length_cons, List.length_cons]; omega
  ·cases h
theorem Zk9 {h : Hal} {s : Stg} {q0 q1 : Pl3} {ns : List Int} {p : Pth} (e : Zcw h s q0 q1 ns = some p) : p.ps.length = ns.length := by
 rw [Zfi] at e
 split at e
 ·cases e
 ·rename_i P hP
  have := Zuw hP
  rw [List.length_reverse, Vt, List.length_nil] at this
  split at e
  ·cases e; rw [List.length_map]; exact this
  ·cases e
abbrev qF (a : Ask) : Pl3 := (a.fx, a.fy, a.fz)
abbrev qT (a : Ask) : Pl3 := (a.tx, a.ty, a.tz)
def pofV (h : Hal) (s : Stg) (a : Ask) (ns : List Int) : Option Pth × Int := if askE h s a = 0 then (if suE h ns = 0 then (match Zcw h s (qF a) (qT a) ns with
 | none => (none, 12)
 | some p => (some p, 0)) else (none, suE h ns)) else (none, askE h s a)
def rawO : Option Pth -> AV
 | none => .agg [.nils, .nils, I 0]
 | some p => p.av
theorem d65a {h : Hal} (hk : h.ok) {s : Stg} (hs : s.few) {a : Ask} (e : askE h s a = 0) {ns : List Int} (e2 : suE h ns = 0) : PCall Tryz.prog 65 [.agg (stgL h s), a.av, .isl 1 (nl ns)] ⟨rawP (Zcw h s (qF a) (qT a) ns), []⟩ :=
 d65 hk hs (Xb e).e0 a (Xb e).f (Xb e).t (Zb2 e2).1 (Zb2 e2).2
theorem d21a {h : Hal} (hk : h.ok) {s : Stg} (hs : s.few) {a : Ask} (e : askE h s a = 0) {ns : List Int} (e2 : suE h ns = 0) : PCall Tryz.prog 21 [h.av, s.av, a.av, .isl 1 (nl ns)] ⟨ansP (Zcw h s (qF a) (qT a) ns), []⟩ :=
 d21p (Zh6 hk hs (Xb e).e0) (Xb e).e0 a (Xb e).f (Xb e).t (Zb2 e2).1 (Zb2 e2).2
set_option maxRecDepth 100000 in
set_option maxHeartbeats 8000000 in
theorem d14 {h : Hal} (hk : h.ok) {s : Stg} (hs : s.few) (a : Ask) {ns : List Int} (hl : ns.length < 1000) : PCall Tryz.prog 14 [h.av, s.av, a.av, .isl 1 (nl ns)] ⟨.tup [rawO (pofV h s a ns).1, I (pofV h s a ns).2], []⟩ := by
 have ha := d24 hk hs a
 have hp := fun e e2 => d65a (a := a) (ns := ns) hk hs e e2
 obtain ⟨fx, fy, fz, tx, ty, tz, n⟩ := a
 unfold pofV
 by_cases e : askE h s ⟨fx, fy, fz, tx, ty, tz, n⟩ = 0
 rotate_left
 ·rw [if_neg e]
  have hk0 := Zt ha Ze
  have o1 := Yj [h.av, s.av, Ask.av ⟨fx, fy, fz, tx, ty, tz, n⟩] ⟨I (askE h s ⟨fx, fy, fz, tx, ty, tz, n⟩), []⟩
  generalize askE h s ⟨fx, fy, fz, tx, ty, tz, n⟩ = E at *
  refine bs.pv (sx := nos) hk0 Tryz.func14 (by kernel_rfl) (by kernel_rfl) rfl ?_
  repeat' (first | refine wk3 ?_ | (refine wk2 ?_ ?_ <;> intro _) | refine wk4 ?_ | fail); all_goals (conv => whnf)
  all_goals first
   | exact Zf rfl rfl
   | (exfalso; simp_all; done)
 have e0 := (Xb e).e0
 have hw := d165 hk (Zfd e0) ns hl
 rw [if_pos e]
 rw [e] at ha
 by_cases e2 : suE h ns = 0
 rotate_left
 ·rw [if_neg e2]
  have hk0 := Zt ha (Zt hw Ze)
  have o1 := Yj [h.av, s.av, Ask.av ⟨fx, fy, fz, tx, ty, tz, n⟩] ⟨I 0, []⟩
  have o2 := Yj [h.av, .isl 1 (nl ns)] ⟨I (suE h ns), []⟩
  generalize suE h ns = E at *
  refine bs.pv (sx := nos) hk0 Tryz.func14 (by kernel_rfl) (by kernel_rfl) rfl ?_
  repeat' (first | refine wk3 ?_ | (refine wk2 ?_ ?_ <;> intro _) | refine wk4 ?_ | fail); all_goals (conv => whnf)
  all_goals first
   | exact Zf rfl rfl
   | (exfalso; clear hk0 o1 o2; simp_all; done)
 rw [if_pos e2]
 have hp := hp e e2
 rw [e2] at hw
 have hk0 := Zt ha (Zt hw (Zt hp Ze))
 have o1 := Yj [h.av, s.av, Ask.av ⟨fx, fy, fz, tx, ty, tz, n⟩] ⟨I 0, []⟩
 have o2 := Yj [h.av, .isl 1 (nl ns)] ⟨I 0, []⟩
 generalize Zcw h s (qF ⟨fx, fy, fz, tx, ty, tz, n⟩) (qT ⟨fx, fy, fz, tx, ty, tz, n⟩) ns = R at *
 have o3 := Yj [.agg (stgL h s), Ask.av ⟨fx, fy, fz, tx, ty, tz, n⟩, .isl 1 (nl ns)] ⟨rawP R, []⟩
 cases R with
 | none =>
  refine bs.pv (sx := nos) hk0 Tryz.func14 (by kernel_rfl) (by kernel_rfl) rfl ?_
  repeat' (first | refine wk3 ?_ | (refine wk2 ?_ ?_ <;> intro _) | refine wk4 ?_ | fail); all_goals (conv => whnf)
  all_goals exact Zf rfl rfl
 | some p =>
  obtain ⟨ss, ps, sq⟩ := p
  refine bs.pv (sx := nos) hk0 Tryz.func14 (by kernel_rfl) (by kernel_rfl) rfl ?_
  repeat' (first | refine wk3 ?_ | (refine wk2 ?_ ?_ <;> intro _) | refine wk4 ?_ | fail); all_goals (conv => whnf)
  all_goals exact Zf rfl rfl
set_option maxRecDepth 100000 in
set_option maxHeartbeats 8000000 in
theorem d18 {h : Hal} (hk : h.ok) {s : Stg} (hs : s.few) (a : Ask) : PCall Tryz.prog 18 [h.av, s.av, a.av] ⟨I (askE h s a), []⟩ := by
 have hk0 := Zd (d90 hk) (Zd (c75 hk.f hs) Ze)
 by_cases e : serr h s = 0
 ·have he := Zfd e
  have e2 : setE h s = 0 := by unfold serr at e; rw [if_pos he] at e; exact e
  obtain ⟨fx, fy, fz, tx, ty, tz, n⟩ := a
  unfold askE
  rw [if_pos e]
  rw [he, e2] at hk0
  dsimp only
  have hk1 := Ycv hk he (Zd (d68 n) hk0)
  have q1 := Zk4 h fx fy fz
  have q2 := Zk4 h tx ty tz
  simp only [fstL]
  refine bs.pv (sx := nos) hk1 Tryz.func18 (by kernel_rfl) (by kernel_rfl) rfl ?_
  clear hk1 hk0
  repeat' (first | refine wk3 ?_ | (refine wk2 ?_ ?_ <;> intro _) | refine wk4 ?_ | fail); all_goals (conv => whnf)
  all_goals first
   | (refine Za ?_; simp_all [Ask.same, unl]; done)
   | (refine Za ?_; clear q1 q2; cases hw : within n 0 4 <;> by_cases c1 : fx = tx <;> by_cases c2 : fy = ty <;> by_cases c3 : fz = tz <;> simp_all [Ask.same, unl] <;> done)
   | (exfalso; simp_all; done)
 ·rw [show askE h s a = serr h s by unfold askE; rw [if_neg e]]
  unfold serr at e ⊢
  refine bs.pv (sx := nos) hk0 Tryz.func18 (by kernel_rfl) (by kernel_rfl) rfl ?_
  clear hk0
  repeat' (first | refine wk3 ?_ | (refine wk2 ?_ ?_ <;> intro _) | refine wk4 ?_ | fail); all_goals (conv => whnf)
  all_goals first
   | (refine Za ?_; simp_all; done)
   | (exfalso; simp_all; done)
theorem Zzt {f : Int -> Pl3 -> Pt -> Pt × Int} {G : Pt -> Prop} {C : Int -> Pt -> Prop} : ∀ {l : List (Int × Pl3)} {to : Pt} {P R : List Pt}, (∀ x ∈ l, ∀ t, G t -> (f x.1 x.2 t).2 = 0 -> G (f x.1 x.2 t).1 /\ C x.1 (f x.1 x.2 t).1) -> G to -> goP f l to P = some R -> ∃ T, R = T ++ P /\ T.length = l.length /\ (∀ p ∈ T, G p) /\ ∀ i (h1 : i < T.length) (h2 : i < l.reverse.length), C (l.reverse[i]).1 T[i]
 | [], to, P, R, _, _, h => by
  rw [goP, Option.some.injEq] at h
  exact ⟨[], by rw [h]; rfl, rfl, by simp, fun i h1 => absurd h1 (by simp)⟩
 | (a, q) :: r, to, P, R, hx, hg, h => by
  rw [goP] at h
  split at h
  ·rename_i e
   obtain ⟨g1, c1⟩ := hx (a, q) (by simp) to hg e
   obtain ⟨T, t1, t2, t3, t4⟩ := Zzt (l := r) (fun x hm => hx x (by simp [hm])) g1 h
   refine ⟨T ++ [(f a q to).1], by rw [t1]; simp, by simp [t2], fun p hp => ?_, fun i h1 h2 => ?_⟩
   ·rcases List.mem_append.1 hp with hp | hp
    ·exact t3 p hp
    ·rw [List.mem_singleton.1 hp]; exact g1
   ·have hr : ((a, q) :: r).reverse = r.reverse ++ [(a, q)] := by simp
    have hl : r.reverse.length = T.length := by rw [List.length_reverse, t2]
    by_cases hi : i < T.length
    ·have := t4 i hi (by rw [hl]; exact hi)
     simp only [hr]
     rw [List.getElem_append_left (by rw [hl]; exact hi), List.getElem_append_left hi]
     exact this
    ·have hie : i = T.length := by simp at h1; omega
     subst hie
     simp only [hr]
     rw [List.getElem_append_right (by rw [hl]; exact Nat.le_refl _), List.getElem_append_right (Nat.le_refl _)]
     simp only [hl, Nat.sub_self, List.getElem_cons_zero]
     exact c1
  ·cases h
theorem Ya6 {h : Hal} {s : Stg} (g : Sit h s) {q0 : Pl3} {ns : List Int} (hf : Near 5000 q0) (hl : ns.length <= 4) (hi : ∀ n ∈ ns, 0 <= n /\ n < nsur h) {x : Int × Pl3} (hx : x ∈ lkG (im1 h s) q0 ns) : (0 <= x.1 /\ x.1 < nsur h) /\ Near 45000 x.2 := by
 obtain ⟨k, hk, rfl⟩ := List.mem_iff_getElem.1 hx
 have hk2 : k < ns.length := by rw [<-Vt (im1 h s) q0 ns]; exact hk
 have e := Zld (im1 h s) q0 ns k hk2
 rw [List.getElem?_eq_getElem hk, Option.some.injEq] at e
 rw [e]
 exact ⟨hi _ (List.getElem_mem _), Zmr (by omega) (Zhk g hf hl (Zj2 hi) (k + 1) (by omega))⟩
theorem Zxc {h : Hal} {s : Stg} (g : Sit h s) (e0 : serr h s = 0) {q0 q1 : Pl3} {ns : List Int} (hf : Near 5000 q0) (ht : Near 5000 q1) (hl : ns.length <= 4) (hi : ∀ n ∈ ns, 0 <= n /\ n < nsur h) {p : Pth} (e : Zcw h s q0 q1 ns = some p) :
  ∃ P : List Pt, p.ps = P.map tup4 /\ (∀ x ∈ P, Yw x = 0) /\ ∀ k (h1 : k < P.length) (h2 : k < ns.length), valN (Zg h s ns[k]).1 P[k].x P[k].y P[k].z = (Zg h s ns[k]).2 * P[k].d := by
 rw [Zfi] at e
 split at e
 ·cases e
 ·rename_i P hP
  split at e
  ·cases e
   obtain ⟨T, t1, t2, t3, t4⟩ := Zzt (f := fP h s) (G := fun t => Yw t = 0) (C := fun n t => valN (Zg h s n).1 t.x t.y t.z = (Zg h s n).2 * t.d) (fun x hx t hg hz => by
    obtain ⟨a1, a2⟩ := Ya6 g hf hl hi (List.mem_reverse.1 hx)
    exact (Znx g e0 a1 a2 hg).2.2.2 hz) (Zif ht) hP
   rw [List.append_nil] at t1
   subst t1
   refine ⟨P, rfl, t3, fun k h1 h2 => ?_⟩
   have h3 : k < (lkG (im1 h s) q0 ns).reverse.reverse.length := by rw [List.reverse_reverse, Vt]; exact h2
   have := t4 k h1 h3
   have e1 := Zld (im1 h s) q0 ns k h2
   rw [List.getElem?_eq_getElem (by rw [Vt]; exact h2), Option.some.injEq] at e1
   simp only [List.reverse_reverse] at this
   rw [e1] at this
   exact this
  ·cases e
theorem Zxf {h : Hal} {s : Stg} (g : Sit h s) {n : Int} (hi : SK h n) {p : Pt} (hp : Yw p = 0) (e : valN (Zg h s n).1 p.x p.y p.z = (Zg h s n).2 * p.d) : off (Zg h s n).1 (Zg h s n).2 p.x p.y p.z p.d = 0 := by
 obtain ⟨⟨b1, b2⟩, b3⟩ := Zfg g hi
 obtain ⟨p1, p2, _, p4⟩ := Zbp hp
 unfold ptIn at p4
 simp only [Bool.and_eq_true, within_iff] at p4
 have ho : CrOk (Zg h s n) ⟨n, 0, 0, 0, p⟩ := ⟨b1, b2, b3, by dsimp only; omega, by dsimp only; omega, by dsimp only; omega, p1, p2, p4.1.1, p4.1.2, p4.2⟩
 have := (Zra ho).1
 unfold crG at this
 dsimp only at this
 rw [e, Int.sub_self] at this
 exact this
theorem Zw8 (o : Option Pth) (n : Int) : Frz [] (.tup [rawO o, I n]) (.tup [(o.getD zPth).av, I n]) := by
 cases o with
 | none => exact ⟨⟨rfl, rfl, ⟨rfl, rfl⟩, trivial⟩, ⟨rfl, rfl⟩, trivial⟩
 | some p => exact ⟨⟨⟨rfl, rfl⟩, ⟨rfl, rfl⟩, ⟨rfl, rfl⟩, trivial⟩, ⟨rfl, rfl⟩, trivial⟩
theorem d14f {h : Hal} (hk : h.ok) {s : Stg} (hs : s.few) (a : Ask) {ns : List Int} (hl : ns.length < 1000) : PCall Tryz.prog 14 [h.av, s.av, a.av, .isl 1 (nl ns)] ⟨.tup [((pofV h s a ns).1.getD zPth).av, I (pofV h s a ns).2], []⟩ := (d14 hk hs a hl).freeze (Zw8 _ _)
def rOff : List AV -> Option PRes
 | [.agg [.int .i64 k, .int .i64 a], .agg [.int .i64 x, .int .i64 y, .int .i64 z, .int .i64 d]] => asr (decide (0 <= k /\ k < 5)) ⟨I (off k a x y z d), []⟩
 | _ => none
theorem Yao {pt : PC} (h : PCOK Tryz.prog pt) : PCOK Tryz.prog (ins 22 rOff pt) := Zi (fun a res h => by
 unfold rOff at h; split at h
 ·obtain ⟨h1, rfl⟩ := Vl h
  have := of_decide_eq_true h1
  exact c35 _ _ _ _ _ this.1 this.2
 ·cases h) h
theorem Ztn (p : Pth) : same p p = true := same_iff.2 rfl
set_option maxRecDepth 100000 in
set_option maxHeartbeats 16000000 in
theorem d3 (aw : PCall Tryz.prog 12 [] ⟨Bo true, []⟩) (h : Hal) (s : Stg) (a : Ask) (l : List Int) : PCall Tryz.prog 3 [.agg (stgL h s), a.av, .isl 1 (nl l)] ⟨Bo true, []⟩ := by
 have ll := Zl l
 by_cases hb : few3 h s = true
 rotate_left
 ·have hb : few3 h s = false := by simpa using hb
  have hk0 := Zd (d17 h s) (Zd aw Ze)
  rw [hb] at hk0
  refine bs.pv (sx := nos) hk0 Tryz.func3 (by kernel_rfl) (by kernel_rfl) rfl ?_
  repeat' (first | refine wk3 ?_ | (refine wk2 ?_ ?_ <;> intro _) | refine wk4 ?_ | fail); all_goals (conv => whnf)
  all_goals exact Zb rfl
 by_cases h6 : 6 < l.length
 ·have hk0 := Zd (d17 h s) (Zd aw Ze)
  rw [hb] at hk0
  refine bs.pv (sx := nos) hk0 Tryz.func3 (by kernel_rfl) (by kernel_rfl) rfl ?_
  repeat' (first | refine wk3 ?_ | (refine wk2 ?_ ?_ <;> intro _) | refine wk4 ?_ | fail); all_goals (conv => whnf)
  all_goals exact Zb rfl
 obtain ⟨hk, hs⟩ := Zu8 hb
 have h14 := d14f hk hs a (ns := l) (by omega)
 have h18 := d18 hk hs a
 have h21 := fun e e2 => d21a (a := a) (ns := l) hk hs e e2
 have hon := fun (e : askE h s a = 0) (e2 : suE h l = 0) p hp => Zxc (Zh6 hk hs (Xb e).e0) (Xb e).e0 (Xb e).f (Xb e).t (Zb2 e2).1 (Zb2 e2).2 (p := p) hp
 have h0 := Zd (d17 h s) (Zd aw (Zd (c22f hk.f) (Zd (c29 hs) (Zd (c25f l (by omega)) (Zy8 Ze)))))
 rw [hb] at h0
 have z1 := Zto (a := zPth) (by simp) (by simp)
 have z2 : same zPth zPth = true := rfl
 rw [z2] at z1
 by_cases e : askE h s a = 0
 rotate_left
 ·have ep : pofV h s a l = (none, askE h s a) := by unfold pofV; rw [if_neg e]
  rw [ep] at h14
  have h1 := Zd h14 (Zd h18 h0)
  obtain ⟨fx, fy, fz, tx, ty, tz, n⟩ := a
  generalize askE h s ⟨fx, fy, fz, tx, ty, tz, n⟩ = E at *
  clear h18 h14 h21 hon h0
  refine bs.pv (sx := nos) h1 Tryz.func3 (by kernel_rfl) (by kernel_rfl) rfl ?_
  clear h1 hb aw
  repeat' (first | refine wk3 ?_ | (refine wk2 ?_ ?_ <;> intro _) | refine wk4 ?_ | fail); all_goals (conv => whnf)
  all_goals first
   | exact Zb rfl
   | (exfalso; clear z1; simp_all; done)
 have h93 := d93 hk.f l (by omega)
 by_cases e2 : suE h l = 0
 rotate_left
 ·have ep : pofV h s a l = (none, suE h l) := by unfold pofV; rw [if_pos e, if_neg e2]
  rw [ep] at h14
  rw [e] at h18
  have h1 := Zd h14 (Zd h18 (Zd h93 h0))
  obtain ⟨fx, fy, fz, tx, ty, tz, n⟩ := a
  generalize suE h l = E at *
  clear h18 h14 h21 hon h0 h93
  refine bs.pv (sx := nos) h1 Tryz.func3 (by kernel_rfl) (by kernel_rfl) rfl ?_
  clear h1 hb aw
  repeat' (first | refine wk3 ?_ | (refine wk2 ?_ ?_ <;> intro _) | refine wk4 ?_ | fail); all_goals (conv => whnf)
  all_goals first
   | exact Zb rfl
   | (exfalso; clear z1; simp_all; done)
 have h21 := h21 e e2
 have hon := hon e e2
 rw [e] at h18
 rw [e2] at h93
 have g := Zh6 hk hs (Xb e).e0
 have hi := (Zb2 e2).2
 cases hpv : Zcw h s (qF a) (qT a) l with
 | none =>
  have ep : pofV h s a l = (none, 12) := by unfold pofV; rw [if_pos e, if_pos e2, hpv]
  rw [ep] at h14
  rw [hpv] at h21
  have h1 := Zd h14 (Zd h18 (Zd h93 (Zd h21 h0)))
  obtain ⟨fx, fy, fz, tx, ty, tz, n⟩ := a
  clear h18 h14 h21 hon h0 h93
  refine bs.pv (sx := nos) h1 Tryz.func3 (by kernel_rfl) (by kernel_rfl) rfl ?_
  clear h1 hb aw
  repeat' (first | refine wk3 ?_ | (refine wk2 ?_ ?_ <;> intro _) | refine wk4 ?_ | fail); all_goals (conv => whnf)
  all_goals exact Zb rfl
 | some p =>
  have ep : pofV h s a l = (some p, 0) := by unfold pofV; rw [if_pos e, if_pos e2, hpv]
  rw [ep] at h14
  rw [hpv] at h21
  obtain ⟨P, hP, hr, hon2⟩ := hon p hpv
  clear hon
  have s1 := Zqf hpv
  have s2 := Zk9 hpv
  have h1 := Zd h14 (Zd h18 (Zd h93 (Zd h21 (Zza g (Yao h0)))))
  have ps := Zp6 (a := p) (b := p) (by rw [s1]; omega) (by rw [s2]; omega) (by rw [s1]; omega) (by rw [s2]; omega)
  rw [Ztn] at ps
  obtain ⟨fx, fy, fz, tx, ty, tz, n⟩ := a
  obtain ⟨ss, pp, sq⟩ := p
  dsimp only at hP s1 s2
  have lp := Zkj pp
  have lP : P.length = l.length := by rw [<-s2, hP, List.length_map]
  subst s1
  clear h18 h14 h21 h0 h93 hpv ep aw
  refine bs.pv (sx := nos) h1 Tryz.func3 (by kernel_rfl) (by kernel_rfl) rfl ?_
  clear hb
  repeat' (first | refine wk3 ?_ | (refine wk2 ?_ ?_ <;> intro _) | refine wk4 ?_ | fail); all_goals (conv => whnf)
  refine Zx (S := Nat × Int) (fun t => ss.length - t.1) (fun t => [(2, .isl 1 (nl ss)), (3, .ptr 0 0 0), (10, .ptr 18 0 0), (12, I t.2)]) (fun _ => [(18, .row 3 [[.isl 1 (nl ss), .isl 4 (pp.map hp4), I sq]] true false), (0, .row 11 [stgL h s] true false)]) 40 40
   (fun t => t.2 = t.1 /\ t.1 <= ss.length) (0, 0) ⟨rfl, Nat.zero_le _⟩ (Nat.le_of_ble_eq_true rfl) [] rfl (kps) (kps) ?_
  rintro ⟨k, i⟩ ⟨hi1, hk1⟩
  dsimp only at hi1 hk1 ⊢
  subst hi1
  refine bs.av (sx := nos) h1 ?_
  by_cases hlt : k < ss.length
  ·have e1 := Vq hlt
   have e2 := Zna (l := pp) (k := k) (by omega)
   have q1 := Ztv (s := s) (Zj2 hi _ (List.getElem_mem hlt))
   have q2 := Zxf g (Zj2 hi _ (List.getElem_mem hlt)) (hr _ (List.getElem_mem (show k < P.length by omega))) (hon2 k (by omega) hlt)
   have q3 := (Zfg g (Zj2 hi _ (List.getElem_mem hlt))).1
   have e3 : (pp[k]'(by omega)) = tup4 (P[k]'(by omega)) := by simp [hP]
   rw [e3] at e2
   generalize (P[k]'(by omega)) = x at *
   generalize ss[k] = m at *
   generalize Zg h s m = pl at *
   obtain ⟨x1, x2, x3, x4⟩ := x
   obtain ⟨p1, p2⟩ := pl
   dsimp only at q2 q3
   have q4 : asr (decide (0 <= p1 /\ p1 < 5)) ⟨I (off p1 p2 x1 x2 x3 x4), []⟩ = some ⟨I 0, []⟩ := by rw [Xy (by omega), q2]
   repeat' (first | refine wk3 ?_ | (refine wk2 ?_ ?_ <;> intro _) | refine wk4 ?_ | fail); all_goals (conv => whnf)
   exact Done.mk ⟨(k + 1, _), [], rfl, kps, kps, ⟨Zk (by omega), hlt⟩, by dsimp only; omega⟩
  ·repeat' (first | refine wk3 ?_ | (refine wk2 ?_ ?_ <;> intro _) | refine wk4 ?_ | fail); all_goals (conv => whnf)
   exact Zb rfl
theorem wP4 {d : Nat} {x : List AV} (h : WT TT (d + 2) 59 x) : ∃ p : Int × Int × Int × Int, x = hp4 p := by
 obtain ⟨ns, h1, h2, _⟩ := Zhv (T := TT) (t := 59) rfl rfl rfl h
 have h2 : ns.length = 4 := h2
 match ns, h2 with
 | [a, b, c, e], _ => exact ⟨(a, b, c, e), by rw [h1]; rfl⟩
theorem Yav {a : AV} (h : WTA TT 42 a) : ∃ p : Pth, a = p.av := by
 obtain ⟨x, m, rfl, hw⟩ := Zoh (T := TT) (t := 42) h rfl rfl 11
 have h0 := (Xq (T := TT) (t := 42) rfl rfl hw).1
 have h0 : x.length = 3 := h0
 match x, h0 with
 | [x0, x1, x2], _ =>
  obtain ⟨l, hl⟩ := Zs7 (Zm (T := TT) (t := 42) rfl rfl hw 0 rfl rfl)
  obtain ⟨e5, h5, _, g5⟩ := Zb0 (T := TT) (t := 40) rfl rfl rfl (Zm (T := TT) (t := 42) rfl rfl hw 1 rfl rfl)
  obtain ⟨l5, k5, _⟩ := Zok (f := hp4) (P := fun _ => True) (fun x hx => (wP4 hx).imp fun p hp => ⟨hp, trivial⟩) e5 g5
  obtain ⟨n, hn⟩ := wInt (Zm (T := TT) (t := 42) rfl rfl hw 2 rfl rfl)
  have hl : [x0] = [.isl 1 (nl l)] := hl
  have h5 : [x1] = [.isl 4 e5] := h5
  have hn : [x2] = [I n] := hn
  cases hl; cases h5; cases hn
  exact ⟨⟨l, l5, n⟩, by rw [k5]⟩
theorem Yea {m : Nat} {x : List AV} (hw : WT TT (m + 10 + 1) 28 x) : ∃ h : Hal, x = h.cells := by
 have h0 := (Xq (T := TT) (t := 28) rfl rfl hw).1
 have h0 : x.length = 9 := h0
 match x, h0 with
 | [x0, x1, x2, x3, x4, x5, x6, x7, x8], _ =>
  obtain ⟨s, hs, hs2⟩ := wStr (Zm (T := TT) (t := 28) rfl rfl hw 0 rfl rfl)
  obtain ⟨n, hn⟩ := wInt (Zm (T := TT) (t := 28) rfl rfl hw 1 rfl rfl)
  obtain ⟨t, ht, ht2⟩ := wStr (Zm (T := TT) (t := 28) rfl rfl hw 2 rfl rfl)
  obtain ⟨u, hu, hu2⟩ := wStr (Zm (T := TT) (t := 28) rfl rfl hw 3 rfl rfl)
  obtain ⟨e4, h4, _, g4⟩ := Zb0 (T := TT) (t := 22) rfl rfl rfl (Zm (T := TT) (t := 28) rfl rfl hw 4 rfl rfl)
  obtain ⟨e5, h5, _, g5⟩ := Zb0 (T := TT) (t := 23) rfl rfl rfl (Zm (T := TT) (t := 28) rfl rfl hw 5 rfl rfl)
  obtain ⟨e6, h6, _, g6⟩ := Zb0 (T := TT) (t := 24) rfl rfl rfl (Zm (T := TT) (t := 28) rfl rfl hw 6 rfl rfl)
  obtain ⟨e7, h7, _, g7⟩ := Zb0 (T := TT) (t := 25) rfl rfl rfl (Zm (T := TT) (t := 28) rfl rfl hw 7 rfl rfl)
  obtain ⟨e8, h8, _, g8⟩ := Zb0 (T := TT) (t := 26) rfl rfl rfl (Zm (T := TT) (t := 28) rfl rfl hw 8 rfl rfl)
  obtain ⟨l4, k4, _⟩ := Zok (f := Mat.av) (fun x hx => wMat hx) e4 g4
  obtain ⟨l5, k5, _⟩ := Zok (f := pt) (P := fun _ => True) (fun x hx => (wP2 hx).imp fun p hp => ⟨hp, trivial⟩) e5 g5
  obtain ⟨l6, k6, _⟩ := Zok (f := Wal.av) (fun x hx => wWal hx) e6 g6
  obtain ⟨l7, k7, _⟩ := Zok (f := Can.av) (fun x hx => wCan hx) e7 g7
  obtain ⟨l8, k8, _⟩ := Zok (f := Sea.av) (fun x hx => wSea hx) e8 g8
  have hs : [x0] = [.str s] := hs
  have hn : [x1] = [I n] := hn
  have ht : [x2] = [.str t] := ht
  have hu : [x3] = [.str u] := hu
  have h4 : [x4] = [.isl 6 e4] := h4
  have h5 : [x5] = [.isl 2 e5] := h5
  have h6 : [x6] = [.isl 3 e6] := h6
  have h7 : [x7] = [.isl 7 e7] := h7
  have h8 : [x8] = [.isl 4 e8] := h8
  cases hs; cases hn; cases ht; cases hu; cases h4; cases h5; cases h6; cases h7; cases h8
  exact ⟨⟨s, n, t, u, l4, l5, l6, l7, l8⟩, by rw [k4, k5, k6, k7, k8]⟩
theorem wStg {m : Nat} {x : List AV} (hw : WT TT (m + 10 + 1) 31 x) : ∃ s : Stg, x = s.cells := by
 have h0 := (Xq (T := TT) (t := 31) rfl rfl hw).1
 have h0 : x.length = 2 := h0
 match x, h0 with
 | [x0, x1], _ =>
  obtain ⟨a, ha⟩ := Zs7 (Zm (T := TT) (t := 31) rfl rfl hw 0 rfl rfl)
  obtain ⟨b, hb⟩ := Zs7 (Zm (T := TT) (t := 31) rfl rfl hw 1 rfl rfl)
  have ha : [x0] = [.isl 1 (nl a)] := ha
  have hb : [x1] = [.isl 1 (nl b)] := hb
  cases ha; cases hb
  exact ⟨⟨a, b⟩, rfl⟩
theorem Zp5 {a : AV} (h : WTA TT 33 a) : ∃ (h : Hal) (s : Stg), a = .agg (stgL h s) := by
 obtain ⟨x, m, rfl, hw⟩ := Zoh (T := TT) (t := 33) h rfl rfl 11
 have h0 := (Xq (T := TT) (t := 33) rfl rfl hw).1
 have h0 : x.length = 11 := h0
 match x, h0 with
 | [x0, x1, x2, x3, x4, x5, x6, x7, x8, x9, x10], _ =>
  obtain ⟨hl, hh⟩ := Yea (Zm (T := TT) (t := 33) rfl rfl hw 0 rfl rfl)
  obtain ⟨st, hs⟩ := wStg (Zm (T := TT) (t := 33) rfl rfl hw 1 rfl rfl)
  have hh : [x0, x1, x2, x3, x4, x5, x6, x7, x8] = hl.cells := hh
  have hs : [x9, x10] = st.cells := hs
  cases hh; cases hs
  exact ⟨hl, st, rfl⟩
theorem Zz7 {a : AV} (h : WTA TT 37 a) : ∃ b : Ask, a = b.av := by
 obtain ⟨x, m, rfl, hw⟩ := Zoh (T := TT) (t := 37) h rfl rfl 11
 have h0 := (Xq (T := TT) (t := 37) rfl rfl hw).1
 have h0 : x.length = 7 := h0
 match x, h0 with
 | [x0, x1, x2, x3, x4, x5, x6], _ =>
  obtain ⟨n1, e1, l1, _⟩ := Zhv (T := TT) (t := 35) rfl rfl rfl (Zm (T := TT) (t := 37) rfl rfl hw 0 rfl rfl)
  obtain ⟨n2, e2, l2, _⟩ := Zhv (T := TT) (t := 35) rfl rfl rfl (Zm (T := TT) (t := 37) rfl rfl hw 1 rfl rfl)
  obtain ⟨n, hn⟩ := wInt (Zm (T := TT) (t := 37) rfl rfl hw 2 rfl rfl)
  have l1 : n1.length = 3 := l1
  have l2 : n2.length = 3 := l2
  have hn : [x6] = [I n] := hn
  match n1, l1, n2, l2 with
  | [a, b, c], _, [d, e, f], _ =>
   have e1 : [x0, x1, x2] = [I a, I b, I c] := e1
   have e2 : [x3, x4, x5] = [I d, I e, I f] := e2
   cases e1; cases e2; cases hn
   exact ⟨⟨a, b, c, d, e, f, n⟩, rfl⟩
theorem Ybe {a : AV} (h : WTA TT 29 a) : ∃ l : List Int, a = .isl 1 (nl l) := by
 obtain ⟨m, zs, hm, ha⟩ := h 13
 have ha : zs = [a] := ha
 obtain ⟨l, hl⟩ := Zs7 hm
 have hl : zs = [.isl 1 (nl l)] := hl
 rw [ha] at hl
 cases hl
 exact ⟨l, rfl⟩
def tysA : List TypeId := [33, 37, 35, 28, 31, 22, 23, 24, 25, 26, 29, 194, 196, 198, 134, 216, 70, 9, 3]
theorem Ycd : tysA.all (Zhb (tget tbl) tysA) = true := by kernel_rfl
def chkP (h : Hal) (s : Stg) (a : Ask) (p : Pth) : Int := match Zcw h s (qF a) (qT a) p.ss with
 | none => 20
 | some q => if q.sq = p.sq /\ eqP q.ps p.ps = true then 0 else 20
def cpE (h : Hal) (s : Stg) (a : Ask) (p : Pth) : Int := if pthE p = 0 then (if suE h p.ss = 0 then (if (p.ss.length : Int) <= a.n then chkP h s a p else 2) else suE h p.ss) else pthE p
noncomputable abbrev r97 : List AV -> Option PRes := famA (fun q : List Pt4 × List Pt4 => q.1.length < 1000000 /\ q.2.length < 1000000) (fun q => [.isl 4 (q.1.map hp4), .isl 4 (q.2.map hp4)]) (fun q => ⟨Bo (eqP q.1 q.2), []⟩)
theorem Ycn {pt : PC} (hp : PCOK Tryz.prog pt) : PCOK Tryz.prog (ins 97 r97 pt) := Ye (fun q hq => d97 hq.1 hq.2) hp
theorem Yap {a b : List Pt4} (h1 : a.length < 1000000) (h2 : b.length < 1000000) : r97 [.isl 4 (a.map hp4), .isl 4 (b.map hp4)] = some ⟨Bo (eqP a b), []⟩ :=
 Zr (p := fun q : List Pt4 × List Pt4 => q.1.length < 1000000 /\ q.2.length < 1000000) (g := fun q => [.isl 4 (q.1.map hp4), .isl 4 (q.2.map hp4)]) (r := fun q => ⟨Bo (eqP q.1 q.2), []⟩) (k := (a, b)) (fun j hj => by
  simp only [List.cons.injEq, AV.isl.injEq, true_and, and_true] at hj
  rw [Zur hj.1, Zur hj.2]) ⟨h1, h2⟩
set_option maxRecDepth 100000 in
set_option maxHeartbeats 16000000 in
theorem d34 {h : Hal} (hk : h.ok) {s : Stg} (hs : s.few) (a : Ask) {p : Pth} (hl : p.ss.length < 1000) (hl2 : p.ps.length < 1000) : PCall Tryz.prog 34 [h.av, s.av, a.av, p.av] ⟨I (if askE h s a = 0 then cpE h s a p else askE h s a), []⟩ := by
 have ha := d24 hk hs a
 have hp := fun e e2 => d65a (a := a) (ns := p.ss) hk hs e e2
 have hpe := d162 p
 obtain ⟨fx, fy, fz, tx, ty, tz, n⟩ := a
 by_cases e : askE h s ⟨fx, fy, fz, tx, ty, tz, n⟩ = 0
 rotate_left
 ·rw [if_neg e]
  have hk0 := Zt ha Ze
  have o1 := Yj [h.av, s.av, Ask.av ⟨fx, fy, fz, tx, ty, tz, n⟩] ⟨I (askE h s ⟨fx, fy, fz, tx, ty, tz, n⟩), []⟩
  generalize askE h s ⟨fx, fy, fz, tx, ty, tz, n⟩ = E at *
  refine bs.pv (sx := nos) hk0 Tryz.func34 (by kernel_rfl) (by kernel_rfl) rfl ?_
  repeat' (first | refine wk3 ?_ | (refine wk2 ?_ ?_ <;> intro _) | refine wk4 ?_ | fail); all_goals (conv => whnf)
  all_goals first
   | exact Za rfl
   | (exfalso; clear hk0 o1; simp_all; done)
 have e0 := (Xb e).e0
 have hw := d165 hk (Zfd e0) p.ss hl
 rw [if_pos e]
 rw [e] at ha
 have hp := hp e
 have ll := Zl p.ss
 have ef : ∀ A B C : Int, fstL [A, B, C] = if A = 0 then (if B = 0 then C else B) else A := fun A B C => by
  simp only [fstL]
  by_cases c1 : A = 0 <;> by_cases c2 : B = 0 <;> by_cases c3 : C = 0 <;> simp [c1, c2, c3]
 have efw := ef (pthE p) (suE h p.ss) (unl (decide ((p.ss.length : Int) <= n)) 2)
 have o1 := Yj [h.av, s.av, Ask.av ⟨fx, fy, fz, tx, ty, tz, n⟩] ⟨I 0, []⟩
 have o2 := Yj [h.av, .isl 1 (nl p.ss)] ⟨I (suE h p.ss), []⟩
 have o4 := Yj [p.av] ⟨I (pthE p), []⟩
 have ll2 : (((nl p.ss).length : Nat) : Int) = (p.ss.length : Int) := by rw [ll]
 have o5 : rFst [.isl 1 [[I (pthE p)], [I (suE h p.ss)], [I (unl (decide (((nl p.ss).length : Int) <= n)) 2)]]] = some ⟨I (fstL [pthE p, suE h p.ss, unl (decide ((p.ss.length : Int) <= n)) 2]), []⟩ := by
  rw [ll2]; exact Zqb (l := [pthE p, suE h p.ss, unl (decide ((p.ss.length : Int) <= n)) 2]) (by simp)
 rw [efw] at o5
 clear efw ef
 unfold cpE
 by_cases c1 : pthE p = 0
 rotate_left
 ·rw [if_neg c1] at o5 ⊢
  have hk0 := Zt ha (Zt hw (Zt hpe (Zmh (Zid Ze))))
  obtain ⟨ss, ps, sq⟩ := p
  generalize pthE ⟨ss, ps, sq⟩ = E at *
  generalize suE h ss = F at *
  refine bs.pv (sx := nos) hk0 Tryz.func34 (by kernel_rfl) (by kernel_rfl) rfl ?_
  repeat' (first | refine wk3 ?_ | (refine wk2 ?_ ?_ <;> intro _) | refine wk4 ?_ | fail); all_goals (conv => whnf)
  all_goals first
   | exact Za rfl
   | (exfalso; clear hk0 o1 o2 o4 o5; simp_all; done)
 rw [if_pos c1] at o5 ⊢
 rw [c1] at hpe o4
 by_cases c2 : suE h p.ss = 0
 rotate_left
 ·rw [if_neg c2] at o5 ⊢
  have hk0 := Zt ha (Zt hw (Zt hpe (Zmh (Zid Ze))))
  obtain ⟨ss, ps, sq⟩ := p
  dsimp only at *
  rw [c1] at o5
  generalize suE h ss = F at *
  clear hp c1
  refine bs.pv (sx := nos) hk0 Tryz.func34 (by kernel_rfl) (by kernel_rfl) rfl ?_
  repeat' (first | refine wk3 ?_ | (refine wk2 ?_ ?_ <;> intro _) | refine wk4 ?_ | fail); all_goals (conv => whnf)
  all_goals first
   | exact Za rfl
   | (exfalso; clear hk0 o1 o2 o4 o5; simp_all; done)
 rw [if_pos c2] at o5 ⊢
 have hp := hp c2
 rw [c1, c2] at o5
 rw [c2] at hw o2
 by_cases c3 : (p.ss.length : Int) <= n
 rotate_left
 ·have c4 : unl (decide ((p.ss.length : Int) <= n)) 2 = 2 := by rw [decide_eq_false c3]; rfl
  rw [c4] at o5
  rw [if_neg c3]
  have hk0 := Zt ha (Zt hw (Zt hpe (Zmh (Zid Ze))))
  obtain ⟨ss, ps, sq⟩ := p
  dsimp only at *
  clear hp c1
  refine bs.pv (sx := nos) hk0 Tryz.func34 (by kernel_rfl) (by kernel_rfl) rfl ?_
  repeat' (first | refine wk3 ?_ | (refine wk2 ?_ ?_ <;> intro _) | refine wk4 ?_ | fail); all_goals (conv => whnf)
  all_goals first
   | exact Za rfl
   | (exfalso; clear hk0 o1 o2 o4 o5; simp_all; done)
 have c4 : unl (decide ((p.ss.length : Int) <= n)) 2 = 0 := by rw [decide_eq_true c3]; rfl
 rw [c4] at o5
 rw [if_pos c3]
 unfold chkP
 have hk0 := Zt ha (Zt hw (Zt hpe (Zmh (Zid (Zt hp (Ycn Ze))))))
 cases hv : Zcw h s (qF ⟨fx, fy, fz, tx, ty, tz, n⟩) (qT ⟨fx, fy, fz, tx, ty, tz, n⟩) p.ss with
 | none =>
  rw [hv] at hk0
  have o3 := Yj [.agg (stgL h s), Ask.av ⟨fx, fy, fz, tx, ty, tz, n⟩, .isl 1 (nl p.ss)] ⟨rawP none, []⟩
  obtain ⟨ss, ps, sq⟩ := p
  dsimp only at *
  clear hp c1
  refine bs.pv (sx := nos) hk0 Tryz.func34 (by kernel_rfl) (by kernel_rfl) rfl ?_
  repeat' (first | refine wk3 ?_ | (refine wk2 ?_ ?_ <;> intro _) | refine wk4 ?_ | fail); all_goals (conv => whnf)
  all_goals exact Za rfl
 | some q =>
  rw [hv] at hk0
  have o3 := Yj [.agg (stgL h s), Ask.av ⟨fx, fy, fz, tx, ty, tz, n⟩, .isl 1 (nl p.ss)] ⟨rawP (some q), []⟩
  have s2 := Zk9 hv
  obtain ⟨ss, ps, sq⟩ := p
  obtain ⟨ss2, ps2, sq2⟩ := q
  dsimp only at *
  have o6 := Yap (a := ps2) (b := ps) (by omega) (by omega)
  clear hp c1 hv
  generalize eqP ps2 ps = b at *
  by_cases c5 : sq2 = sq
  ·cases b with
   | true =>
    rw [if_pos ⟨c5, rfl⟩]
    refine bs.pv (sx := nos) hk0 Tryz.func34 (by kernel_rfl) (by kernel_rfl) rfl ?_
    repeat' (first | refine wk3 ?_ | (refine wk2 ?_ ?_ <;> intro _) | refine wk4 ?_ | fail); all_goals (conv => whnf)
    all_goals first
     | exact Za rfl
     | (exfalso; clear hk0 o1 o2 o4 o5; simp_all; done)
   | false =>
    rw [if_neg (by simp)]
    refine bs.pv (sx := nos) hk0 Tryz.func34 (by kernel_rfl) (by kernel_rfl) rfl ?_
    repeat' (first | refine wk3 ?_ | (refine wk2 ?_ ?_ <;> intro _) | refine wk4 ?_ | fail); all_goals (conv => whnf)
    all_goals first
     | exact Za rfl
     | (exfalso; clear hk0 o1 o2 o4 o5; simp_all; done)
  ·rw [if_neg (fun k => c5 k.1)]
   refine bs.pv (sx := nos) hk0 Tryz.func34 (by kernel_rfl) (by kernel_rfl) rfl ?_
   repeat' (first | refine wk3 ?_ | (refine wk2 ?_ ?_ <;> intro _) | refine wk4 ?_ | fail); all_goals (conv => whnf)
   all_goals first
    | exact Za rfl
    | (refine Za ?_; simp_all [unl]; done)
    | (exfalso; clear hk0 o1 o2 o4 o5; simp_all; done)
set_option maxRecDepth 100000 in
set_option maxHeartbeats 16000000 in
theorem d36 {h : Hal} (hk : h.ok) {s : Stg} (hs : s.few) (a : Ask) (e : askE h s a = 0) {p : Pth} (hl : p.ss.length < 1000) (hl2 : p.ps.length < 1000) : PCall Tryz.prog 36 [h.av, s.av, a.av, p.av] ⟨I (cpE h s a p), []⟩ := by
 have hp := fun e2 => d21a (a := a) (ns := p.ss) hk hs e e2
 have hpe := d92 p
 have hw := d93 hk.f p.ss hl
 obtain ⟨fx, fy, fz, tx, ty, tz, n⟩ := a
 have ll := Zl p.ss
 have o2 := Yj [h.av, .isl 1 (nl p.ss)] ⟨I (suE h p.ss), []⟩
 have o4 := Yj [p.av] ⟨I (pthE p), []⟩
 unfold cpE
 by_cases c1 : pthE p = 0
 rotate_left
 ·rw [if_neg c1]
  have hk0 := Zt hw (Zt hpe Ze)
  obtain ⟨ss, ps, sq⟩ := p
  generalize pthE ⟨ss, ps, sq⟩ = E at *
  generalize suE h ss = F at *
  refine bs.pv (sx := nos) hk0 Tryz.func36 (by kernel_rfl) (by kernel_rfl) rfl ?_
  repeat' (first | refine wk3 ?_ | (refine wk2 ?_ ?_ <;> intro _) | refine wk4 ?_ | fail); all_goals (conv => whnf)
  all_goals first
   | exact Za rfl
   | (exfalso; clear hk0 o2 o4; simp_all; done)
 rw [if_pos c1]
 rw [c1] at hpe o4
 by_cases c2 : suE h p.ss = 0
 rotate_left
 ·rw [if_neg c2]
  have hk0 := Zt hw (Zt hpe Ze)
  obtain ⟨ss, ps, sq⟩ := p
  dsimp only at *
  generalize suE h ss = F at *
  clear hp c1
  refine bs.pv (sx := nos) hk0 Tryz.func36 (by kernel_rfl) (by kernel_rfl) rfl ?_
  repeat' (first | refine wk3 ?_ | (refine wk2 ?_ ?_ <;> intro _) | refine wk4 ?_ | fail); all_goals (conv => whnf)
  all_goals first
   | exact Za rfl
   | (exfalso; clear hk0 o2 o4; simp_all; done)
 rw [if_pos c2]
 have hp := hp c2
 rw [c2] at hw o2
 by_cases c3 : (p.ss.length : Int) <= n
 rotate_left
 ·rw [if_neg c3]
  have hk0 := Zt hw (Zt hpe Ze)
  obtain ⟨ss, ps, sq⟩ := p
  dsimp only at *
  clear hp c1
  refine bs.pv (sx := nos) hk0 Tryz.func36 (by kernel_rfl) (by kernel_rfl) rfl ?_
  repeat' (first | refine wk3 ?_ | (refine wk2 ?_ ?_ <;> intro _) | refine wk4 ?_ | fail); all_goals (conv => whnf)
  all_goals first
   | exact Za rfl
   | (exfalso; clear hk0 o2 o4; simp_all; done)
 rw [if_pos c3]
 unfold chkP
 have hk0 := Zt hw (Zt hpe (Zt hp (Zy8 Ze)))
 have c6 : ¬ ((nl p.ss).length : Int) > n := by rw [ll]; omega
 cases hv : Zcw h s (qF ⟨fx, fy, fz, tx, ty, tz, n⟩) (qT ⟨fx, fy, fz, tx, ty, tz, n⟩) p.ss with
 | none =>
  rw [hv] at hk0
  have o3 := Yj [h.av, s.av, Ask.av ⟨fx, fy, fz, tx, ty, tz, n⟩, .isl 1 (nl p.ss)] ⟨ansP none, []⟩
  obtain ⟨ss, ps, sq⟩ := p
  dsimp only at *
  clear hp c1
  refine bs.pv (sx := nos) hk0 Tryz.func36 (by kernel_rfl) (by kernel_rfl) rfl ?_
  repeat' (first | refine wk3 ?_ | (refine wk2 ?_ ?_ <;> intro _) | refine wk4 ?_ | fail); all_goals (conv => whnf)
  all_goals exact Za rfl
 | some q =>
  rw [hv] at hk0
  have o3 := Yj [h.av, s.av, Ask.av ⟨fx, fy, fz, tx, ty, tz, n⟩, .isl 1 (nl p.ss)] ⟨ansP (some q), []⟩
  have s1 := Zqf hv
  have s2 := Zk9 hv
  have o6 := Zp6 (a := p) (b := q) (by omega) (by omega) (by rw [s1]; omega) (by omega)
  have hsm : same p q = decide (q.sq = p.sq /\ eqP q.ps p.ps = true) := by
   rw [Bool.eq_iff_iff, same_iff, decide_eq_true_eq, Zln]
   constructor
   ·rintro rfl; exact ⟨rfl, rfl⟩
   ·rintro ⟨h1, h2⟩
    obtain ⟨ss, ps, sq⟩ := p
    obtain ⟨ss2, ps2, sq2⟩ := q
    dsimp only at h1 h2 s1
    rw [h1, h2, s1]
  rw [hsm] at o6
  obtain ⟨ss, ps, sq⟩ := p
  obtain ⟨ss2, ps2, sq2⟩ := q
  dsimp only at *
  clear hp c1 hv hsm
  by_cases c5 : sq2 = sq /\ eqP ps2 ps = true
  ·rw [decide_eq_true c5] at o6
   rw [if_pos c5]
   refine bs.pv (sx := nos) hk0 Tryz.func36 (by kernel_rfl) (by kernel_rfl) rfl ?_
   repeat' (first | refine wk3 ?_ | (refine wk2 ?_ ?_ <;> intro _) | refine wk4 ?_ | fail); all_goals (conv => whnf)
   all_goals exact Za rfl
  ·rw [decide_eq_false c5] at o6
   rw [if_neg c5]
   refine bs.pv (sx := nos) hk0 Tryz.func36 (by kernel_rfl) (by kernel_rfl) rfl ?_
   repeat' (first | refine wk3 ?_ | (refine wk2 ?_ ?_ <;> intro _) | refine wk4 ?_ | fail); all_goals (conv => whnf)
   all_goals exact Za rfl
set_option maxRecDepth 100000 in
set_option maxHeartbeats 16000000 in
theorem d6 (aw : PCall Tryz.prog 12 [] ⟨Bo true, []⟩) (h : Hal) (s : Stg) (a : Ask) (p : Pth) : PCall Tryz.prog 6 [.agg (stgL h s), a.av, p.av] ⟨Bo true, []⟩ := by
 have ll := Zl p.ss
 have lp := Zkj p.ps
 by_cases hb : few3 h s = true
 rotate_left
 ·have hb : few3 h s = false := by simpa using hb
  have hk0 := Zd (d17 h s) (Zd aw Ze)
  rw [hb] at hk0
  obtain ⟨ss, ps, sq⟩ := p
  refine bs.pv (sx := nos) hk0 Tryz.func6 (by kernel_rfl) (by kernel_rfl) rfl ?_
  repeat' (first | refine wk3 ?_ | (refine wk2 ?_ ?_ <;> intro _) | refine wk4 ?_ | fail); all_goals (conv => whnf)
  all_goals exact Zb rfl
 by_cases h6 : 6 < p.ss.length
 ·have hk0 := Zd (d17 h s) (Zd aw Ze)
  rw [hb] at hk0
  obtain ⟨ss, ps, sq⟩ := p
  dsimp only at *
  refine bs.pv (sx := nos) hk0 Tryz.func6 (by kernel_rfl) (by kernel_rfl) rfl ?_
  repeat' (first | refine wk3 ?_ | (refine wk2 ?_ ?_ <;> intro _) | refine wk4 ?_ | fail); all_goals (conv => whnf)
  all_goals first
   | exact Zb rfl
   | (exfalso; clear hk0; simp_all; done)
   | (exfalso; clear hk0; simp_all; omega)
 by_cases h7 : 6 < p.ps.length
 ·have hk0 := Zd (d17 h s) (Zd aw Ze)
  rw [hb] at hk0
  obtain ⟨ss, ps, sq⟩ := p
  dsimp only at *
  refine bs.pv (sx := nos) hk0 Tryz.func6 (by kernel_rfl) (by kernel_rfl) rfl ?_
  repeat' (first | refine wk3 ?_ | (refine wk2 ?_ ?_ <;> intro _) | refine wk4 ?_ | fail); all_goals (conv => whnf)
  all_goals first
   | exact Zb rfl
   | (exfalso; clear hk0; simp_all; done)
   | (exfalso; clear hk0; simp_all; omega)
 obtain ⟨hk, hs⟩ := Zu8 hb
 have h34 := d34 hk hs a (p := p) (by omega) (by omega)
 have h18 := d18 hk hs a
 have h36 := fun e => d36 hk hs a e (p := p) (by omega) (by omega)
 have h0 := Zd (d17 h s) (Zd aw (Zd (c22f hk.f) (Zd (c29 hs) (Zd (d21 (p := p) (by omega) (by omega)) Ze))))
 rw [hb] at h0
 by_cases e : askE h s a = 0
 rotate_left
 ·rw [if_neg e] at h34
  have h1 := Zd h34 (Zd h18 h0)
  obtain ⟨fx, fy, fz, tx, ty, tz, n⟩ := a
  obtain ⟨ss, ps, sq⟩ := p
  dsimp only at *
  generalize askE h s ⟨fx, fy, fz, tx, ty, tz, n⟩ = E at *
  clear h18 h34 h36 h0
  refine bs.pv (sx := nos) h1 Tryz.func6 (by kernel_rfl) (by kernel_rfl) rfl ?_
  clear h1 hb aw
  repeat' (first | refine wk3 ?_ | (refine wk2 ?_ ?_ <;> intro _) | refine wk4 ?_ | fail); all_goals (conv => whnf)
  all_goals first
   | exact Zb rfl
   | (refine Zb ?_; simp; done)
   | (exfalso; simp_all; done)
 have h36 := h36 e
 rw [if_pos e] at h34
 rw [e] at h18
 have h1 := Zd h34 (Zd h18 (Zd h36 h0))
 generalize cpE h s a p = E at *
 obtain ⟨fx, fy, fz, tx, ty, tz, n⟩ := a
 obtain ⟨ss, ps, sq⟩ := p
 dsimp only at *
 clear h18 h34 h36 h0
 refine bs.pv (sx := nos) h1 Tryz.func6 (by kernel_rfl) (by kernel_rfl) rfl ?_
 clear h1 hb aw
 repeat' (first | refine wk3 ?_ | (refine wk2 ?_ ?_ <;> intro _) | refine wk4 ?_ | fail); all_goals (conv => whnf)
 all_goals first
  | exact Zb rfl
  | (refine Zb ?_; simp; done)
  | (exfalso; simp_all; done)
def tysC : List TypeId := [33, 37, 42, 40, 59, 35, 28, 31, 22, 23, 24, 25, 26, 29, 194, 196, 198, 134, 216, 70, 9, 3]
theorem Ycc : tysC.all (Zhb (tget tbl) tysC) = true := by kernel_rfl
end Go.Proofs.YtdaliaafmcjikaaGreat
