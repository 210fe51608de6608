/- A part of the proof: lemmas. -/
import Derived.Test.YtdaliaafmcjikaaGreatY12
import Derived.Test.YtdaliaafmcjikaaGreatY11
import Derived.Test.YtdaliaafmcjikaaGreatY9
import Derived.Laws.Bits64b
import Derived.Lib.Mul64
set_option linter.unusedVariables false
set_option linter.unusedSimpArgs false
namespace Go.Proofs.YtdaliaafmcjikaaGreat
open Go Go.Sx
theorem Ycu {pt : PC} (h : PCOK Tryz.prog pt) : PCOK Tryz.prog (ins 137 r32 pt) := Zi (fun a res h => by unfold r32 at h; split at h <;> cases h; exact c32 _ _ _ _ _) h
noncomputable abbrev plT (h : Hal) (s : Stg) : List AV -> Option PRes := famA (fun i : Int => 0 <= i /\ i < nsur h) (fun i => [h.av, s.av, I i]) (fun i => ⟨.tup [P2 (Zg h s i).1 (Zg h s i).2, I 0], []⟩)
theorem Ycw {h : Hal} (hk : h.ok) {s : Stg} (hs : s.few) (h0 : serr h s = 0) {pt : PC} (hp : PCOK Tryz.prog pt) : PCOK Tryz.prog (ins 136 (plT h s) pt) :=
 Ye (fun i hi => by
  have e : surE h s i = 0 := by
   unfold surE
   rw [if_pos h0, if_pos (within_iff.2 (by omega))]
  have e2 : Zg3 h s i = Zg h s i := by unfold Zg3; rw [if_pos e]
  have := c54 hk hs i
  rw [e, e2] at this
  exact this) hp
theorem Yat {h : Hal} {s : Stg} {i : Int} (hi : 0 <= i /\ i < nsur h) : plT h s [h.av, s.av, I i] = some ⟨.tup [P2 (Zg h s i).1 (Zg h s i).2, I 0], []⟩ :=
 Zr (p := fun i : Int => 0 <= i /\ i < nsur h) (g := fun i => [h.av, s.av, I i]) (r := fun i => ⟨.tup [P2 (Zg h s i).1 (Zg h s i).2, I 0], []⟩) (fun j hj => by
  simp only [List.cons.injEq, AV.int.injEq, true_and, and_true] at hj
  rw [hj]) hi
set_option maxRecDepth 100000 in
set_option maxHeartbeats 8000000 in
theorem d82 {h : Hal} (hk : h.ok) {s : Stg} (hs : s.few) (h0 : serr h s = 0) {p : Pl3} (hp : Near 5000 p) {l : List Int} (hl : l.length <= 4) (hi : ∀ n ∈ l, 0 <= n /\ n < nsur h) :
  PCall Tryz.prog 82 [.agg (stgL h s), P3 p.1 p.2.1 p.2.2, .isl 1 (nl l)] ⟨.asl 0 0 (l.length + 1), [(3, imC (im1 h s) p l l.length)]⟩ := by
 have g := Zh6 hk hs h0
 have hkk := Ycw hk hs h0 (Ycu Ze)
 have ll := Zl l
 refine bs.pv (sx := nos) hkk Tryz.func82 (by kernel_rfl) (by kernel_rfl) rfl ?_
 refine Zx (S := Nat × Int × Nat × List (List AV)) (fun t => l.length - t.1) (fun t => [(3, .ptr 0 0 0), (7, .asl (nm2 2 3 t.1) 0 t.2.2.1), (16, .isl 1 (nl l)), (17, I (nl l).length), (18, I t.2.1)]) (fun t => [(nm2 2 3 t.1, .row 3 t.2.2.2 true true), (0, .row 11 [stgL h s] true false)]) 3 4
  (fun t => t.2.1 = t.1 /\ t.1 <= l.length /\ t.2.2.1 = t.2.2.2.length /\ t.2.2.2 = imC (im1 h s) p l t.1) (0, 0, 1, [pl3 p]) ⟨rfl, Nat.zero_le _, rfl, rfl⟩ (Nat.le_refl _) [] rfl (kps) (kps) ?_
 rintro ⟨k, i, len, els⟩ ⟨hi', hk', hlen, hels⟩
 dsimp only at hi' hk' hlen hels ⊢
 subst hi'
 refine bs.av (sx := nos) hkk ?_
 have e1 : els.length = k + 1 := by rw [hels, Zdh]
 have e2 : els[0 + (IntKind.i64.wrap ((len : Int) - 1)).toNat]? = some (pl3 (imA (im1 h s) p l k)) := by
  rw [Nat.zero_add, hlen, e1, W_eq (by omega) (by omega), show (((k + 1 : Nat) : Int) - 1).toNat = k by omega, hels, Zhj]
 have e8 : IntKind.i64.wrap ((len : Int) - 1) = k := by rw [hlen, e1, W_eq (by omega) (by omega)]; omega
 have hnr := Zhk g hp hl (fun n hn => Zr0 (hi n hn).1 (hi n hn).2) k hk'
 by_cases hlt : k < l.length
 ·have e3 : (nl l)[((k : Nat) : Int).toNat]? = some [I l[k]] := by simp [nl, hlt]
  have hin := hi l[k] (List.getElem_mem _)
  have e4 := Yat (s := s) hin
  have e5 := Zqw g (Zr0 hin.1 hin.2) (by omega) hnr
  have e6 := Zlf (im1 h s) p hlt
  have e7 := Zqv (im1 h s) p l k
  rw [<-hels, e6] at e7
  rw [<-e5.2.2] at e7
  clear e6 hels
  generalize imA (im1 h s) p l k = q at *
  generalize l[k] = n at *
  cases k with
  | zero =>
   repeat' (first | refine wk3 ?_ | (refine wk2 ?_ ?_ <;> intro _) | refine wk4 ?_ | fail); all_goals (conv => whnf)
   exact Done.mk ⟨(1, _, _, _), [(3, 20)], rfl, kps, kps, ⟨Zk (k := 0) (by omega), hlt, by exact List.length_append.symm, e7.symm⟩, by dsimp only; omega⟩
  | succ k =>
   repeat' (first | refine wk3 ?_ | (refine wk2 ?_ ?_ <;> intro _) | refine wk4 ?_ | fail); all_goals (conv => whnf)
   exact Done.mk ⟨(k + 1 + 1, _, _, _), [(3, 20)], rfl, kps, kps, ⟨Zk (k := k + 1) (by omega), hlt, by exact List.length_append.symm, e7.symm⟩, by dsimp only; omega⟩
 ·have ek : k = l.length := by omega
  subst ek
  rw [hels]
  rw [hels, Zdh] at hlen
  subst hlen
  cases l with
  | nil =>
   repeat' (first | refine wk3 ?_ | (refine wk2 ?_ ?_ <;> intro _) | refine wk4 ?_ | fail); all_goals (conv => whnf)
   exact Xe [2] rfl rfl rfl
  | cons a l =>
   repeat' (first | refine wk3 ?_ | (refine wk2 ?_ ?_ <;> intro _) | refine wk4 ?_ | fail); all_goals (conv => whnf)
   exact Xe [3] rfl rfl rfl
theorem Ycp {pt : PC} (h : PCOK Tryz.prog pt) : PCOK Tryz.prog (ins 85 r96 pt) := Zi (fun a res h => by unfold r96 at h; split at h <;> cases h; exact c96 _ _ _ _ _) h
noncomputable abbrev plR (h : Hal) (s : Stg) : List AV -> Option PRes := famA (fun i : Int => SK h i) (fun i => [h.av, s.av, I i]) (fun i => ⟨P2 (Zg h s i).1 (Zg h s i).2, []⟩)
theorem Zza {h : Hal} {s : Stg} (g : Sit h s) {pt : PC} (hp : PCOK Tryz.prog pt) : PCOK Tryz.prog (ins 23 (plR h s) pt) := Ye (fun i hi => c59 g hi) hp
theorem Ztv {h : Hal} {s : Stg} {i : Int} (hi : SK h i) : plR h s [h.av, s.av, I i] = some ⟨P2 (Zg h s i).1 (Zg h s i).2, []⟩ :=
 Zr (p := fun i : Int => SK h i) (g := fun i => [h.av, s.av, I i]) (r := fun i => ⟨P2 (Zg h s i).1 (Zg h s i).2, []⟩) (fun j hj => by
  simp only [List.cons.injEq, AV.int.injEq, true_and, and_true] at hj
  rw [hj]) hi
set_option maxRecDepth 100000 in
set_option maxHeartbeats 8000000 in
theorem d28 {h : Hal} {s : Stg} (g : Sit h s) {p : Pl3} {l : List Int} (hl : l.length <= 4) (hi : ∀ n ∈ l, SK h n) :
  PCall Tryz.prog 28 [h.av, s.av, P3 p.1 p.2.1 p.2.2, .isl 1 (nl l)] ⟨.asl 0 0 (l.length + 1), [(3, imC (im1 h s) p l l.length)]⟩ := by
 have hkk := Zza g (Ycp Ze)
 have ll := Zl l
 refine bs.pv (sx := nos) hkk Tryz.func28 (by kernel_rfl) (by kernel_rfl) rfl ?_
 refine Zx (S := Nat × Int × Nat × List (List AV)) (fun t => l.length - t.1) (fun t => [(3, .isl 1 (nl l)), (4, .ptr 0 0 0), (5, .ptr 1 0 0), (9, .asl (nm2 3 4 t.1) 0 t.2.2.1), (10, I t.2.1)]) (fun t => [(nm2 3 4 t.1, .row 3 t.2.2.2 true true), (1, .row 2 [[.isl 1 (nl s.hs), .isl 1 (nl s.dr)]] true false), (0, .row 9 [h.cells] true false)]) 4 5
  (fun t => t.2.1 = t.1 /\ t.1 <= l.length /\ t.2.2.1 = t.2.2.2.length /\ t.2.2.2 = imC (im1 h s) p l t.1) (0, 0, 1, [pl3 p]) ⟨rfl, Nat.zero_le _, rfl, rfl⟩ (Nat.le_refl _) [] rfl (kps) (kps) ?_
 rintro ⟨k, i, len, els⟩ ⟨hi', hk', hlen, hels⟩
 dsimp only at hi' hk' hlen hels ⊢
 subst hi'
 refine bs.av (sx := nos) hkk ?_
 have e1 : els.length = k + 1 := by rw [hels, Zdh]
 have e2 : els[0 + ((k : Nat) : Int).toNat]? = some (pl3 (imA (im1 h s) p l k)) := by
  rw [Nat.zero_add, show ((k : Nat) : Int).toNat = k by omega, hels, Zhj]
 by_cases hlt : k < l.length
 ·have e3 : (nl l)[((k : Nat) : Int).toNat]? = some [I l[k]] := by simp [nl, hlt]
  have e4 := Ztv (s := s) (hi l[k] (List.getElem_mem _))
  have e6 := Zlf (im1 h s) p hlt
  have e7 := Zqv (im1 h s) p l k
  rw [<-hels, e6] at e7
  clear e6 hels
  generalize imA (im1 h s) p l k = q at *
  generalize l[k] = n at *
  cases k with
  | zero =>
   repeat' (first | refine wk3 ?_ | (refine wk2 ?_ ?_ <;> intro _) | refine wk4 ?_ | fail); all_goals (conv => whnf)
   refine Zlu (ys := [pl3 (rmir (Zg h s n).1 (Zg h s n).2 q.1 q.2.1 q.2.2)]) rfl rfl rfl rfl rfl rfl rfl rfl rfl rfl (by simp) hlen (by simp only [List.length_cons, List.length_nil]; omega) ?_
   conv => whnf
   repeat' (first | refine wk3 ?_ | (refine wk2 ?_ ?_ <;> intro _) | refine wk4 ?_ | fail); all_goals (conv => whnf)
   exact Done.mk ⟨(1, _, _, _), [(4, 19)], rfl, kps, kps, ⟨Zk (k := 0) (by omega), hlt, by exact List.length_append.symm, e7.symm⟩, by dsimp only; omega⟩
  | succ k =>
   repeat' (first | refine wk3 ?_ | (refine wk2 ?_ ?_ <;> intro _) | refine wk4 ?_ | fail); all_goals (conv => whnf)
   refine Zlu (ys := [pl3 (rmir (Zg h s n).1 (Zg h s n).2 q.1 q.2.1 q.2.2)]) rfl rfl rfl rfl rfl rfl rfl rfl rfl rfl (by simp) hlen (by simp only [List.length_cons, List.length_nil]; omega) ?_
   conv => whnf
   repeat' (first | refine wk3 ?_ | (refine wk2 ?_ ?_ <;> intro _) | refine wk4 ?_ | fail); all_goals (conv => whnf)
   exact Done.mk ⟨(k + 1 + 1, _, _, _), [(4, 19)], rfl, kps, kps, ⟨Zk (k := k + 1) (by omega), hlt, by exact List.length_append.symm, e7.symm⟩, by dsimp only; omega⟩
 ·have ek : k = l.length := by omega
  subst ek
  rw [hels]
  rw [hels, Zdh] at hlen
  subst hlen
  cases l with
  | nil =>
   repeat' (first | refine wk3 ?_ | (refine wk2 ?_ ?_ <;> intro _) | refine wk4 ?_ | fail); all_goals (conv => whnf)
   exact Xe [3] rfl rfl rfl
  | cons a l =>
   repeat' (first | refine wk3 ?_ | (refine wk2 ?_ ?_ <;> intro _) | refine wk4 ?_ | fail); all_goals (conv => whnf)
   exact Xe [4] rfl rfl rfl
structure Ask where
 fx : Int
 fy : Int
 fz : Int
 tx : Int
 ty : Int
 tz : Int
 n : Int
abbrev Ask.av (a : Ask) : AV := .agg [I a.fx, I a.fy, I a.fz, I a.tx, I a.ty, I a.tz, I a.n]
def Ask.same (a : Ask) : Bool := decide (a.fx = a.tx) && (decide (a.fy = a.ty) && decide (a.fz = a.tz))
def askE (h : Hal) (s : Stg) (a : Ask) : Int := if serr h s = 0 then fstL [plaE h a.fx a.fy a.fz, plaE h a.tx a.ty a.tz, unl (!a.same) 11, unl (within a.n 0 4) 2] else serr h s
theorem Zfd {h : Hal} {s : Stg} (e : serr h s = 0) : h.err = 0 := by
 unfold serr at e
 split at e
 ·assumption
 ·rename_i q; exact absurd e q
def r80 : List AV -> Option PRes
 | [.bool b, .int .i64 e] => some ⟨I (unl b e), []⟩
 | _ => none
theorem Zmh {pt : PC} (h : PCOK Tryz.prog pt) : PCOK Tryz.prog (ins 80 r80 pt) := Zi (fun a res h => by unfold r80 at h; split at h <;> cases h; exact d209 _ _) h
noncomputable abbrev r79 (h : Hal) : List AV -> Option PRes := famA (fun _ : Pl3 => True) (fun p => [h.av, P3 p.1 p.2.1 p.2.2]) (fun p => ⟨I (plaE h p.1 p.2.1 p.2.2), []⟩)
theorem Ycr {h : Hal} (hk : h.ok) (he : h.err = 0) {pt : PC} (hp : PCOK Tryz.prog pt) : PCOK Tryz.prog (ins 79 (r79 h) pt) := Ye (fun p _ => d79 hk he p.1 p.2.1 p.2.2) hp
theorem Zk4 (h : Hal) (x y z : Int) : r79 h [h.av, P3 x y z] = some ⟨I (plaE h x y z), []⟩ :=
 Zr (p := fun _ : Pl3 => True) (g := fun p => [h.av, P3 p.1 p.2.1 p.2.2]) (r := fun p => ⟨I (plaE h p.1 p.2.1 p.2.2), []⟩) (k := (x, y, z)) (fun j hj => by
  simp only [List.cons.injEq, AV.agg.injEq, AV.int.injEq, true_and, and_true] at hj
  obtain ⟨h1, h2, h3⟩ := hj
  rw [h1, h2, h3]) trivial
theorem Ycv {h : Hal} (hk : h.ok) (he : h.err = 0) {pt : PC} (hp : PCOK Tryz.prog pt) : PCOK Tryz.prog (ins 27 (r79 h) pt) := Ye (fun p _ => d27 hk he p.1 p.2.1 p.2.2) hp
noncomputable abbrev rFst : List AV -> Option PRes := famA (fun l : List Int => l.length < 1000) (fun l => [.isl 1 (nl l)]) (fun l => ⟨I (fstL l), []⟩)
theorem Zid {pt : PC} (hp : PCOK Tryz.prog pt) : PCOK Tryz.prog (ins 78 rFst pt) := Ye (fun l hl => d78 hl) hp
theorem Zqb {l : List Int} (h : l.length < 1000) : rFst [.isl 1 (nl l)] = some ⟨I (fstL l), []⟩ :=
 Zr (p := fun l : List Int => l.length < 1000) (g := fun l => [.isl 1 (nl l)]) (r := fun l => ⟨I (fstL l), []⟩) (fun j hj => by
  simp only [List.cons.injEq, AV.isl.injEq, true_and, and_true] at hj
  rw [Zqg hj]) h
set_option maxRecDepth 100000 in
set_option maxHeartbeats 8000000 in
theorem d24 {h : Hal} (hk : h.ok) {s : Stg} (hs : s.few) (a : Ask) : PCall Tryz.prog 24 [h.av, s.av, a.av] ⟨I (askE h s a), []⟩ := by
 have hk0 := Zd (c47 hk hs) Ze
 by_cases e : serr h s = 0
 ·have he := Zfd e
  obtain ⟨fx, fy, fz, tx, ty, tz, n⟩ := a
  unfold askE
  rw [if_pos e]
  rw [e] at hk0
  dsimp only
  have hk1 := Ycr hk he (Zmh (Zd (d81 n) (Zid hk0)))
  have q1 := Zk4 h fx fy fz
  have q2 := Zk4 h tx ty tz
  refine bs.pv (sx := nos) hk1 Tryz.func24 (by kernel_rfl) (by kernel_rfl) rfl ?_
  repeat' (first | refine wk3 ?_ | (refine wk2 ?_ ?_ <;> intro _) | refine wk4 ?_ | fail); all_goals (conv => whnf)
  refine wxG (Zqb (l := [_, _, _, _]) (by simp)) ?_
  conv => whnf
  repeat' (first | refine wk3 ?_ | (refine wk2 ?_ ?_ <;> intro _) | refine wk4 ?_ | fail); all_goals (conv => whnf)
  exact Za (by simp [Ask.same])
 ·rw [show askE h s a = serr h s by unfold askE; rw [if_neg e]]
  refine bs.pv (sx := nos) hk0 Tryz.func24 (by kernel_rfl) (by kernel_rfl) rfl ?_
  repeat' (first | refine wk3 ?_ | (refine wk2 ?_ ?_ <;> intro _) | refine wk4 ?_ | fail); all_goals (conv => whnf)
  all_goals first
   | exact Za rfl
   | (exfalso; simp_all; done)
theorem d82f {h : Hal} (hk : h.ok) {s : Stg} (hs : s.few) (h0 : serr h s = 0) {p : Pl3} (hp : Near 5000 p) {l : List Int} (hl : l.length <= 4) (hi : ∀ n ∈ l, 0 <= n /\ n < nsur h) :
  PCall Tryz.prog 82 [.agg (stgL h s), P3 p.1 p.2.1 p.2.2, .isl 1 (nl l)] ⟨.isl 3 (imC (im1 h s) p l l.length), []⟩ := by
 have := d82 hk hs h0 hp hl hi
 rw [show l.length + 1 = (imC (im1 h s) p l l.length).length by rw [Zdh]] at this
 exact this.freeze ⟨rfl, rfl, rfl⟩
theorem d28f {h : Hal} {s : Stg} (g : Sit h s) {p : Pl3} {l : List Int} (hl : l.length <= 4) (hi : ∀ n ∈ l, SK h n) :
  PCall Tryz.prog 28 [h.av, s.av, P3 p.1 p.2.1 p.2.2, .isl 1 (nl l)] ⟨.isl 3 (imC (im1 h s) p l l.length), []⟩ := by
 have := d28 g (p := p) hl hi
 rw [show l.length + 1 = (imC (im1 h s) p l l.length).length by rw [Zdh]] at this
 exact this.freeze ⟨rfl, rfl, rfl⟩
theorem Zb2 {h : Hal} {l : List Int} (e : suE h l = 0) : l.length <= 4 /\ ∀ n ∈ l, 0 <= n /\ n < nsur h := by
 unfold suE at e
 split at e
 ·cases e
 ·exact ⟨by omega, fun n hn => by have := Zys e n hn; omega⟩
theorem Zfh {h : Hal} {x y z : Int} (e : plaE h x y z = 0) : Near 5000 (x, y, z) /\ Zag h ⟨x, y, z, 1⟩ = true := by
 unfold plaE at e
 split at e
 ·rename_i c
  simp only [plcB, Bool.and_eq_true, within_iff] at c
  refine ⟨⟨by dsimp only; omega, by dsimp only; omega, by dsimp only; omega⟩, ?_⟩
  unfold unl at e
  cases hb : Zag h ⟨x, y, z, 1⟩ with
  | true => rfl
  | false => rw [hb] at e; cases e
 ·cases e
def atW (c : Int × Int) (l m : Int) : Int := l * c.1 + m * c.2
def Ziv (cs : List (Int × Int)) : Prop := ∃ l m : Int, 0 < l /\ 0 < m /\ ∀ c ∈ cs, 0 <= atW c l m
theorem Ydx {l0 m0 : Int} (h1 : 0 < l0) (h2 : 0 < m0) {l m : Int} (hl : 0 < l) (hm : 0 < m) : ∀ cs : List (Int × Int), (∀ c ∈ cs, 0 <= atW c l m) -> ∃ a b : Int, 0 < a /\ 0 < b /\ (∀ c ∈ cs, 0 <= atW c a b) /\ ((a = l0 /\ b = m0) \/ ∃ c ∈ cs, atW c a b = 0)
 | [], _ => ⟨l0, m0, h1, h2, by simp, .inl ⟨rfl, rfl⟩⟩
 | c :: cs, h => by
  obtain ⟨a, b, ha, hb, k1, k2⟩ := Ydx h1 h2 hl hm cs fun c' hc => h c' (by simp [hc])
  have hT := h c (by simp)
  by_cases hc : 0 <= atW c a b
  ·refine ⟨a, b, ha, hb, fun c' hc' => ?_, ?_⟩
   ·rcases List.mem_cons.1 hc' with rfl | hc'
    ·exact hc
    ·exact k1 c' hc'
   ·rcases k2 with k2 | ⟨c', g1, g2⟩
    ·exact .inl k2
    ·exact .inr ⟨c', by simp [g1], g2⟩
  ·have hN : 0 < -atW c a b := by omega
   have comb : ∀ c' : Int × Int, atW c' (-atW c a b * l + atW c l m * a) (-atW c a b * m + atW c l m * b) = -atW c a b * atW c' l m + atW c l m * atW c' a b := by
    intro c'
    generalize atW c a b = N
    generalize atW c l m = T
    unfold atW; grind
   refine ⟨-atW c a b * l + atW c l m * a, -atW c a b * m + atW c l m * b, ?_, ?_, fun c' hc' => ?_, .inr ⟨c, by simp, ?_⟩⟩
   ·have := Int.mul_pos hN hl
    have := Int.mul_nonneg hT (Int.le_of_lt ha)
    omega
   ·have := Int.mul_pos hN hm
    have := Int.mul_nonneg hT (Int.le_of_lt hb)
    omega
   ·rw [comb]
    rcases List.mem_cons.1 hc' with rfl | hc'
    ·have : -atW c' a b * atW c' l m + atW c' l m * atW c' a b = 0 := by grind
     omega
    ·have := Int.mul_nonneg (Int.le_of_lt hN) (h c' (by simp [hc']))
     have := Int.mul_nonneg hT (k1 c' hc')
     omega
   ·rw [comb]; grind
def Yo : List (Int × Int) -> Int -> Int -> Int -> Int -> Bool
 | [], n, d, m, k => decide (cmpQ n d m k <= 0) && decide (cmpQ n d 1 1 < 0) && decide (0 < cmpQ m k 0 1)
 | (a, v) :: l, n, d, m, k =>
  if v = 0 /\ a < 0 then false
  else if 0 < v /\ 0 < cmpQ (-a) v n d then Yo l (-a) v m k
  else if v < 0 /\ cmpQ a (-v) m k < 0 then Yo l n d a (-v)
  else Yo l n d m k
theorem Zf0 : ∀ (cs : List (Int × Int)) (n d m k : Int), 0 < d -> 0 < k -> 0 <= n -> m <= k -> (Yo cs n d m k = true ↔ ∃ T D : Int, 0 < T /\ T < D /\ n * D <= T * d /\ T * k <= m * D /\ ∀ c ∈ cs, 0 <= c.1 * D + T * c.2)
 | [], n, d, m, k, hd, hk, hn, hm => by
  unfold Yo cmpQ
  rw [Bool.and_eq_true, Bool.and_eq_true, decide_eq_true_eq, decide_eq_true_eq, decide_eq_true_eq, Zp3, Xi, Xh]
  constructor
  ·rintro ⟨⟨h1, h2⟩, h3⟩
   have hm0 : 0 < m := by omega
   have p1 := Int.mul_pos hm0 hd
   have p2 := Int.mul_nonneg hn (Int.le_of_lt hk)
   have p3 := Int.mul_lt_mul_of_pos_right (show n < d by omega) hk
   have p4 := Int.mul_le_mul_of_nonneg_right hm (Int.le_of_lt hd)
   have e1 : k * d = d * k := Int.mul_comm _ _
   refine ⟨n * k + m * d, 2 * (d * k), by omega, by omega, ?_, ?_, by simp⟩
   ·have : (n * k + m * d) * d - n * (2 * (d * k)) = d * (m * d - n * k) := by grind
    have := Int.mul_nonneg (Int.le_of_lt hd) (show 0 <= m * d - n * k by omega)
    omega
   ·have : m * (2 * (d * k)) - (n * k + m * d) * k = k * (m * d - n * k) := by grind
    have := Int.mul_nonneg (Int.le_of_lt hk) (show 0 <= m * d - n * k by omega)
    omega
  ·rintro ⟨T, D, h1, h2, h3, h4, _⟩
   have hD : 0 < D := by omega
   refine ⟨⟨?_, ?_⟩, ?_⟩
   ·have q1 := Int.mul_le_mul_of_nonneg_right h3 (Int.le_of_lt hk)
    have q2 := Int.mul_le_mul_of_nonneg_right h4 (Int.le_of_lt hd)
    have e : D * (n * k - m * d) = n * D * k - m * D * d := by grind
    have e2 : T * d * k = T * k * d := by grind
    have := (np_l hD).1 (show D * (n * k - m * d) <= 0 by omega)
    omega
   ·have q := Int.mul_lt_mul_of_pos_right h2 hd
    have e : D * (n - d) = n * D - D * d := by grind
    have := (Zca hD).1 (show D * (n - d) < 0 by omega)
    omega
   ·have q := Int.mul_pos h1 hk
    have e : D * m = m * D := Int.mul_comm _ _
    have := (Za5 hD).1 (show 0 < D * m by omega)
    omega
 | (a, v) :: l, n, d, m, k, hd, hk, hn, hm => by
  rw [Yo]
  by_cases c1 : v = 0 /\ a < 0
  ·rw [if_pos c1]
   constructor
   ·intro h; simp at h
   ·rintro ⟨T, D, h1, h2, _, _, h5⟩
    have := h5 (a, v) (by simp)
    dsimp only at this
    rw [c1.1, Int.mul_zero] at this
    have := Int.mul_neg_of_neg_of_pos c1.2 (show 0 < D by omega)
    omega
  rw [if_neg c1]
  unfold cmpQ
  simp only [Xh, Xi]
  by_cases c2 : 0 < v /\ 0 < -a * d - n * v
  ·rw [if_pos c2]
   have q1 := Int.mul_nonneg hn (Int.le_of_lt c2.1)
   have hna : 0 < -a := by
    have : 0 < d * -a := by rw [Int.mul_comm]; omega
    exact (Za5 hd).1 this
   rw [Zf0 l (-a) v m k c2.1 hk (by omega) hm]
   constructor
   ·rintro ⟨T, D, h1, h2, h3, h4, h5⟩
    refine ⟨T, D, h1, h2, ?_, h4, fun c hc => ?_⟩
    ·have r1 := Int.mul_le_mul_of_nonneg_right h3 (Int.le_of_lt hd)
     have r2 := Int.mul_le_mul_of_nonneg_right (show n * v <= -a * d by omega) (show 0 <= D by omega)
     have e1 : -a * d * D = -a * D * d := by grind
     have e2 : v * (n * D - T * d) = n * v * D - T * v * d := by grind
     have := (np_l c2.1).1 (show v * (n * D - T * d) <= 0 by omega)
     omega
    ·rcases List.mem_cons.1 hc with rfl | hc
     ·dsimp only
      have : -a * D = -(a * D) := Int.neg_mul _ _
      omega
     ·exact h5 c hc
   ·rintro ⟨T, D, h1, h2, h3, h4, h5⟩
    refine ⟨T, D, h1, h2, ?_, h4, fun c hc => h5 c (by simp [hc])⟩
    have := h5 (a, v) (by simp)
    dsimp only at this
    have : -a * D = -(a * D) := Int.neg_mul _ _
    omega
  rw [if_neg c2]
  by_cases c3 : v < 0 /\ a * k - m * -v < 0
  ·rw [if_pos c3]
   have hv : 0 < -v := by omega
   have q1 := Int.mul_le_mul_of_nonneg_right hm (Int.le_of_lt hv)
   have hav : a <= -v := by
    have : k * (a - -v) < 0 := by
     have e : k * (a - -v) = a * k - k * -v := by grind
     omega
    have := (Zca hk).1 this
    omega
   rw [Zf0 l n d a (-v) hd hv hn hav]
   constructor
   ·rintro ⟨T, D, h1, h2, h3, h4, h5⟩
    refine ⟨T, D, h1, h2, h3, ?_, fun c hc => ?_⟩
    ·have r1 := Int.mul_le_mul_of_nonneg_right h4 (Int.le_of_lt hk)
     have r2 := Int.mul_le_mul_of_nonneg_right (show a * k <= m * -v by omega) (show 0 <= D by omega)
     have e1 : a * D * k = a * k * D := by grind
     have e2 : -v * (T * k - m * D) = T * -v * k - m * -v * D := by grind
     have := (np_l hv).1 (show -v * (T * k - m * D) <= 0 by omega)
     omega
    ·rcases List.mem_cons.1 hc with rfl | hc
     ·dsimp only
      have : T * -v = -(T * v) := Int.mul_neg _ _
      omega
     ·exact h5 c hc
   ·rintro ⟨T, D, h1, h2, h3, h4, h5⟩
    refine ⟨T, D, h1, h2, h3, ?_, fun c hc => h5 c (by simp [hc])⟩
    have := h5 (a, v) (by simp)
    dsimp only at this
    have : T * -v = -(T * v) := Int.mul_neg _ _
    omega
  rw [if_neg c3, Zf0 l n d m k hd hk hn hm]
  constructor
  ·rintro ⟨T, D, h1, h2, h3, h4, h5⟩
   refine ⟨T, D, h1, h2, h3, h4, fun c hc => ?_⟩
   rcases List.mem_cons.1 hc with rfl | hc
   ·dsimp only
    have hD : 0 < D := by omega
    rcases Int.lt_trichotomy v 0 with hv | hv | hv
    ·have hx : m * -v <= a * k := by omega
     have r1 := Int.mul_le_mul_of_nonneg_right h4 (show 0 <= -v by omega)
     have r2 := Int.mul_le_mul_of_nonneg_right hx (Int.le_of_lt hD)
     have e1 : m * D * -v = m * -v * D := by grind
     have e2 : k * (a * D + T * v) = a * k * D - T * k * -v := by grind
     exact (nn_l hk).1 (show 0 <= k * (a * D + T * v) by omega)
    ·subst hv
     rw [Int.mul_zero, Int.add_zero]
     exact Int.mul_nonneg (by omega) (Int.le_of_lt hD)
    ·have hx : -a * d <= n * v := by omega
     have r1 := Int.mul_le_mul_of_nonneg_right h3 (show 0 <= v by omega)
     have r2 := Int.mul_le_mul_of_nonneg_right hx (Int.le_of_lt hD)
     have e1 : n * D * v = n * v * D := by grind
     have e2 : d * (a * D + T * v) = T * d * v - -a * d * D := by grind
     exact (nn_l hd).1 (show 0 <= d * (a * D + T * v) by omega)
   ·exact h5 c hc
  ·rintro ⟨T, D, h1, h2, h3, h4, h5⟩
   exact ⟨T, D, h1, h2, h3, h4, fun c hc => h5 c (by simp [hc])⟩
theorem Zr1 {pd qd : Int} (h1 : 0 < pd) (h2 : 0 < qd) (cs : List (Int × Int)) : (∃ T D : Int, 0 < T /\ T < D /\ ∀ c ∈ cs, 0 <= c.1 * qd * D + T * (c.2 * pd - c.1 * qd)) ↔ Ziv cs := by
 constructor
 ·rintro ⟨T, D, a, b, h⟩
  refine ⟨qd * (D - T), pd * T, Int.mul_pos h2 (by omega), Int.mul_pos h1 a, fun c hc => ?_⟩
  have := h c hc
  have e : atW c (qd * (D - T)) (pd * T) = c.1 * qd * D + T * (c.2 * pd - c.1 * qd) := by unfold atW; grind
  omega
 ·rintro ⟨l, m, a, b, h⟩
  have k1 := Int.mul_pos a h1
  have k2 := Int.mul_pos b h2
  refine ⟨m * qd, l * pd + m * qd, k2, by omega, fun c hc => ?_⟩
  have := Int.mul_nonneg (Int.le_of_lt (Int.mul_pos h1 h2)) (h c hc)
  have e : c.1 * qd * (l * pd + m * qd) + m * qd * (c.2 * pd - c.1 * qd) = pd * qd * atW c l m := by unfold atW; grind
  omega
def rcN (r : Rc) (p q : P2d) : List (Int × Int) := [(p.x - r.xl * p.d, q.x - r.xl * q.d), (r.xh * p.d - p.x, r.xh * q.d - q.x), (p.y - r.yl * p.d, q.y - r.yl * q.d), (r.yh * p.d - p.y, r.yh * q.d - q.y)]
def Zsn (r : Rc) (p q : P2d) : Bool := Yo ((rcN r p q).map fun c => (c.1 * q.d, c.2 * p.d - c.1 * q.d)) 0 1 1 1
theorem Zu7 {r : Rc} {p q : P2d} (h1 : 0 < p.d) (h2 : 0 < q.d) : Zsn r p q = true ↔ Ziv (rcN r p q) := by
 unfold Zsn
 rw [Zf0 _ 0 1 1 1 (by decide) (by decide) (by decide) (by decide), <-Zr1 h1 h2]
 constructor
 ·rintro ⟨T, D, a, b, _, _, h⟩
  exact ⟨T, D, a, b, fun c hc => h _ (List.mem_map.2 ⟨c, hc, rfl⟩)⟩
 ·rintro ⟨T, D, a, b, h⟩
  refine ⟨T, D, a, b, by omega, by omega, fun c hc => ?_⟩
  obtain ⟨c', hc', rfl⟩ := List.mem_map.1 hc
  exact h c' hc'
def edgP (r : Rc) : List Wl := [⟨0, r.xl, r.yl, r.xh, r.yl⟩, ⟨0, r.xh, r.yl, r.xh, r.yh⟩, ⟨0, r.xh, r.yh, r.xl, r.yh⟩, ⟨0, r.xl, r.yh, r.xl, r.yl⟩]
def midX (p q : Pt) : Int := IntKind.i64.wrap (IntKind.i64.wrap (p.x * q.d) + IntKind.i64.wrap (q.x * p.d))
def midY (p q : Pt) : Int := IntKind.i64.wrap (IntKind.i64.wrap (p.y * q.d) + IntKind.i64.wrap (q.y * p.d))
def midD (p q : Pt) : Int := IntKind.i64.wrap (IntKind.i64.wrap (2 * p.d) * q.d)
def Zst (r : Rc) (p q : Pt) : Bool := r.has (midX p q) (midY p q) (midD p q) || (edgP r).any (touP p q) || (r.holds p.x p.y p.d || r.holds q.x q.y q.d)
theorem Zzd {p q : Pt} (hp : PtR p) (hq : PtR q) : midX p q = p.x * q.d + q.x * p.d /\ midY p q = p.y * q.d + q.y * p.d /\ midD p q = 2 * p.d * q.d := by
 obtain ⟨a1, a2, a3, a4⟩ := hp
 obtain ⟨b1, b2, b3, b4⟩ := hq
 have m1 := Zn (a := q.x) (b := p.d) (A := 500000000) (B := 100000) (by omega) (by omega)
 have m2 := Zn (a := p.x) (b := q.d) (A := 500000000) (B := 100000) (by omega) (by omega)
 have m3 := Zn (a := q.y) (b := p.d) (A := 500000000) (B := 100000) (by omega) (by omega)
 have m4 := Zn (a := p.y) (b := q.d) (A := 500000000) (B := 100000) (by omega) (by omega)
 have m5 := Zn (a := 2 * p.d) (b := q.d) (A := 200000) (B := 100000) (by omega) (by omega)
 unfold midX midY midD
 rw [W_eq (n := q.x * p.d) (by omega) (by omega), W_eq (n := p.x * q.d) (by omega) (by omega), W_eq (n := q.y * p.d) (by omega) (by omega), W_eq (n := p.y * q.d) (by omega) (by omega), W_eq (n := 2 * p.d) (by omega) (by omega)]
 exact ⟨W_eq (by omega) (by omega), W_eq (by omega) (by omega), W_eq (by omega) (by omega)⟩
theorem Ybx {r : Rc} (hr : RcOk r) : Str ⟨0, r.xl, r.yl, r.xh, r.yl⟩ (r.xh - r.xl) 1 0 /\ Str ⟨0, r.xh, r.yl, r.xh, r.yh⟩ (r.yh - r.yl) 0 1 /\ Str ⟨0, r.xh, r.yh, r.xl, r.yh⟩ (r.xh - r.xl) (-1) 0 /\ Str ⟨0, r.xl, r.yh, r.xl, r.yl⟩ (r.yh - r.yl) 0 (-1) := by
 obtain ⟨h1, h2, h3, h4, h5, h6⟩ := hr
 refine ⟨⟨?_, ?_, ?_, ?_, ?_, ?_, ?_, ?_, ?_, ?_⟩, ⟨?_, ?_, ?_, ?_, ?_, ?_, ?_, ?_, ?_, ?_⟩, ⟨?_, ?_, ?_, ?_, ?_, ?_, ?_, ?_, ?_, ?_⟩, ⟨?_, ?_, ?_, ?_, ?_, ?_, ?_, ?_, ?_, ?_⟩⟩ <;> (try dsimp only) <;> omega
theorem rcN_mem {r : Rc} {p q : P2d} {l m : Int} : (∀ c ∈ rcN r p q, 0 <= atW c l m) ↔ 0 <= l * (p.x - r.xl * p.d) + m * (q.x - r.xl * q.d) /\ 0 <= l * (r.xh * p.d - p.x) + m * (r.xh * q.d - q.x) /\ 0 <= l * (p.y - r.yl * p.d) + m * (q.y - r.yl * q.d) /\ 0 <= l * (r.yh * p.d - p.y) + m * (r.yh * q.d - q.y) := by
 simp [rcN, atW]
theorem Zvn {r : Rc} (hr : RcOk r) {p q : P2d} (h1 : 0 < p.d) (h2 : 0 < q.d) (l m : Int) (hl : 0 < l) (hm : 0 < m) :
  ((∀ c ∈ rcN r p q, 0 <= atW c l m) /\ ∃ c ∈ rcN r p q, atW c l m = 0) -> (Uu ⟨0, r.xl, r.yl, r.xh, r.yl⟩ (r.xh - r.xl) 1 0 p q \/ Uu ⟨0, r.xh, r.yl, r.xh, r.yh⟩ (r.yh - r.yl) 0 1 p q \/ Uu ⟨0, r.xh, r.yh, r.xl, r.yh⟩ (r.xh - r.xl) (-1) 0 p q \/ Uu ⟨0, r.xl, r.yh, r.xl, r.yl⟩ (r.yh - r.yl) 0 (-1) p q) := by
 rintro ⟨h, c, hc, h0⟩
 rw [rcN_mem] at h
 obtain ⟨k1, k2, k3, k4⟩ := h
 have e1 : l * (r.xh * p.d - p.x) + m * (r.xh * q.d - q.x) = (r.xh - r.xl) * (l * p.d + m * q.d) - (l * (p.x - r.xl * p.d) + m * (q.x - r.xl * q.d)) := by grind
 have e2 : l * (r.yh * p.d - p.y) + m * (r.yh * q.d - q.y) = (r.yh - r.yl) * (l * p.d + m * q.d) - (l * (p.y - r.yl * p.d) + m * (q.y - r.yl * q.d)) := by grind
 unfold Uu bsP alP ful bes alo
 dsimp only
 simp only [rcN, List.mem_cons, List.not_mem_nil, or_false] at hc
 rcases hc with rfl | rfl | rfl | rfl <;> unfold atW at h0 <;> dsimp only at h0
 ·refine .inr (.inr (.inr ⟨l, m, hl, hm, ?_, ?_, ?_⟩))
  ·grind
  ·grind
  ·grind
 ·refine .inr (.inl ⟨l, m, hl, hm, ?_, ?_, ?_⟩)
  ·grind
  ·grind
  ·grind
 ·refine .inl ⟨l, m, hl, hm, ?_, ?_, ?_⟩
  ·grind
  ·grind
  ·grind
 ·refine .inr (.inr (.inl ⟨l, m, hl, hm, ?_, ?_, ?_⟩))
  ·grind
  ·grind
  ·grind
theorem Zt7 {r : Rc} (hr : RcOk r) {p q : P2d} (h1 : 0 < p.d) (h2 : 0 < q.d) (h : Uu ⟨0, r.xl, r.yl, r.xh, r.yl⟩ (r.xh - r.xl) 1 0 p q \/ Uu ⟨0, r.xh, r.yl, r.xh, r.yh⟩ (r.yh - r.yl) 0 1 p q \/ Uu ⟨0, r.xh, r.yh, r.xl, r.yh⟩ (r.xh - r.xl) (-1) 0 p q \/ Uu ⟨0, r.xl, r.yh, r.xl, r.yl⟩ (r.yh - r.yl) 0 (-1) p q) : Ziv (rcN r p q) := by
 have key : ∀ l m : Int, 0 < l -> 0 < m -> 0 <= (r.xh - r.xl) * (l * p.d + m * q.d) /\ 0 <= (r.yh - r.yl) * (l * p.d + m * q.d) := by
  intro l m hl hm
  have k1 := Int.mul_pos hl h1
  have k2 := Int.mul_pos hm h2
  have := hr.x
  have := hr.y
  exact ⟨Int.mul_nonneg (by omega) (by omega), Int.mul_nonneg (by omega) (by omega)⟩
 unfold Uu bsP alP ful bes alo at h
 dsimp only at h
 unfold Ziv
 rcases h with ⟨l, m, hl, hm, k1, k2, k3⟩ | ⟨l, m, hl, hm, k1, k2, k3⟩ | ⟨l, m, hl, hm, k1, k2, k3⟩ | ⟨l, m, hl, hm, k1, k2, k3⟩ <;> refine ⟨l, m, hl, hm, rcN_mem.2 ?_⟩ <;> obtain ⟨g1, g2⟩ := key l m hl hm <;> refine ⟨?_, ?_, ?_, ?_⟩ <;> grind
theorem Zvs {r : Rc} (hr : RcOk r) {p q : Pt} (hp : PtR p) (hq : PtR q) : Zst r p q = true ↔ Ziv (rcN r p.pl q.pl) := by
 obtain ⟨e1, e2, e3⟩ := Zzd hp hq
 obtain ⟨s1, s2, s3, s4⟩ := Ybx hr
 have dp := hp.d0
 have dq := hq.d0
 have dp1 := hp.d1
 have dq1 := hq.d1
 have hD := Int.mul_pos (show 0 < 2 * p.d by omega) dq
 have hD2 := (Zn (a := 2 * p.d) (b := q.d) (A := 200000) (B := 100000) (by omega) (by omega)).2
 unfold Zst
 rw [e1, e2, e3, Bool.or_eq_true, Bool.or_eq_true, Bool.or_eq_true, Zp8 hr ⟨hD, by omega⟩, Zdr hr ⟨dp, by omega⟩, Zdr hr ⟨dq, by omega⟩]
 have ea : (edgP r).any (touP p q) = true ↔ (Uu ⟨0, r.xl, r.yl, r.xh, r.yl⟩ (r.xh - r.xl) 1 0 p.pl q.pl \/ Uu ⟨0, r.xh, r.yl, r.xh, r.yh⟩ (r.yh - r.yl) 0 1 p.pl q.pl \/ Uu ⟨0, r.xh, r.yh, r.xl, r.yh⟩ (r.xh - r.xl) (-1) 0 p.pl q.pl \/ Uu ⟨0, r.xl, r.yh, r.xl, r.yl⟩ (r.yh - r.yl) 0 (-1) p.pl q.pl) := by
  simp only [edgP, List.any_cons, List.any_nil, Bool.or_false, Bool.or_eq_true]
  rw [Zfb s1 hp hq, Zfb s2 hp hq, Zfb s3 hp hq, Zfb s4 hp hq]
 rw [ea]
 have mm : (0 <= p.x * q.d + q.x * p.d - r.xl * (2 * p.d * q.d) /\ 0 <= r.xh * (2 * p.d * q.d) - (p.x * q.d + q.x * p.d) /\ 0 <= p.y * q.d + q.y * p.d - r.yl * (2 * p.d * q.d) /\ 0 <= r.yh * (2 * p.d * q.d) - (p.y * q.d + q.y * p.d)) ↔ ∀ c ∈ rcN r p.pl q.pl, 0 <= atW c q.d p.d := by
  rw [rcN_mem]
  unfold Pt.pl
  dsimp only
  have k1 : q.d * (p.x - r.xl * p.d) + p.d * (q.x - r.xl * q.d) = p.x * q.d + q.x * p.d - r.xl * (2 * p.d * q.d) := by grind
  have k2 : q.d * (r.xh * p.d - p.x) + p.d * (r.xh * q.d - q.x) = r.xh * (2 * p.d * q.d) - (p.x * q.d + q.x * p.d) := by grind
  have k3 : q.d * (p.y - r.yl * p.d) + p.d * (q.y - r.yl * q.d) = p.y * q.d + q.y * p.d - r.yl * (2 * p.d * q.d) := by grind
  have k4 : q.d * (r.yh * p.d - p.y) + p.d * (r.yh * q.d - q.y) = r.yh * (2 * p.d * q.d) - (p.y * q.d + q.y * p.d) := by grind
  rw [k1, k2, k3, k4]
 rw [mm]
 have big : ∀ a b : Int, 0 < a -> 0 <= (b.natAbs + 1 : Int) * a + b := fun a b ha => by
  have := Int.mul_le_mul_of_nonneg_left (show 1 <= a by omega) (show (0 : Int) <= (b.natAbs : Int) + 1 by omega)
  omega
 have holdsIn : ∀ p q : P2d, (0 < p.x - r.xl * p.d /\ 0 < r.xh * p.d - p.x /\ 0 < p.y - r.yl * p.d /\ 0 < r.yh * p.d - p.y) -> ∃ N : Int, 0 < N /\ 0 <= N * (p.x - r.xl * p.d) + 1 * (q.x - r.xl * q.d) /\ 0 <= N * (r.xh * p.d - p.x) + 1 * (r.xh * q.d - q.x) /\ 0 <= N * (p.y - r.yl * p.d) + 1 * (q.y - r.yl * q.d) /\ 0 <= N * (r.yh * p.d - p.y) + 1 * (r.yh * q.d - q.y) := by
  rintro p q ⟨h1, h2, h3, h4⟩
  have mono : ∀ a b N : Int, 0 < a -> (b.natAbs : Int) <= N -> 0 <= N * a + 1 * b := fun a b N ha hN => by
   have := Int.mul_le_mul_of_nonneg_left (show 1 <= a by omega) (show 0 <= N by omega)
   omega
  refine ⟨((q.x - r.xl * q.d).natAbs : Int) + (r.xh * q.d - q.x).natAbs + (q.y - r.yl * q.d).natAbs + (r.yh * q.d - q.y).natAbs + 1, by omega, mono _ _ _ h1 (by omega), mono _ _ _ h2 (by omega), mono _ _ _ h3 (by omega), mono _ _ _ h4 (by omega)⟩
 constructor
 ·rintro ((h | h) | h | h)
  ·exact ⟨q.d, p.d, dq, dp, h⟩
  ·exact Zt7 hr dp dq h
  ·obtain ⟨N, h0, h1, h2, h3, h4⟩ := holdsIn p.pl q.pl h
   exact ⟨N, 1, h0, by omega, rcN_mem.2 ⟨h1, h2, h3, h4⟩⟩
  ·obtain ⟨N, h0, h1, h2, h3, h4⟩ := holdsIn q.pl p.pl h
   exact ⟨1, N, by omega, h0, rcN_mem.2 ⟨by omega, by omega, by omega, by omega⟩⟩
 ·rintro ⟨l, m, hl, hm, h⟩
  obtain ⟨a, b, ha, hb, k1, k2⟩ := Ydx (l0 := q.d) (m0 := p.d) dq dp hl hm _ h
  rcases k2 with ⟨rfl, rfl⟩ | k2
  ·exact .inl (.inl k1)
  ·exact .inl (.inr (Zvn hr dp dq a b ha hb ⟨k1, k2⟩))
structure PtH (p : Pt) : Prop where
 r : PtR p
 z : -(5000 * p.d) <= p.z /\ p.z <= 5000 * p.d
theorem Zqd {p : Pt} (h : Yw p = 0) : PtH p := by
 obtain ⟨h1, h2, _, h4⟩ := Zbp h
 unfold ptIn at h4
 simp only [Bool.and_eq_true, within_iff] at h4
 exact ⟨⟨h1, h2, h4.1.1, h4.1.2⟩, h4.2⟩
def zOff (ht : Int) (p : Pt) : Int := IntKind.i64.wrap (p.z - IntKind.i64.wrap (ht * p.d))
theorem Zf8 {ht : Int} (hh : 0 <= ht /\ ht <= 5000) {p : Pt} (hp : PtH p) : zOff ht p = p.z - ht * p.d /\ IntKind.i64.wrap (ht * p.d) = ht * p.d /\ (-1000000000 <= p.z - ht * p.d /\ p.z - ht * p.d <= 1000000000) := by
 obtain ⟨⟨a1, a2, _, _⟩, a5⟩ := hp
 have c1 := Zh (f := ht) (d := p.d) (by omega) a1
 unfold zOff
 rw [W_eq (n := ht * p.d) (by omega) (by omega)]
 exact ⟨W_eq (by omega) (by omega), rfl, by omega⟩
def blkS (r : Rc) (ht : Int) (p q : Pt) : Prop := ∃ l m : Int, 0 < l /\ 0 < m /\ l * (p.z - ht * p.d) + m * (q.z - ht * q.d) = 0 /\ ∀ c ∈ rcN r p.pl q.pl, 0 <= atW c l m
theorem Zn8 {r : Rc} {ht : Int} {p q : Pt} (h1 : p.z - ht * p.d = 0) (h2 : q.z - ht * q.d = 0) : blkS r ht p q ↔ Ziv (rcN r p.pl q.pl) := by
 unfold blkS Ziv
 rw [h1, h2]
 exact ⟨fun ⟨l, m, a, b, _, c⟩ => ⟨l, m, a, b, c⟩, fun ⟨l, m, a, b, c⟩ => ⟨l, m, a, b, by omega, c⟩⟩
theorem Zn7 {r : Rc} {ht : Int} {p q : Pt} (h0 : ¬(p.z - ht * p.d = 0 /\ q.z - ht * q.d = 0)) (h1 : 0 <= sgn (p.z - ht * p.d) * sgn (q.z - ht * q.d)) : ¬ blkS r ht p q := by
 rintro ⟨l, m, hl, hm, e, _⟩
 have hs : ¬ (sgn (p.z - ht * p.d) * sgn (q.z - ht * q.d) < 0) := by omega
 rw [sgn_mul_neg] at hs
 generalize p.z - ht * p.d = a at *
 generalize q.z - ht * q.d = b at *
 by_cases ha : 0 < a
 ·have := (Za5 hl).2 ha
  have := (nn_l hm).2 (show 0 <= b by omega)
  omega
 by_cases hb : a < 0
 ·have := (Zca hl).2 hb
  have := (np_l hm).2 (show b <= 0 by omega)
  omega
 have : a = 0 := by omega
 subst this
 have : m * b ≠ 0 := Int.mul_ne_zero (by omega) (by omega)
 omega
theorem Zn6 {r : Rc} {ht : Int} {p q : Pt} : blkS r ht p q ↔ blkS r ht q p := by
 have key : ∀ p q, blkS r ht p q -> blkS r ht q p := by
  rintro p q ⟨l, m, h1, h2, h3, h4⟩
  refine ⟨m, l, h2, h1, by omega, ?_⟩
  rw [rcN_mem] at h4 ⊢
  omega
 exact ⟨key _ _, key _ _⟩
theorem Zd4 {r : Rc} {ht : Int} {p q : Pt} {f g : Int} (hf : p.z - ht * p.d = f) (hg : q.z - ht * q.d = g) (h1 : f < 0 /\ 0 < g) : blkS r ht p q ↔ ∀ c ∈ rcN r p.pl q.pl, 0 <= atW c g (-f) := by
 unfold blkS
 rw [hf, hg]
 constructor
 ·rintro ⟨l, m, hl, hm, e, h⟩ c hc
  have k1 : g * atW c l m = l * atW c g (-f) := by unfold atW; grind
  have q1 := (nn_l h1.2).2 (h c hc)
  rw [k1, nn_l hl] at q1
  exact q1
 ·intro h
  exact ⟨g, -f, h1.2, by omega, by grind, h⟩
theorem Zfw {r : Rc} (hr : RcOk r) {p q : Pt} (hp : PtR p) (hq : PtR q) {f g : Int} (h1 : f < 0 /\ 0 < g) (h2 : -1000000000 <= f /\ g <= 1000000000) : r.has (p.x * g - q.x * f) (p.y * g - q.y * f) (p.d * g - q.d * f) = true ↔ ∀ c ∈ rcN r p.pl q.pl, 0 <= atW c g (-f) := by
 obtain ⟨a1, a2, a3, a4⟩ := hp
 obtain ⟨b1, b2, b3, b4⟩ := hq
 have k1 := Int.mul_pos a1 h1.2
 have k2 := Int.mul_pos b1 (show 0 < -f by omega)
 rw [Int.mul_neg] at k2
 have m1 := Zn (a := p.d) (b := g) (A := 100000) (B := 1000000000) (by omega) (by omega)
 have m2 := Zn (a := q.d) (b := f) (A := 100000) (B := 1000000000) (by omega) (by omega)
 rw [Zp8 hr ⟨by omega, by omega⟩, rcN_mem]
 unfold Pt.pl
 dsimp only
 have e1 : g * (p.x - r.xl * p.d) + -f * (q.x - r.xl * q.d) = p.x * g - q.x * f - r.xl * (p.d * g - q.d * f) := by grind
 have e2 : g * (r.xh * p.d - p.x) + -f * (r.xh * q.d - q.x) = r.xh * (p.d * g - q.d * f) - (p.x * g - q.x * f) := by grind
 have e3 : g * (p.y - r.yl * p.d) + -f * (q.y - r.yl * q.d) = p.y * g - q.y * f - r.yl * (p.d * g - q.d * f) := by grind
 have e4 : g * (r.yh * p.d - p.y) + -f * (r.yh * q.d - q.y) = r.yh * (p.d * g - q.d * f) - (p.y * g - q.y * f) := by grind
 rw [e1, e2, e3, e4]
def atX (a b : Int) (u v : Int) : Int := IntKind.i64.wrap (IntKind.i64.wrap (a * u) + IntKind.i64.wrap (b * v))
def blkP (r : Rc) (ht : Int) (p q : Pt) : Bool :=
 if p.z = IntKind.i64.wrap (ht * p.d) /\ q.z = IntKind.i64.wrap (ht * q.d) then Zst r p q
 else if 0 <= IntKind.i64.wrap (sgn (zOff ht p) * sgn (zOff ht q)) then false
 else r.has (atX p.x q.x (size (zOff ht q)) (size (zOff ht p))) (atX p.y q.y (size (zOff ht q)) (size (zOff ht p))) (atX p.d q.d (size (zOff ht q)) (size (zOff ht p)))
def onX (a b : Int) (g f : Int) : Int := IntKind.i64.wrap (IntKind.i64.wrap (a * g) - IntKind.i64.wrap (b * f))
def blkR (r : Rc) (ht : Int) (p q : Pt) : Bool :=
 if zOff ht p = 0 /\ zOff ht q = 0 then Zsn r p.pl q.pl
 else if 0 <= IntKind.i64.wrap (sgn (zOff ht p) * sgn (zOff ht q)) then false
 else if onX p.d q.d (zOff ht q) (zOff ht p) < 0 then r.has (IntKind.i64.wrap (0 - onX p.x q.x (zOff ht q) (zOff ht p))) (IntKind.i64.wrap (0 - onX p.y q.y (zOff ht q) (zOff ht p))) (IntKind.i64.wrap (0 - onX p.d q.d (zOff ht q) (zOff ht p)))
 else r.has (onX p.x q.x (zOff ht q) (zOff ht p)) (onX p.y q.y (zOff ht q) (zOff ht p)) (onX p.d q.d (zOff ht q) (zOff ht p))
theorem x_bd {a d f : Int} (hd : 0 < d /\ d <= 100000) (ha : -(5000 * d) <= a /\ a <= 5000 * d) (hf : -1000000000 <= f /\ f <= 1000000000) : -500000000000000000 <= a * f /\ a * f <= 500000000000000000 := by
 have := Zn (a := a) (b := f) (A := 500000000) (B := 1000000000) (by omega) (by omega)
 omega
theorem d_bd {d f : Int} (hd : 0 < d /\ d <= 100000) (hf : -1000000000 <= f /\ f <= 1000000000) : -100000000000000 <= d * f /\ d * f <= 100000000000000 := by
 have := Zn (a := d) (b := f) (A := 100000) (B := 1000000000) (by omega) (by omega)
 omega
theorem Yb2 {ht : Int} (hh : 0 <= ht /\ ht <= 5000) {p q : Pt} (hp : PtH p) (hq : PtH q) : (p.z = IntKind.i64.wrap (ht * p.d) /\ q.z = IntKind.i64.wrap (ht * q.d)) ↔ (p.z - ht * p.d = 0 /\ q.z - ht * q.d = 0) := by
 rw [(Zf8 hh hp).2.1, (Zf8 hh hq).2.1]; omega
theorem Zyi {r : Rc} (hr : RcOk r) {ht : Int} (hh : 0 <= ht /\ ht <= 5000) {p q : Pt} (hp : PtH p) (hq : PtH q) : blkP r ht p q = true ↔ blkS r ht p q := by
 obtain ⟨e1, _, b1⟩ := Zf8 hh hp
 obtain ⟨e2, _, b2⟩ := Zf8 hh hq
 unfold blkP
 simp only [Yb2 hh hp hq]
 rw [e1, e2]
 by_cases h0 : p.z - ht * p.d = 0 /\ q.z - ht * q.d = 0
 ·rw [if_pos h0, Zn8 h0.1 h0.2, Zvs hr hp.r hq.r]
 rw [if_neg h0, Zdn]
 by_cases h1 : 0 <= sgn (p.z - ht * p.d) * sgn (q.z - ht * q.d)
 ·rw [if_pos h1]
  exact ⟨fun h => by simp at h, fun h => absurd h (Zn7 h0 h1)⟩
 rw [if_neg h1]
 have h2 := sgn_mul_neg.1 (show sgn (p.z - ht * p.d) * sgn (q.z - ht * q.d) < 0 by omega)
 generalize hf : p.z - ht * p.d = f at *
 generalize hg : q.z - ht * q.d = g at *
 have hp1 := hp.r
 have hq1 := hq.r
 have x1 := x_bd (f := g) ⟨hp1.d0, hp1.d1⟩ hp1.x (by omega)
 have x2 := x_bd (f := f) ⟨hq1.d0, hq1.d1⟩ hq1.x (by omega)
 have y1 := x_bd (f := g) ⟨hp1.d0, hp1.d1⟩ hp1.y (by omega)
 have y2 := x_bd (f := f) ⟨hq1.d0, hq1.d1⟩ hq1.y (by omega)
 have d1 := d_bd (f := g) ⟨hp1.d0, hp1.d1⟩ (by omega)
 have d2 := d_bd (f := f) ⟨hq1.d0, hq1.d1⟩ (by omega)
 rcases h2 with h2 | h2
 ·have s1 : size g = g := by rw [Zb4 (by omega), if_neg (by omega)]
  have s2 : size f = -f := by rw [Zb4 (by omega), if_pos (by omega)]
  have ax : ∀ a b : Int, (-500000000000000000 <= a * g /\ a * g <= 500000000000000000) -> (-500000000000000000 <= b * f /\ b * f <= 500000000000000000) -> atX a b (size g) (size f) = a * g - b * f := by
   intro a b k1 k2
   unfold atX
   rw [s1, s2, Int.mul_neg, W_eq (n := a * g) (by omega) (by omega), W_eq (n := -(b * f)) (by omega) (by omega), W_eq (by omega) (by omega)]
   omega
  rw [ax _ _ x1 x2, ax _ _ y1 y2, ax _ _ (by omega) (by omega), Zfw hr hp1 hq1 h2 (by omega), Zd4 hf hg h2]
 ·have s1 : size g = -g := by rw [Zb4 (by omega), if_pos (by omega)]
  have s2 : size f = f := by rw [Zb4 (by omega), if_neg (by omega)]
  have ax : ∀ a b : Int, (-500000000000000000 <= a * g /\ a * g <= 500000000000000000) -> (-500000000000000000 <= b * f /\ b * f <= 500000000000000000) -> atX a b (size g) (size f) = b * f - a * g := by
   intro a b k1 k2
   unfold atX
   rw [s1, s2, Int.mul_neg, W_eq (n := b * f) (by omega) (by omega), W_eq (n := -(a * g)) (by omega) (by omega), W_eq (by omega) (by omega)]
   omega
  rw [ax _ _ x1 x2, ax _ _ y1 y2, ax _ _ (by omega) (by omega), Zfw hr hq1 hp1 (by omega) (by omega), Zn6, Zd4 hg hf (by omega)]
theorem Zyh {r : Rc} (hr : RcOk r) {ht : Int} (hh : 0 <= ht /\ ht <= 5000) {p q : Pt} (hp : PtH p) (hq : PtH q) : blkR r ht p q = true ↔ blkS r ht p q := by
 obtain ⟨e1, _, b1⟩ := Zf8 hh hp
 obtain ⟨e2, _, b2⟩ := Zf8 hh hq
 unfold blkR
 rw [e1, e2]
 by_cases h0 : p.z - ht * p.d = 0 /\ q.z - ht * q.d = 0
 ·rw [if_pos h0, Zn8 h0.1 h0.2]
  exact Zu7 (p := p.pl) (q := q.pl) hp.r.d0 hq.r.d0
 rw [if_neg h0, Zdn]
 by_cases h1 : 0 <= sgn (p.z - ht * p.d) * sgn (q.z - ht * q.d)
 ·rw [if_pos h1]
  exact ⟨fun h => by simp at h, fun h => absurd h (Zn7 h0 h1)⟩
 rw [if_neg h1]
 have h2 := sgn_mul_neg.1 (show sgn (p.z - ht * p.d) * sgn (q.z - ht * q.d) < 0 by omega)
 generalize hf : p.z - ht * p.d = f at *
 generalize hg : q.z - ht * q.d = g at *
 have hp1 := hp.r
 have hq1 := hq.r
 have x1 := x_bd (f := g) ⟨hp1.d0, hp1.d1⟩ hp1.x (by omega)
 have x2 := x_bd (f := f) ⟨hq1.d0, hq1.d1⟩ hq1.x (by omega)
 have y1 := x_bd (f := g) ⟨hp1.d0, hp1.d1⟩ hp1.y (by omega)
 have y2 := x_bd (f := f) ⟨hq1.d0, hq1.d1⟩ hq1.y (by omega)
 have d1 := d_bd (f := g) ⟨hp1.d0, hp1.d1⟩ (by omega)
 have d2 := d_bd (f := f) ⟨hq1.d0, hq1.d1⟩ (by omega)
 have ax : ∀ a b : Int, (-500000000000000000 <= a * g /\ a * g <= 500000000000000000) -> (-500000000000000000 <= b * f /\ b * f <= 500000000000000000) -> onX a b g f = a * g - b * f /\ IntKind.i64.wrap (0 - (a * g - b * f)) = b * f - a * g := by
  intro a b k1 k2
  unfold onX
  rw [W_eq (n := a * g) (by omega) (by omega), W_eq (n := b * f) (by omega) (by omega), W_eq (n := a * g - b * f) (by omega) (by omega), W_eq (by omega) (by omega)]
  omega
 rw [(ax _ _ x1 x2).1, (ax _ _ y1 y2).1, (ax p.d q.d (by omega) (by omega)).1, (ax _ _ x1 x2).2, (ax _ _ y1 y2).2, (ax p.d q.d (by omega) (by omega)).2]
 rcases h2 with h2 | h2
 ·have k1 := Int.mul_pos hp1.d0 h2.2
  have k2 := Int.mul_neg_of_pos_of_neg hq1.d0 h2.1
  rw [if_neg (by omega), Zfw hr hp1 hq1 h2 (by omega), Zd4 hf hg h2]
 ·have k1 := Int.mul_neg_of_pos_of_neg hp1.d0 h2.2
  have k2 := Int.mul_pos hq1.d0 h2.1
  rw [if_pos (by omega), Zfw hr hq1 hp1 (by omega) (by omega), Zn6, Zd4 hg hf (by omega)]
theorem Yd2 {r : Rc} (hr : RcOk r) {ht : Int} (hh : 0 <= ht /\ ht <= 5000) {p q : Pt} (hp : PtH p) (hq : PtH q) : blkP r ht p q = blkR r ht p q := by
 rw [Bool.eq_iff_iff, Zyi hr hh hp hq, Zyh hr hh hp hq]
abbrev U (n : Int) : AV := .int .u64 n
abbrev wayA (p q : Pt) : AV := .agg [I p.x, I p.y, I p.z, I p.d, I q.x, I q.y, I q.z, I q.d]
theorem c204 (p q : Pt) : PCall Tryz.prog 287 [wayA p q] ⟨.tup [I (Zoj p q), I (Zoi p q)], []⟩ := by
 refine bs.pv (sx := nos) Ze Tryz.func287 (by kernel_rfl) (by kernel_rfl) rfl ?_
 repeat' (first | refine wk0 ?_ | (refine wk2 ?_ ?_ <;> intro _) | refine wk4 ?_ | fail); all_goals (conv => whnf)
 exact Zf rfl rfl
theorem c207 (fr den to oth a b : Int) : PCall Tryz.prog 288 [I fr, I den, I to, I oth, I a, I b] ⟨Bo (ovl fr den to oth a b), []⟩ := by
 refine bs.pv (sx := nos) Ze Tryz.func288 (by kernel_rfl) (by kernel_rfl) rfl ?_
 repeat' (first | refine wk0 ?_ | (refine wk2 ?_ ?_ <;> intro _) | refine wk4 ?_ | fail); all_goals (conv => whnf)
 all_goals (refine Zb ?_; simp_all [ovl] <;> (intro _; omega))
theorem c182 (p q : Pt) : PCall Tryz.prog 263 [wayA p q] ⟨.tup [I (midX p q), I (midY p q), I (midD p q)], []⟩ := by
 refine bs.pv (sx := nos) Ze Tryz.func263 (by kernel_rfl) (by kernel_rfl) rfl ?_
 repeat' (first | refine wk0 ?_ | (refine wk2 ?_ ?_ <;> intro _) | refine wk4 ?_ | fail); all_goals (conv => whnf)
 exact Zf rfl rfl
def u64 (n : Int) : Prop := 0 <= n /\ n < 18446744073709551616
theorem mkN (a : Nat) (ha : a < 18446744073709551616) : IntKind.u64.wrap (((BitVec.ofInt IntKind.u64.bits (a : Int) &&& BitVec.ofInt IntKind.u64.bits 4294967295).toNat : Nat) : Int) = ((a % 4294967296 : Nat) : Int) := by
 have h := bits_and_u64_nat a 4294967295 ha (by omega)
 have e : a &&& 4294967295 = a % 4294967296 := Nat.and_two_pow_sub_one_eq_mod a 32
 rw [e] at h
 exact h
theorem fdN (a : Nat) : (a : Int).fdiv (2 ^ min (Int.toNat 32) IntKind.u64.bits) = ((a / 4294967296 : Nat) : Int) := by
 rw [show (2 ^ min (Int.toNat 32) IntKind.u64.bits : Int) = 4294967296 from rfl, Int.fdiv_eq_ediv_of_nonneg _ (by omega)]; omega
theorem mulN (a b : Nat) : (a : Int) * (b : Int) = ((a * b : Nat) : Int) := (Int.natCast_mul a b).symm
theorem addN (a b : Nat) : (a : Int) + (b : Int) = ((a + b : Nat) : Int) := (Int.natCast_add a b).symm
theorem Zlx (a : Nat) (ha : a < 18446744073709551616) : IntKind.u64.wrap (a : Int) = (a : Int) := by rw [IntKind.wrap_u64]; omega
theorem Yd8 (a : Nat) : IntKind.u64.wrap (a : Int) = ((a % 18446744073709551616 : Nat) : Int) := by rw [IntKind.wrap_u64]; omega
set_option maxRecDepth 100000 in
set_option maxHeartbeats 8000000 in
theorem Zxi (x y : Nat) (hx : x < 18446744073709551616) (hy : y < 18446744073709551616) : AV.tup [AV.int IntKind.u64 (IntKind.u64.wrap (IntKind.u64.wrap (IntKind.u64.wrap (((x : Int)).fdiv (2 ^ min (Int.toNat 32) IntKind.u64.bits) * ((y : Int)).fdiv (2 ^ min (Int.toNat 32) IntKind.u64.bits)) + ((IntKind.u64.wrap (IntKind.u64.wrap (((x : Int)).fdiv (2 ^ min (Int.toNat 32) IntKind.u64.bits) * IntKind.u64.wrap ((BitVec.ofInt IntKind.u64.bits ((y : Int)) &&& BitVec.ofInt IntKind.u64.bits 4294967295).toNat : Int)) + ((IntKind.u64.wrap ((IntKind.u64.wrap ((BitVec.ofInt IntKind.u64.bits ((x : Int)) &&& BitVec.ofInt IntKind.u64.bits 4294967295).toNat : Int)) * (IntKind.u64.wrap ((BitVec.ofInt IntKind.u64.bits ((y : Int)) &&& BitVec.ofInt IntKind.u64.bits 4294967295).toNat : Int)))).fdiv (2 ^ min (Int.toNat 32) IntKind.u64.bits)))).fdiv (2 ^ min (Int.toNat 32) IntKind.u64.bits))) + ((IntKind.u64.wrap (IntKind.u64.wrap ((BitVec.ofInt IntKind.u64.bits (IntKind.u64.wrap (IntKind.u64.wrap (((x : Int)).fdiv (2 ^ min (Int.toNat 32) IntKind.u64.bits) * IntKind.u64.wrap ((BitVec.ofInt IntKind.u64.bits ((y : Int)) &&& BitVec.ofInt IntKind.u64.bits 4294967295).toNat : Int)) + ((IntKind.u64.wrap ((IntKind.u64.wrap ((BitVec.ofInt IntKind.u64.bits ((x : Int)) &&& BitVec.ofInt IntKind.u64.bits 4294967295).toNat : Int)) * (IntKind.u64.wrap ((BitVec.ofInt IntKind.u64.bits ((y : Int)) &&& BitVec.ofInt IntKind.u64.bits 4294967295).toNat : Int)))).fdiv (2 ^ min (Int.toNat 32) IntKind.u64.bits)))) &&& BitVec.ofInt IntKind.u64.bits 4294967295).toNat : Int) + IntKind.u64.wrap (IntKind.u64.wrap ((BitVec.ofInt IntKind.u64.bits ((x : Int)) &&& BitVec.ofInt IntKind.u64.bits 4294967295).toNat : Int) * ((y : Int)).fdiv (2 ^ min (Int.toNat 32) IntKind.u64.bits)))).fdiv (2 ^ min (Int.toNat 32) IntKind.u64.bits)))), AV.int IntKind.u64 (IntKind.u64.wrap ((x : Int) * (y : Int)))] = AV.tup [U ((x : Int) * (y : Int) / 18446744073709551616), U ((x : Int) * (y : Int) % 18446744073709551616)] := by
 obtain ⟨bd, bt, bw, hhi⟩ := Go.Lib.mul64_hi x y hx hy
 have ba := Go.Lib.half_mul_le (a := x / 4294967296) (b := y / 4294967296) (by omega) (by omega)
 have bb := Go.Lib.half_mul_le (a := x / 4294967296) (b := y % 4294967296) (by omega) (by omega)
 have bc := Go.Lib.half_mul_le (a := x % 4294967296) (b := y / 4294967296) (by omega) (by omega)
 have ba' : x / 4294967296 * (y / 4294967296) < 18446744073709551616 := by omega
 have bb' : x / 4294967296 * (y % 4294967296) < 18446744073709551616 := by omega
 have bc' : x % 4294967296 * (y / 4294967296) < 18446744073709551616 := by omega
 have bh1 : x / 4294967296 * (y / 4294967296) + (x / 4294967296 * (y % 4294967296) + x % 4294967296 * (y % 4294967296) / 4294967296) / 4294967296 < 18446744073709551616 := by omega
 have bh : x / 4294967296 * (y / 4294967296) + (x / 4294967296 * (y % 4294967296) + x % 4294967296 * (y % 4294967296) / 4294967296) / 4294967296 + ((x / 4294967296 * (y % 4294967296) + x % 4294967296 * (y % 4294967296) / 4294967296) % 4294967296 + x % 4294967296 * (y / 4294967296)) / 4294967296 < 18446744073709551616 := by omega
 simp only [mkN x hx, mkN y hy, fdN, mulN, addN, Zlx _ bd, Zlx _ bb', Zlx _ bt, mkN _ bt, Zlx _ bc', Zlx _ bw, Zlx _ ba', Zlx _ bh1, Zlx _ bh, Yd8 (x * y)]
 rw [hhi]
 rfl
set_option maxRecDepth 100000 in
set_option maxHeartbeats 8000000 in
theorem c216 {x y : Int} (hx : u64 x) (hy : u64 y) : PCall Tryz.prog 305 [U x, U y] ⟨.tup [U (x * y / 18446744073709551616), U (x * y % 18446744073709551616)], []⟩ := by
 refine bs.pv (sx := nos) Ze Tryz.func305 (by kernel_rfl) (by kernel_rfl) rfl ?_
 repeat' (first | refine wk1 ?_ | (refine wk2 ?_ ?_ <;> intro _) | refine wk4 ?_ | fail); all_goals (conv => whnf)
 refine Zf ?_ rfl
 obtain ⟨h0, hx⟩ := hx
 obtain ⟨h1, hy⟩ := hy
 obtain ⟨a, rfl⟩ := Int.eq_ofNat_of_zero_le h0
 obtain ⟨b, rfl⟩ := Int.eq_ofNat_of_zero_le h1
 exact Zxi a b (by omega) (by omega)
theorem Zla {a b : Int} : sgn (a * b) = sgn a * sgn b := by
 unfold sgn
 rcases Int.lt_trichotomy a 0 with ha | ha | ha <;> rcases Int.lt_trichotomy b 0 with hb | hb | hb
 ·have := Int.mul_pos_of_neg_of_neg ha hb
  rw [if_pos this, if_neg (by omega), if_pos ha, if_neg (by omega), if_pos hb]; rfl
 ·subst hb; simp
 ·have := Int.mul_neg_of_neg_of_pos ha hb
  rw [if_neg (by omega), if_pos this, if_neg (by omega), if_pos ha, if_pos hb]; rfl
 ·subst ha; simp
 ·subst ha; simp
 ·subst ha; simp
 ·have := Int.mul_neg_of_pos_of_neg ha hb
  rw [if_neg (by omega), if_pos this, if_pos ha, if_neg (by omega), if_pos hb]; rfl
 ·subst hb; simp
 ·have := Int.mul_pos ha hb
  rw [if_pos this, if_pos ha, if_pos hb]; rfl
theorem Zhi {a : Int} (h : i64 a) : IntKind.u64.wrap (size a) = (a.natAbs : Int) /\ u64 (a.natAbs : Int) := by
 have hs := Ztm h
 obtain ⟨h1, h2⟩ := h
 rw [hs]
 refine ⟨?_, ?_⟩
 ·simp only [IntKind.wrap_i64, IntKind.wrap_u64]; omega
 ·unfold u64; omega
theorem Zwk (a b : Int) : ((a.natAbs : Int) * (b.natAbs : Int)) = (a * b) \/ ((a.natAbs : Int) * (b.natAbs : Int)) = -(a * b) := by
 have := Int.natAbs_mul a b
 omega
theorem Zvy {a b c d X Y : Int} (hX : (a.natAbs : Int) * (b.natAbs : Int) = X) (hY : (c.natAbs : Int) * (d.natAbs : Int) = Y) (h : sgn a * sgn b = sgn c * sgn d) :
  (X = Y -> cmpP a b c d = 0) /\ (Y < X -> cmpP a b c d = sgn a * sgn b) /\ (X < Y -> cmpP a b c d = -(sgn a * sgn b)) := by
 have h1 := Zwk a b
 have h2 := Zwk c d
 have p1 : 0 <= X := by rw [<-hX]; exact Int.mul_nonneg (by omega) (by omega)
 have p2 : 0 <= Y := by rw [<-hY]; exact Int.mul_nonneg (by omega) (by omega)
 have s1 := Zla (a := a) (b := b)
 have s2 := Zla (a := c) (b := d)
 unfold cmpP
 rw [hX] at h1
 rw [hY] at h2
 rw [<-s1]
 rw [<-s1, <-s2] at h
 clear s1 s2 hX hY
 generalize a * b = u at *
 generalize c * d = v at *
 unfold sgn at *
 refine ⟨fun e => ?_, fun e => ?_, fun e => ?_⟩
 ·repeat' split at h
  all_goals repeat' split
  all_goals omega
 ·repeat' split at h
  all_goals repeat' split
  all_goals omega
 ·repeat' split at h
  all_goals repeat' split
  all_goals omega
theorem Zyb {a b c d : Int} (h : sgn a * sgn b ≠ sgn c * sgn d) : cmpP a b c d = sgn (sgn a * sgn b - sgn c * sgn d) := by
 rw [<-Zla, <-Zla] at h ⊢
 unfold cmpP
 generalize a * b = u at *
 generalize c * d = v at *
 unfold sgn at *
 repeat' split at h
 all_goals repeat' split
 all_goals omega
instance (n : Int) : Decidable (u64 n) := by unfold u64; exact inferInstance
def r216 : List AV -> Option PRes
 | [.int .u64 x, .int .u64 y] => asr (decide (u64 x /\ u64 y)) ⟨.tup [U (x * y / 18446744073709551616), U (x * y % 18446744073709551616)], []⟩
 | _ => none
def kF1 : PC := ins 305 r216 (ins 168 r115 (ins 169 r116 pt0))
theorem Zzl : PCOK Tryz.prog kF1 := by
 refine Zi (fun a res h => ?_) (Zi (fun a res h => ?_) (Zi (fun a res h => ?_) Ze))
 ·unfold r216 at h; split at h
  ·obtain ⟨h1, rfl⟩ := Vl h
   have := of_decide_eq_true h1
   exact c216 this.1 this.2
  ·cases h
 ·unfold r115 at h; split at h <;> cases h; exact c115 _
 ·unfold r116 at h; split at h <;> cases h; exact c116 _
set_option maxRecDepth 100000 in
set_option maxHeartbeats 8000000 in
theorem c215 {a b c d : Int} (ha : i64 a) (hb : i64 b) (hc : i64 c) (hd : i64 d) : PCall Tryz.prog 296 [I a, I b, I c, I d] ⟨I (cmpP a b c d), []⟩ := by
 obtain ⟨a1, a2⟩ := Zhi ha
 obtain ⟨b1, b2⟩ := Zhi hb
 obtain ⟨c1, c2⟩ := Zhi hc
 obtain ⟨d1, d2⟩ := Zhi hd
 by_cases h : sgn a * sgn b = sgn c * sgn d
 ·have hX : (a.natAbs : Int) * (b.natAbs : Int) = (a.natAbs : Int) * (b.natAbs : Int) := rfl
  have hY : (c.natAbs : Int) * (d.natAbs : Int) = (c.natAbs : Int) * (d.natAbs : Int) := rfl
  obtain ⟨k1, k2, k3⟩ := Zvy hX hY h
  have t1 : asr (decide (u64 (IntKind.u64.wrap (size a)) /\ u64 (IntKind.u64.wrap (size b)))) ⟨.tup [U (IntKind.u64.wrap (size a) * IntKind.u64.wrap (size b) / 18446744073709551616), U (IntKind.u64.wrap (size a) * IntKind.u64.wrap (size b) % 18446744073709551616)], []⟩ = some ⟨.tup [U ((a.natAbs : Int) * (b.natAbs : Int) / 18446744073709551616), U ((a.natAbs : Int) * (b.natAbs : Int) % 18446744073709551616)], []⟩ := by
   rw [a1, b1, Xy ⟨a2, b2⟩]
  have t2 : asr (decide (u64 (IntKind.u64.wrap (size c)) /\ u64 (IntKind.u64.wrap (size d)))) ⟨.tup [U (IntKind.u64.wrap (size c) * IntKind.u64.wrap (size d) / 18446744073709551616), U (IntKind.u64.wrap (size c) * IntKind.u64.wrap (size d) % 18446744073709551616)], []⟩ = some ⟨.tup [U ((c.natAbs : Int) * (d.natAbs : Int) / 18446744073709551616), U ((c.natAbs : Int) * (d.natAbs : Int) % 18446744073709551616)], []⟩ := by
   rw [c1, d1, Xy ⟨c2, d2⟩]
  have w1 : IntKind.i64.wrap (sgn a * sgn b) = IntKind.i64.wrap (sgn c * sgn d) := by rw [h]
  have w2 := Zdn a b
  have hr : -1 <= sgn a * sgn b /\ sgn a * sgn b <= 1 := by
   have := Zn (A := 1) (B := 1) (Zgz a) (Zgz b); omega
  have w3 : IntKind.i64.wrap (0 - IntKind.i64.wrap (sgn a * sgn b)) = -(sgn a * sgn b) := by rw [w2, W_eq (by omega) (by omega)]; omega
  generalize (a.natAbs : Int) * (b.natAbs : Int) = X at *
  generalize (c.natAbs : Int) * (d.natAbs : Int) = Y at *
  generalize cmpP a b c d = r at *
  refine bs.pv (sx := nos) Zzl Tryz.func296 (by kernel_rfl) (by kernel_rfl) rfl ?_
  rcases Int.lt_trichotomy X Y with hxy | hxy | hxy
  ·rw [k3 hxy, <-w3]
   repeat' (first | refine wk1 ?_ | (refine wk2 ?_ ?_ <;> intro _) | refine wk4 ?_ | fail); all_goals (conv => whnf)
   all_goals first
    | exact Za rfl
    | (exfalso; simp_all; done)
    | (exfalso; simp_all; omega)
  ·rw [k1 hxy]
   subst hxy
   repeat' (first | refine wk1 ?_ | (refine wk2 ?_ ?_ <;> intro _) | refine wk4 ?_ | fail); all_goals (conv => whnf)
   all_goals first
    | exact Za rfl
    | (exfalso; simp_all; done)
    | (exfalso; simp_all; omega)
  ·rw [k2 hxy, <-w2]
   repeat' (first | refine wk1 ?_ | (refine wk2 ?_ ?_ <;> intro _) | refine wk4 ?_ | fail); all_goals (conv => whnf)
   all_goals first
    | exact Za rfl
    | (exfalso; simp_all; done)
    | (exfalso; simp_all; omega)
 ·have hr1 := Zn (A := 1) (B := 1) (Zgz a) (Zgz b)
  have hr2 := Zn (A := 1) (B := 1) (Zgz c) (Zgz d)
  have w : sgn (IntKind.i64.wrap (IntKind.i64.wrap (sgn a * sgn b) - IntKind.i64.wrap (sgn c * sgn d))) = cmpP a b c d := by
   rw [Zyb h, Zdn, Zdn, W_eq (by omega) (by omega)]
  have w2 : ¬ IntKind.i64.wrap (sgn a * sgn b) = IntKind.i64.wrap (sgn c * sgn d) := by rw [Zdn, Zdn]; exact h
  refine bs.pv (sx := nos) Zzl Tryz.func296 (by kernel_rfl) (by kernel_rfl) rfl ?_
  rw [<-w]
  repeat' (first | refine wk1 ?_ | (refine wk2 ?_ ?_ <;> intro _) | refine wk4 ?_ | fail); all_goals (conv => whnf)
  exact Za rfl
def r204 : List AV -> Option PRes
 | [.agg [.int .i64 a, .int .i64 b, .int .i64 c, .int .i64 d, .int .i64 x, .int .i64 y, .int .i64 z, .int .i64 w]] => some ⟨.tup [I (Zoj ⟨a, b, c, d⟩ ⟨x, y, z, w⟩), I (Zoi ⟨a, b, c, d⟩ ⟨x, y, z, w⟩)], []⟩
 | _ => none
def r207 : List AV -> Option PRes
 | [.int .i64 fr, .int .i64 den, .int .i64 to, .int .i64 oth, .int .i64 a, .int .i64 b] => some ⟨Bo (ovl fr den to oth a b), []⟩
 | _ => none
def r182 : List AV -> Option PRes
 | [.agg [.int .i64 a, .int .i64 b, .int .i64 c, .int .i64 d, .int .i64 x, .int .i64 y, .int .i64 z, .int .i64 w]] => some ⟨.tup [I (midX ⟨a, b, c, d⟩ ⟨x, y, z, w⟩), I (midY ⟨a, b, c, d⟩ ⟨x, y, z, w⟩), I (midD ⟨a, b, c, d⟩ ⟨x, y, z, w⟩)], []⟩
 | _ => none
def kF2 : PC := ins 287 r204 (ins 288 r207 (ins 263 r182 kG3))
theorem Zzk : PCOK Tryz.prog kF2 := by
 refine Zi (fun a res h => ?_) (Zi (fun a res h => ?_) (Zi (fun a res h => ?_) Vh))
 ·unfold r204 at h; split at h <;> cases h; exact c204 ⟨_, _, _, _⟩ ⟨_, _, _, _⟩
 ·unfold r207 at h; split at h <;> cases h; exact c207 _ _ _ _ _ _
 ·unfold r182 at h; split at h <;> cases h; exact c182 ⟨_, _, _, _⟩ ⟨_, _, _, _⟩
set_option maxHeartbeats 4000000 in
theorem c208 (p q : Pt) (x y : Int) : PCall Tryz.prog 289 [wayA p q, P2 x y] ⟨I (Zgd p q x y), []⟩ := by
 have hk := Zd (c215 (a := Zoj p q) (b := IntKind.i64.wrap (IntKind.i64.wrap (y * p.d) - p.y)) (c := Zoi p q) (d := IntKind.i64.wrap (IntKind.i64.wrap (x * p.d) - p.x)) (Zsk _) (Zsk _) (Zsk _) (Zsk _)) Zzk
 refine bs.pv (sx := nos) hk Tryz.func289 (by kernel_rfl) (by kernel_rfl) rfl ?_
 repeat' (first | refine wk0 ?_ | (refine wk2 ?_ ?_ <;> intro _) | refine wk4 ?_ | fail); all_goals (conv => whnf)
 exact Za rfl
def r208 : List AV -> Option PRes
 | [.agg [.int .i64 a, .int .i64 b, .int .i64 c, .int .i64 d, .int .i64 x, .int .i64 y, .int .i64 z, .int .i64 w], .agg [.int .i64 u, .int .i64 v]] => some ⟨I (Zgd ⟨a, b, c, d⟩ ⟨x, y, z, w⟩ u v), []⟩
 | _ => none
def kF3 : PC := ins 289 r208 kF2
theorem Yde : PCOK Tryz.prog kF3 := by
 refine Zi (fun a res h => ?_) Zzk
 unfold r208 at h; split at h <;> cases h; exact c208 ⟨_, _, _, _⟩ ⟨_, _, _, _⟩ _ _
set_option maxRecDepth 100000 in
set_option maxHeartbeats 8000000 in
theorem c181 (p q : Pt) (w : Wl) : PCall Tryz.prog 262 [wayA p q, w.av] ⟨Bo (touP p q w), []⟩ := by
 obtain ⟨pa, pb, pc, pd⟩ := p
 obtain ⟨qa, qb, qc, qd⟩ := q
 obtain ⟨wn, wa, wb, wc, wd⟩ := w
 refine bs.pv (sx := nos) Yde Tryz.func262 (by kernel_rfl) (by kernel_rfl) rfl ?_
 repeat' (first | refine wk0 ?_ | (refine wk2 ?_ ?_ <;> intro _) | refine wk4 ?_ | fail); all_goals (conv => whnf)
 all_goals exact Zb (by simp_all [touP] <;> omega)
def r181 : List AV -> Option PRes
 | [.agg [.int .i64 a, .int .i64 b, .int .i64 c, .int .i64 d, .int .i64 x, .int .i64 y, .int .i64 z, .int .i64 w], .agg [.int .i64 n, .int .i64 fx, .int .i64 fy, .int .i64 tx, .int .i64 ty]] => some ⟨Bo (touP ⟨a, b, c, d⟩ ⟨x, y, z, w⟩ ⟨n, fx, fy, tx, ty⟩), []⟩
 | _ => none
def Ycj : List AV -> Option PRes
 | [.agg [.int .i64 a, .int .i64 b, .int .i64 c, .int .i64 d], .int .i64 x, .int .i64 y, .int .i64 z] => some ⟨Bo (Rc.has ⟨a, b, c, d⟩ x y z), []⟩
 | _ => none
def Yck : List AV -> Option PRes
 | [.agg [.int .i64 a, .int .i64 b, .int .i64 c, .int .i64 d], .int .i64 x, .int .i64 y, .int .i64 z] => some ⟨Bo (Rc.holds ⟨a, b, c, d⟩ x y z), []⟩
 | _ => none
def kF4 : PC := ins 262 r181 (ins 292 Ycj (ins 259 Yck (ins 263 r182 (ins 258 r170 kG3))))
theorem Zqs : PCOK Tryz.prog kF4 := by
 refine Zi (fun a res h => ?_) (Zi (fun a res h => ?_) (Zi (fun a res h => ?_) (Zi (fun a res h => ?_) (Zi (fun a res h => ?_) Vh))))
 ·unfold r181 at h; split at h <;> cases h; exact c181 ⟨_, _, _, _⟩ ⟨_, _, _, _⟩ ⟨_, _, _, _, _⟩
 ·unfold Ycj at h; split at h <;> cases h; exact c211 ⟨_, _, _, _⟩ _ _ _
 ·unfold Yck at h; split at h <;> cases h; exact c193 ⟨_, _, _, _⟩ _ _ _
 ·unfold r182 at h; split at h <;> cases h; exact c182 ⟨_, _, _, _⟩ ⟨_, _, _, _⟩
 ·unfold r170 at h; split at h <;> cases h; exact c170 _ _ _ _ _ _ _
set_option maxRecDepth 100000 in
set_option maxHeartbeats 8000000 in
theorem c209 (r : Rc) (p q : Pt) : PCall Tryz.prog 290 [r.av, wayA p q] ⟨Bo (Zst r p q), []⟩ := by
 obtain ⟨ra, rb, rc, rd⟩ := r
 obtain ⟨pa, pb, pc, pd⟩ := p
 obtain ⟨qa, qb, qc, qd⟩ := q
 refine bs.pv (sx := nos) Zqs Tryz.func290 (by kernel_rfl) (by kernel_rfl) rfl ?_
 repeat' (first | refine wk0 ?_ | (refine wk2 ?_ ?_ <;> intro _) | refine wk4 ?_ | fail); all_goals (conv => whnf)
 all_goals try (refine LpM.start 5 ?_)
 iterate 5
  all_goals try (refine LpM.succ (bs.av (sx := nos) Zqs ?_))
  repeat' (first | refine wk0 ?_ | (refine wk2 ?_ ?_ <;> intro _) | refine wk4 ?_ | fail); all_goals (conv => whnf)
 all_goals exact Zb (by simp_all [Zst, edgP])
def atP (ht : Int) (p q : Pt) : Int × Int × Int × Bool := if 0 <= IntKind.i64.wrap (sgn (zOff ht p) * sgn (zOff ht q)) then (0, 0, 0, false) else (atX p.x q.x (size (zOff ht q)) (size (zOff ht p)), atX p.y q.y (size (zOff ht q)) (size (zOff ht p)), atX p.d q.d (size (zOff ht q)) (size (zOff ht p)), true)
set_option maxRecDepth 100000 in
set_option maxHeartbeats 8000000 in
theorem c210 (ht : Int) (p q : Pt) : PCall Tryz.prog 291 [wayA p q, I ht] ⟨.tup [I (atP ht p q).1, I (atP ht p q).2.1, I (atP ht p q).2.2.1, Bo (atP ht p q).2.2.2], []⟩ := by
 refine bs.pv (sx := nos) Vh Tryz.func291 (by kernel_rfl) (by kernel_rfl) rfl ?_
 unfold atP
 by_cases hc : 0 <= IntKind.i64.wrap (sgn (zOff ht p) * sgn (zOff ht q))
 ·rw [if_pos hc]
  unfold zOff at hc
  repeat' (first | refine wk3 ?_ | (refine wk2 ?_ ?_ <;> intro _) | refine wk4 ?_ | fail); all_goals (conv => whnf)
  exact Zf rfl rfl
 ·rw [if_neg hc]
  unfold zOff at hc
  repeat' (first | refine wk3 ?_ | (refine wk2 ?_ ?_ <;> intro _) | refine wk4 ?_ | fail); all_goals (conv => whnf)
  exact Zf rfl rfl
def r210 : List AV -> Option PRes
 | [.agg [.int .i64 a, .int .i64 b, .int .i64 c, .int .i64 d, .int .i64 x, .int .i64 y, .int .i64 z, .int .i64 w], .int .i64 ht] => some ⟨.tup [I (atP ht ⟨a, b, c, d⟩ ⟨x, y, z, w⟩).1, I (atP ht ⟨a, b, c, d⟩ ⟨x, y, z, w⟩).2.1, I (atP ht ⟨a, b, c, d⟩ ⟨x, y, z, w⟩).2.2.1, Bo (atP ht ⟨a, b, c, d⟩ ⟨x, y, z, w⟩).2.2.2], []⟩
 | _ => none
def r209 : List AV -> Option PRes
 | [.agg [.int .i64 e, .int .i64 f, .int .i64 g, .int .i64 h], .agg [.int .i64 a, .int .i64 b, .int .i64 c, .int .i64 d, .int .i64 x, .int .i64 y, .int .i64 z, .int .i64 w]] => some ⟨Bo (Zst ⟨e, f, g, h⟩ ⟨a, b, c, d⟩ ⟨x, y, z, w⟩), []⟩
 | _ => none
def kF5 : PC := ins 290 r209 (ins 291 r210 kF4)
theorem Ydd : PCOK Tryz.prog kF5 := by
 refine Zi (fun a res h => ?_) (Zi (fun a res h => ?_) Zqs)
 ·unfold r209 at h; split at h <;> cases h; exact c209 ⟨_, _, _, _⟩ ⟨_, _, _, _⟩ ⟨_, _, _, _⟩
 ·unfold r210 at h; split at h <;> cases h; exact c210 _ ⟨_, _, _, _⟩ ⟨_, _, _, _⟩
set_option maxRecDepth 100000 in
set_option maxHeartbeats 8000000 in
theorem c184 {h : Hal} {s : Stg} (g : Sit h s) {j : Nat} (hj : j < h.ks.length) (p q : Pt) : PCall Tryz.prog 264 [.agg (stgL h s), I j, wayA p q] ⟨Bo (blkP h.ks[j].rc (Ue h s j) p q), []⟩ := by
 have hk := Zd (c192 g hj) Ydd
 have e5 := Zbe hj
 have l2 := Xa h.ks
 generalize Ue h s j = ht at *
 generalize h.ks[j] = c at *
 unfold blkP
 by_cases hc : p.z = IntKind.i64.wrap (ht * p.d) /\ q.z = IntKind.i64.wrap (ht * q.d)
 ·rw [if_pos hc]
  obtain ⟨h1, h2⟩ := hc
  refine bs.pv (sx := nos) hk Tryz.func264 (by kernel_rfl) (by kernel_rfl) rfl ?_
  repeat' (first | refine wk3 ?_ | (refine wk2 ?_ ?_ <;> intro _) | refine wk4 ?_ | fail); all_goals (conv => whnf)
  exact Zb rfl
 ·rw [if_neg hc]
  have hat : atP ht p q = if 0 <= IntKind.i64.wrap (sgn (zOff ht p) * sgn (zOff ht q)) then (0, 0, 0, false) else (atX p.x q.x (size (zOff ht q)) (size (zOff ht p)), atX p.y q.y (size (zOff ht q)) (size (zOff ht p)), atX p.d q.d (size (zOff ht q)) (size (zOff ht p)), true) := rfl
  have hk2 := Zd (c210 ht p q) hk
  rw [hat] at hk2
  clear hk hat
  have hc2 : ¬ p.z = IntKind.i64.wrap (ht * p.d) \/ (p.z = IntKind.i64.wrap (ht * p.d) /\ ¬ q.z = IntKind.i64.wrap (ht * q.d)) := by
   by_cases h1 : p.z = IntKind.i64.wrap (ht * p.d)
   ·exact .inr ⟨h1, fun h2 => hc ⟨h1, h2⟩⟩
   ·exact .inl h1
  clear hc
  by_cases hs : 0 <= IntKind.i64.wrap (sgn (zOff ht p) * sgn (zOff ht q))
  ·rw [if_pos hs] at hk2 ⊢
   clear hs
   rcases hc2 with h1 | ⟨h1, h2⟩
   all_goals
    refine bs.pv (sx := nos) hk2 Tryz.func264 (by kernel_rfl) (by kernel_rfl) rfl ?_
    repeat' (first | refine wk3 ?_ | (refine wk2 ?_ ?_ <;> intro _) | refine wk4 ?_ | fail); all_goals (conv => whnf)
    exact Zb rfl
  ·rw [if_neg hs] at hk2 ⊢
   clear hs
   rcases hc2 with h1 | ⟨h1, h2⟩
   all_goals
    refine bs.pv (sx := nos) hk2 Tryz.func264 (by kernel_rfl) (by kernel_rfl) rfl ?_
    repeat' (first | refine wk3 ?_ | (refine wk2 ?_ ?_ <;> intro _) | refine wk4 ?_ | fail); all_goals (conv => whnf)
    exact Zb rfl
def zBad (h : Hal) (p q : Pt) : Bool := (decide (p.z = 0) && decide (q.z = 0)) || (decide (p.z = IntKind.i64.wrap (h.ht * p.d)) && decide (q.z = IntKind.i64.wrap (h.ht * q.d))) || decide (p.z < 0) || decide (q.z < 0) || decide (IntKind.i64.wrap (h.ht * p.d) < p.z) || decide (IntKind.i64.wrap (h.ht * q.d) < q.z)
def blkA (h : Hal) (s : Stg) (p q : Pt) : Nat -> List Can -> Bool
 | _, [] => false
 | j, c :: l => blkP c.rc (Ue h s j) p q || blkA h s p q (j + 1) l
def Ze3 (h : Hal) (s : Stg) (p q : Pt) : Bool := !zBad h p q && (!(wls h.cs).any (touP p q) && (Yh h (midX p q) (midY p q) (midD p q) && !blkA h s p q 0 h.ks))
noncomputable abbrev blks (h : Hal) (s : Stg) (p q : Pt) : List AV -> Option PRes := famA (fun j : Nat => j < h.ks.length) (fun j => [.agg (stgL h s), I j, wayA p q]) (fun j => ⟨Bo (blkP ((h.ks[j]?).getD ⟨⟨#[]⟩, ⟨#[]⟩, 0, 0, 0, 0, []⟩).rc (Ue h s j) p q), []⟩)
theorem Zyg {h : Hal} {s : Stg} {p q : Pt} {j : Nat} (hj : j < h.ks.length) : blks h s p q [.agg (stgL h s), I j, wayA p q] = some ⟨Bo (blkP h.ks[j].rc (Ue h s j) p q), []⟩ := by
 have := Zr (p := fun j : Nat => j < h.ks.length) (g := fun j : Nat => [.agg (stgL h s), I j, wayA p q]) (r := fun j => ⟨Bo (blkP ((h.ks[j]?).getD ⟨⟨#[]⟩, ⟨#[]⟩, 0, 0, 0, 0, []⟩).rc (Ue h s j) p q), []⟩) (k := j) (fun i hi => by
  simp only [List.cons.injEq, AV.int.injEq, true_and, and_true] at hi
  have : i = j := by omega
  subst this; rfl) hj
 refine this.trans ?_
 rw [List.getElem?_eq_getElem hj]; rfl
noncomputable def kF6 (h : Hal) (s : Stg) (p q : Pt) : PC := ins 264 (blks h s p q) (ins 260 (one [h.av, I (midX p q), I (midY p q), I (midD p q)] ⟨Bo (Yh h (midX p q) (midY p q) (midD p q)), []⟩) kF4)
theorem Ydc {h : Hal} {s : Stg} (g : Sit h s) (p q : Pt) : PCOK Tryz.prog (kF6 h s p q) := Ye (fun j hj => by rw [List.getElem?_eq_getElem hj]; exact c184 g hj p q) (Zd (c183 g.ok.f _ _ _) Zqs)
set_option maxRecDepth 100000 in
set_option maxHeartbeats 16000000 in
theorem c103 {h : Hal} {s : Stg} (g : Sit h s) (p q : Pt) : PCall Tryz.prog 176 [.agg (stgL h s), wayA p q] ⟨Bo (Ze3 h s p q), []⟩ := by
 have hk := Ydc g p q
 refine bs.pv (sx := nos) hk Tryz.func176 (by kernel_rfl) (by kernel_rfl) rfl ?_
 cases hz : zBad h p q with
 | true =>
  unfold Ze3
  rw [hz]
  repeat' (first | refine wk3 ?_ | (refine wk2 ?_ ?_ <;> intro _) | refine wk4 ?_ | fail); all_goals (conv => whnf)
  all_goals first
   | exact Zb rfl
   | (exfalso; clear hk; simp_all [zBad]; done)
   | (exfalso; clear hk; simp_all [zBad]; omega)
 | false =>
  have e : Ze3 h s p q = (!(wls h.cs).any (touP p q) && (Yh h (midX p q) (midY p q) (midD p q) && !blkA h s p q 0 h.ks)) := by unfold Ze3; rw [hz]; rfl
  rw [e]
  clear e
  unfold zBad at hz
  simp only [Bool.or_eq_false_iff, Bool.and_eq_false_iff, decide_eq_false_iff_not] at hz
  obtain ⟨⟨⟨⟨⟨z1, z2⟩, z3⟩, z4⟩, z5⟩, z6⟩ := hz
  repeat' (first | refine wk3 ?_ | (refine wk2 ?_ ?_ <;> intro _) | refine wk4 ?_ | fail); all_goals (conv => whnf)
  all_goals try (exfalso; clear hk; simp_all; done)
  all_goals
   refine Rg.ren (env2 := [(2, .ptr 0 0 0), (4, .ptr 2 0 0), (9, .ptr 43 0 0), (92, .func 261 [h.av] [])]) (σ2 := ⟨[(43, .row 8 [[I p.x, I p.y, I p.z, I p.d, I q.x, I q.y, I q.z, I q.d]] true false), (2, .row 1 [[Bo false]] true false), (0, .row 11 [stgL h s] true false)], 44⟩) (Ren.of [] rfl (kps) (kps)) ?_
   clear z1 z2 z3 z4 z5 z6
   refine rngV (itW g.ok.f) rfl rfl rfl rfl (Zes (S := Unit) (fun _ => [(43, .row 8 [[I p.x, I p.y, I p.z, I p.d, I q.x, I q.y, I q.z, I q.d]] true false), (2, .row 1 [[Bo false]] true false), (0, .row 11 [stgL h s] true false)]) 44 44 (fun xs _ => ∃ l : List Wl, xs = l.map (fun w => [w.av]) /\ (!l.any (touP p q) && (Yh h (midX p q) (midY p q) (midD p q) && !blkA h s p q 0 h.ks)) = (!(wls h.cs).any (touP p q) && (Yh h (midX p q) (midY p q) (midD p q) && !blkA h s p q 0 h.ks))) ?_ ?_ _ () ⟨_, rfl, rfl⟩)
   ·rintro u us _ ⟨l, h1, h2⟩
    cases l with
    | nil => simp at h1
    | cons w l =>
     simp only [List.map_cons, List.cons.injEq] at h1
     obtain ⟨rfl, rfl⟩ := h1
     obtain ⟨wn, wa, wb, wc, wd⟩ := w
     rw [List.any_cons] at h2
     refine ⟨rfl, bs.av (sx := nos) hk ?_⟩
     repeat' (first | refine wk3 ?_ | (refine wk2 ?_ ?_ <;> intro _) | refine wk4 ?_ | fail); all_goals (conv => whnf)
     refine Bd.mk (bs.av (sx := nos) hk ?_)
     repeat' (first | refine wk3 ?_ | (refine wk2 ?_ ?_ <;> intro _) | refine wk4 ?_ | fail); all_goals (conv => whnf)
     ·rename_i hx
      rw [<-h2, hx]
      exact Zb rfl
     ·rename_i hx
      rw [hx, Bool.false_or] at h2
      exact Done.mk ⟨(), [], rfl, kps, l, rfl, h2⟩
   ·rintro _ ⟨l, h1, h2⟩
    cases l with
    | cons w l => simp at h1
    | nil =>
     rw [<-h2]
     clear h1 h2
     rw [List.any_nil]
     repeat' (first | refine wk3 ?_ | (refine wk2 ?_ ?_ <;> intro _) | refine wk4 ?_ | fail); all_goals (conv => whnf)
     ·rename_i hx
      have hx : Yh h (midX p q) (midY p q) (midD p q) = false := by simpa using hx
      rw [hx]
      exact Zb rfl
     ·rename_i hx
      have hx : Yh h (midX p q) (midY p q) (midD p q) = true := by simpa using hx
      rw [hx]
      have l4 := Xa h.ks
      have f4 := g.ok.f.2.2.2.1
      refine Zx (S := Nat × Int) (fun t => h.ks.length - t.1) (fun t => [(2, .ptr 0 0 0), (4, .ptr 2 0 0), (9, .ptr 43 0 0), (114, I (h.ks.map Can.av).length), (115, I t.2)]) (fun _ => [(43, .row 8 [[I p.x, I p.y, I p.z, I p.d, I q.x, I q.y, I q.z, I q.d]] true false), (2, .row 1 [[Bo false]] true false), (0, .row 11 [stgL h s] true false)]) 60 60 (fun t => t.2 = t.1 /\ t.1 <= h.ks.length /\ blkA h s p q t.1 (h.ks.drop t.1) = blkA h s p q 0 h.ks) (0, 0) ⟨rfl, Nat.zero_le _, rfl⟩ (Nat.le_of_ble_eq_true rfl) [] rfl (kps) (kps) ?_
      rintro ⟨k, i⟩ ⟨hi, hkk, hh⟩
      dsimp only at hi hkk hh ⊢
      subst hi
      refine bs.av (sx := nos) hk ?_
      by_cases hlt : k < h.ks.length
      ·rw [List.drop_eq_getElem_cons hlt, blkA] at hh
       have hb := Zyg (p := p) (q := q) (s := s) hlt
       generalize blkP h.ks[k].rc (Ue h s k) p q = b at *
       cases b with
       | true =>
        rw [<-hh]
        repeat' (first | refine wk3 ?_ | (refine wk2 ?_ ?_ <;> intro _) | refine wk4 ?_ | fail); all_goals (conv => whnf)
        exact Zb rfl
       | false =>
        rw [Bool.false_or] at hh
        repeat' (first | refine wk3 ?_ | (refine wk2 ?_ ?_ <;> intro _) | refine wk4 ?_ | fail); all_goals (conv => whnf)
        exact Done.mk ⟨(k + 1, _), [], rfl, kps, kps, ⟨Zk (by omega), hlt, hh⟩, by dsimp only; omega⟩
      ·rw [List.drop_of_length_le (by omega), blkA] at hh
       rw [<-hh]
       repeat' (first | refine wk3 ?_ | (refine wk2 ?_ ?_ <;> intro _) | refine wk4 ?_ | fail); all_goals (conv => whnf)
       exact Zb rfl
def ptEq (p q : Pt) : Bool := decide (p.x = q.x) && decide (p.y = q.y) && decide (p.z = q.z) && decide (p.d = q.d)
def wayE (h : Hal) (s : Stg) (p q : Pt) : Int := if serr h s = 0 then (if Yw p = 0 then (if Yw q = 0 then (if ptEq p q then 11 else 0) else Yw q) else Yw p) else serr h s
abbrev sxF : FuncId -> Bool := fun f => Nat.beq f 159 || Nat.beq f 173 || Nat.beq f 174 || Nat.beq f 175
noncomputable abbrev ptEs : List AV -> Option PRes := famA (fun p : Pt => p.wf) (fun p => [p.av]) (fun p => ⟨I (Yw p), []⟩)
theorem Zqe {p : Pt} (h : p.wf) : ptEs [p.av] = some ⟨I (Yw p), []⟩ :=
 Zr (p := fun p : Pt => p.wf) (g := fun p => [p.av]) (r := fun p => ⟨I (Yw p), []⟩) (fun j hj => by
  obtain ⟨a, b, c, d⟩ := j
  obtain ⟨a', b', c', d'⟩ := p
  simp only [List.cons.injEq, AV.agg.injEq, AV.int.injEq, true_and, and_true] at hj
  obtain ⟨rfl, rfl, rfl, rfl⟩ := hj
  rfl) h
set_option maxRecDepth 100000 in
set_option maxHeartbeats 16000000 in
theorem c37 {h : Hal} (hk : h.ok) {s : Stg} (hs : s.few) {p q : Pt} (hp : p.wf) (hq : q.wf) : PCall Tryz.prog 125 [h.av, s.av, wayA p q] ⟨.tup [Bo (decide (wayE h s p q = 0) && Ze3 h s p q), I (wayE h s p q)], []⟩ := by
 have hk0 : PCOK Tryz.prog (ins 164 ptEs (ins 172 (one [h.av, s.av] ⟨.tup [.agg (stgL h s), I (serr h s)], []⟩) kG4)) := Ye (fun p hp => c99 hp) (Zd (c83 hk hs) Uv)
 have t1 := Zqe hp
 have t2 := Zqe hq
 unfold wayE
 by_cases h0 : serr h s = 0
 ·have g := Zh6 hk hs h0
  rw [h0] at hk0
  rw [if_pos h0]
  have hk1 := Zd (c103 g p q) hk0
  clear hk0 h0
  generalize Ze3 h s p q = fr at *
  generalize Yw p = e1 at *
  generalize Yw q = e2 at *
  by_cases h1 : e1 = 0
  ·rw [if_pos h1]
   subst h1
   by_cases h2 : e2 = 0
   ·rw [if_pos h2]
    subst h2
    have hx : (true ^^ (decide (p.x = q.x) && (decide (p.y = q.y) && (decide (p.z = q.z) && (decide (p.d = q.d) && true))))) = !ptEq p q := by
     unfold ptEq
     cases decide (p.x = q.x) <;> cases decide (p.y = q.y) <;> cases decide (p.z = q.z) <;> cases decide (p.d = q.d) <;> rfl
    cases hq : ptEq p q with
    | true =>
     rw [hq] at hx
     have hu : unl (true ^^ (decide (p.x = q.x) && (decide (p.y = q.y) && (decide (p.z = q.z) && (decide (p.d = q.d) && true))))) 11 = 11 := by rw [hx]; rfl
     clear hx hq
     refine bs.pv (sx := sxF) hk1 Tryz.func125 (by kernel_rfl) (by kernel_rfl) rfl ?_
     repeat' (first | refine wk3 ?_ | (refine wk2 ?_ ?_ <;> intro _) | refine wk4 ?_ | fail); all_goals (conv => whnf)
     refine bs.sv (sx := sxF) hk1 Tryz.func159 (by kernel_rfl) (by kernel_rfl) ?_
     refine LpM.start 4 ?_
     refine LpM.succ (bs.av (sx := sxF) hk1 ?_)
     repeat' (first | refine wk3 ?_ | (refine wk2 ?_ ?_ <;> intro _) | refine wk4 ?_ | fail); all_goals (conv => whnf)
     refine bs.sv (sx := sxF) hk1 Tryz.func173 (by kernel_rfl) (by kernel_rfl) ?_
     repeat' (first | refine wk3 ?_ | (refine wk2 ?_ ?_ <;> intro _) | refine wk4 ?_ | fail); all_goals (conv => whnf)
     refine LpM.succ (bs.av (sx := sxF) hk1 ?_)
     repeat' (first | refine wk3 ?_ | (refine wk2 ?_ ?_ <;> intro _) | refine wk4 ?_ | fail); all_goals (conv => whnf)
     refine bs.sv (sx := sxF) hk1 Tryz.func174 (by kernel_rfl) (by kernel_rfl) ?_
     repeat' (first | refine wk3 ?_ | (refine wk2 ?_ ?_ <;> intro _) | refine wk4 ?_ | fail); all_goals (conv => whnf)
     refine LpM.succ (bs.av (sx := sxF) hk1 ?_)
     repeat' (first | refine wk3 ?_ | (refine wk2 ?_ ?_ <;> intro _) | refine wk4 ?_ | fail); all_goals (conv => whnf)
     refine bs.sv (sx := sxF) hk1 Tryz.func175 (by kernel_rfl) (by kernel_rfl) ?_
     repeat' (first | refine wk3 ?_ | (refine wk2 ?_ ?_ <;> intro _) | refine wk4 ?_ | fail); all_goals (conv => whnf)
     exact Zf (by rw [hu]; rfl) rfl
    | false =>
     rw [hq] at hx
     have hu : unl (true ^^ (decide (p.x = q.x) && (decide (p.y = q.y) && (decide (p.z = q.z) && (decide (p.d = q.d) && true))))) 11 = 0 := by rw [hx]; rfl
     clear hx hq
     refine bs.pv (sx := sxF) hk1 Tryz.func125 (by kernel_rfl) (by kernel_rfl) rfl ?_
     repeat' (first | refine wk3 ?_ | (refine wk2 ?_ ?_ <;> intro _) | refine wk4 ?_ | fail); all_goals (conv => whnf)
     refine bs.sv (sx := sxF) hk1 Tryz.func159 (by kernel_rfl) (by kernel_rfl) ?_
     refine LpM.start 4 ?_
     refine LpM.succ (bs.av (sx := sxF) hk1 ?_)
     repeat' (first | refine wk3 ?_ | (refine wk2 ?_ ?_ <;> intro _) | refine wk4 ?_ | fail); all_goals (conv => whnf)
     refine bs.sv (sx := sxF) hk1 Tryz.func173 (by kernel_rfl) (by kernel_rfl) ?_
     repeat' (first | refine wk3 ?_ | (refine wk2 ?_ ?_ <;> intro _) | refine wk4 ?_ | fail); all_goals (conv => whnf)
     refine LpM.succ (bs.av (sx := sxF) hk1 ?_)
     repeat' (first | refine wk3 ?_ | (refine wk2 ?_ ?_ <;> intro _) | refine wk4 ?_ | fail); all_goals (conv => whnf)
     refine bs.sv (sx := sxF) hk1 Tryz.func174 (by kernel_rfl) (by kernel_rfl) ?_
     repeat' (first | refine wk3 ?_ | (refine wk2 ?_ ?_ <;> intro _) | refine wk4 ?_ | fail); all_goals (conv => whnf)
     refine LpM.succ (bs.av (sx := sxF) hk1 ?_)
     repeat' (first | refine wk3 ?_ | (refine wk2 ?_ ?_ <;> intro _) | refine wk4 ?_ | fail); all_goals (conv => whnf)
     refine bs.sv (sx := sxF) hk1 Tryz.func175 (by kernel_rfl) (by kernel_rfl) ?_
     repeat' (first | refine wk3 ?_ | (refine wk2 ?_ ?_ <;> intro _) | refine wk4 ?_ | fail); all_goals (conv => whnf)
     refine LpM.succ (bs.av (sx := sxF) hk1 ?_)
     repeat' (first | refine wk3 ?_ | (refine wk2 ?_ ?_ <;> intro _) | refine wk4 ?_ | fail); all_goals (conv => whnf)
     exact Zf (by cases fr <;> rfl) rfl
   ·rw [if_neg h2]
    refine bs.pv (sx := sxF) hk1 Tryz.func125 (by kernel_rfl) (by kernel_rfl) rfl ?_
    repeat' (first | refine wk3 ?_ | (refine wk2 ?_ ?_ <;> intro _) | refine wk4 ?_ | fail); all_goals (conv => whnf)
    refine bs.sv (sx := sxF) hk1 Tryz.func159 (by kernel_rfl) (by kernel_rfl) ?_
    refine LpM.start 4 ?_
    refine LpM.succ (bs.av (sx := sxF) hk1 ?_)
    repeat' (first | refine wk3 ?_ | (refine wk2 ?_ ?_ <;> intro _) | refine wk4 ?_ | fail); all_goals (conv => whnf)
    refine bs.sv (sx := sxF) hk1 Tryz.func173 (by kernel_rfl) (by kernel_rfl) ?_
    repeat' (first | refine wk3 ?_ | (refine wk2 ?_ ?_ <;> intro _) | refine wk4 ?_ | fail); all_goals (conv => whnf)
    refine LpM.succ (bs.av (sx := sxF) hk1 ?_)
    repeat' (first | refine wk3 ?_ | (refine wk2 ?_ ?_ <;> intro _) | refine wk4 ?_ | fail); all_goals (conv => whnf)
    refine bs.sv (sx := sxF) hk1 Tryz.func174 (by kernel_rfl) (by kernel_rfl) ?_
    repeat' (first | refine wk3 ?_ | (refine wk2 ?_ ?_ <;> intro _) | refine wk4 ?_ | fail); all_goals (conv => whnf)
    exact Zf (by rw [decide_eq_false h2]; rfl) rfl
  ·rw [if_neg h1]
   refine bs.pv (sx := sxF) hk1 Tryz.func125 (by kernel_rfl) (by kernel_rfl) rfl ?_
   repeat' (first | refine wk3 ?_ | (refine wk2 ?_ ?_ <;> intro _) | refine wk4 ?_ | fail); all_goals (conv => whnf)
   refine bs.sv (sx := sxF) hk1 Tryz.func159 (by kernel_rfl) (by kernel_rfl) ?_
   refine LpM.start 4 ?_
   refine LpM.succ (bs.av (sx := sxF) hk1 ?_)
   repeat' (first | refine wk3 ?_ | (refine wk2 ?_ ?_ <;> intro _) | refine wk4 ?_ | fail); all_goals (conv => whnf)
   refine bs.sv (sx := sxF) hk1 Tryz.func173 (by kernel_rfl) (by kernel_rfl) ?_
   repeat' (first | refine wk3 ?_ | (refine wk2 ?_ ?_ <;> intro _) | refine wk4 ?_ | fail); all_goals (conv => whnf)
   exact Zf (by rw [decide_eq_false h1]; rfl) rfl
 ·rw [if_neg h0]
  generalize Ze3 h s p q = fr at *
  refine bs.pv (sx := sxF) hk0 Tryz.func125 (by kernel_rfl) (by kernel_rfl) rfl ?_
  repeat' (first | refine wk3 ?_ | (refine wk2 ?_ ?_ <;> intro _) | refine wk4 ?_ | fail); all_goals (conv => whnf)
  exact Zf (by rw [decide_eq_false h0]; rfl) rfl
theorem Zv0 {n d m k : Int} (hd : 0 < d) (hk : 0 < k) (h : n / d < m / k) : cmpQ n d m k = -1 := by
 have h1 := Int.lt_ediv_add_one_mul_self n hd
 have h2 := Int.ediv_mul_le m (show k ≠ 0 by omega)
 have h3 := Int.mul_le_mul_of_nonneg_right (show n / d + 1 <= m / k by omega) (Int.le_of_lt hd)
 have h4 := Int.mul_lt_mul_of_pos_right (show n < m / k * d by omega) hk
 have h5 := Int.mul_le_mul_of_nonneg_right h2 (Int.le_of_lt hd)
 have e : m / k * d * k = m / k * k * d := by grind
 unfold cmpQ sgn
 rw [if_neg (by omega), if_pos (by omega)]
theorem Zvz {n d m k : Int} : cmpQ n d m k = -cmpQ m k n d := by
 unfold cmpQ
 have e : n * k - m * d = -(m * d - n * k) := by omega
 rw [e]
 generalize m * d - n * k = v
 unfold sgn
 split <;> split <;> (try split) <;> (try split) <;> omega
theorem Yb4 {n d m k : Int} (h : n / d = m / k) : cmpQ n d m k = cmpQ (n % d) d (m % k) k := by
 unfold cmpQ
 have h1 := Int.mul_ediv_add_emod n d
 have h2 := Int.mul_ediv_add_emod m k
 congr 1
 rw [h] at h1
 generalize m / k = q at *
 generalize n % d = r at *
 generalize m % k = t at *
 subst h1 h2
 grind
theorem cmpQ_flip {n d m k : Int} : cmpQ n d m k = cmpQ k m d n := by unfold cmpQ; congr 1; grind
noncomputable abbrev flr : List AV -> Option PRes := famA (fun p : Int × Int => 0 < p.2 /\ -9223372036854775807 <= p.1 /\ p.1 <= 9223372036854775807) (fun p => [I p.1, I p.2]) (fun p => ⟨I (p.1 / p.2), []⟩)
theorem Zu6 {n b : Int} (hb : 0 < b) (h0 : -9223372036854775807 <= n) (h1 : n <= 9223372036854775807) : flr [I n, I b] = some ⟨I (n / b), []⟩ :=
 Zr (p := fun p : Int × Int => 0 < p.2 /\ -9223372036854775807 <= p.1 /\ p.1 <= 9223372036854775807) (g := fun p => [I p.1, I p.2]) (r := fun p => ⟨I (p.1 / p.2), []⟩) (k := (n, b)) (fun j hj => by
  simp only [List.cons.injEq, AV.int.injEq, true_and, and_true] at hj
  obtain ⟨h1, h2⟩ := hj
  dsimp only
  rw [h1, h2]) ⟨hb, h0, h1⟩
noncomputable def kC1 : PC := ins 109 flr pt0
theorem Zzm : PCOK Tryz.prog kC1 := Ye (fun p hp => c90 hp.1 hp.2.1 hp.2.2) Ze
theorem Zoe {n d : Int} (hd : 0 < d) (hd2 : d <= 9223372036854775807) : IntKind.i64.wrap (n - IntKind.i64.wrap (n / d * d)) = n % d := by
 have h1 := Int.emod_nonneg n (show d ≠ 0 by omega)
 have h2 := Int.emod_lt_of_pos n hd
 have h3 := Int.mul_ediv_add_emod n d
 rw [Int.mul_comm] at h3
 simp only [IntKind.wrap_i64]
 omega
set_option maxRecDepth 100000 in
set_option maxHeartbeats 8000000 in
theorem c187 {n d m k : Int} (hd : 0 < d) (hk : 0 < k) (hd2 : d <= 9223372036854775807) (hk2 : k <= 9223372036854775807) (hn : -9223372036854775807 <= n /\ n <= 9223372036854775807) (hm : -9223372036854775807 <= m /\ m <= 9223372036854775807) : PCall Tryz.prog 190 [I n, I d, I m, I k] ⟨I (cmpQ n d m k), []⟩ := by
 refine bs.pv (sx := nos) Zzm Tryz.func190 (by kernel_rfl) (by kernel_rfl) rfl ?_
 generalize hR : cmpQ n d m k = R
 refine Zx (S := Int × Int × Int × Int) (fun t => (t.2.1 + t.2.2.2).toNat) (fun t => [(0, I t.1), (1, I t.2.1), (2, I t.2.2.1), (3, I t.2.2.2)]) (fun _ => []) 0 0 (fun t => ((0 < t.2.1 /\ t.2.1 <= 9223372036854775807) /\ (0 < t.2.2.2 /\ t.2.2.2 <= 9223372036854775807)) /\ ((-9223372036854775807 <= t.1 /\ t.1 <= 9223372036854775807) /\ (-9223372036854775807 <= t.2.2.1 /\ t.2.2.1 <= 9223372036854775807)) /\ cmpQ t.1 t.2.1 t.2.2.1 t.2.2.2 = R) (n, d, m, k) ⟨⟨⟨hd, hd2⟩, hk, hk2⟩, ⟨hn, hm⟩, hR⟩ (Nat.le_refl _) [] rfl (kps) (kps) ?_
 clear hR hd hk hd2 hk2 hn hm
 rintro ⟨n, d, m, k⟩ ⟨⟨⟨hd, hd2⟩, hk, hk2⟩, ⟨hn, hm⟩, hR⟩
 dsimp only at hd hd2 hk hk2 hn hm hR ⊢
 have t1 := Zu6 hd hn.1 hn.2
 have t2 := Zu6 hk hm.1 hm.2
 have w1 := Zoe (n := n) hd hd2
 have w2 := Zoe (n := m) hk hk2
 have n1 := Int.emod_nonneg n (show d ≠ 0 by omega)
 have n2 := Int.emod_lt_of_pos n hd
 have m1 := Int.emod_nonneg m (show k ≠ 0 by omega)
 have m2 := Int.emod_lt_of_pos m hk
 refine bs.av (sx := nos) Zzm ?_
 rcases Int.lt_trichotomy (n / d) (m / k) with hc | hc | hc
 ·have e := Zv0 hd hk hc
  rw [hR] at e
  rw [e]
  generalize n / d = P at *
  generalize m / k = Q at *
  repeat' (first | refine wk1 ?_ | (refine wk2 ?_ ?_ <;> intro _) | refine wk4 ?_ | fail); all_goals (conv => whnf)
  exact Za rfl
 ·have e := Yb4 hc
  rw [hR] at e
  rw [hc] at t1 w1
  generalize m / k = Q at *
  generalize n % d = r at *
  generalize m % k = t at *
  by_cases r0 : r = 0
  ·by_cases t0 : t = 0
   ·have : R = 0 := by rw [e, r0, t0]; unfold cmpQ; simp [sgn]
    subst r0 t0
    rw [this]
    clear e hR this
    repeat' (first | refine wk1 ?_ | (refine wk2 ?_ ?_ <;> intro _) | refine wk4 ?_ | fail); all_goals (conv => whnf)
    all_goals first
     | exact Za rfl
     | (exfalso; rename_i hx; simp [w1, w2] at hx; done)
     | (exfalso; rename_i hx; simp [w1, w2] at hx; omega)
   ·have : R = -1 := by
     rw [e, r0]; unfold cmpQ sgn
     have := Int.mul_pos (show 0 < t by omega) hd
     rw [if_neg (by omega), if_pos (by omega)]
    rw [this]
    repeat' (first | refine wk1 ?_ | (refine wk2 ?_ ?_ <;> intro _) | refine wk4 ?_ | fail); all_goals (conv => whnf)
    all_goals first
     | exact Za rfl
     | (exfalso; rename_i hx; simp [w1, w2] at hx; done)
     | (exfalso; rename_i hx; simp [w1, w2] at hx; omega)
  ·by_cases t0 : t = 0
   ·have : R = 1 := by
     rw [e, t0]; unfold cmpQ sgn
     have := Int.mul_pos (show 0 < r by omega) hk
     rw [if_pos (by omega)]
    rw [this]
    repeat' (first | refine wk1 ?_ | (refine wk2 ?_ ?_ <;> intro _) | refine wk4 ?_ | fail); all_goals (conv => whnf)
    all_goals first
     | exact Za rfl
     | (exfalso; rename_i hx; simp [w1, w2] at hx; done)
     | (exfalso; rename_i hx; simp [w1, w2] at hx; omega)
   ·repeat' (first | refine wk1 ?_ | (refine wk2 ?_ ?_ <;> intro _) | refine wk4 ?_ | fail); all_goals (conv => whnf)
    exact Done.mk ⟨(k, t, d, r), [], rfl, by rw [w1, w2]; exact kps, kps, ⟨⟨⟨by dsimp only; omega, by dsimp only; omega⟩, by dsimp only; omega, by dsimp only; omega⟩, ⟨⟨by dsimp only; omega, by dsimp only; omega⟩, by dsimp only; omega, by dsimp only; omega⟩, by rw [e]; exact cmpQ_flip.symm⟩, by dsimp only; omega⟩
 ·have e := Zv0 hk hd hc
  have e2 : R = 1 := by rw [<-hR, Zvz, e]; rfl
  rw [e2]
  generalize n / d = P at *
  generalize m / k = Q at *
  repeat' (first | refine wk1 ?_ | (refine wk2 ?_ ?_ <;> intro _) | refine wk4 ?_ | fail); all_goals (conv => whnf)
  exact Za rfl
end Go.Proofs.YtdaliaafmcjikaaGreat
