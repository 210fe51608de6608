/- A part of the proof: lemmas. -/
import Derived.Test.YtdaliaafmcjikaaGreatJE1
set_option linter.unusedVariables false
set_option linter.unusedSimpArgs false
namespace Go.Proofs.YtdaliaafmcjikaaGreat
open Go Go.Sx
/-! ### Errors of asks -/
structure Ask where
  fx : Int
  fy : Int
  fz : Int
  tx : Int
  ty : Int
  tz : Int
  n : Int
abbrev Ask.av (a : Ask) : AV := .agg [I a.fx, I a.fy, I a.fz, I a.tx, I a.ty, I a.tz, I a.n]
def Ask.same (a : Ask) : Bool := decide (a.fx = a.tx) && (decide (a.fy = a.ty) && decide (a.fz = a.tz))
def askE (h : Hal) (s : Stg) (a : Ask) : Int := if serr h s = 0 then fstL [plaE h a.fx a.fy a.fz, plaE h a.tx a.ty a.tz, unl (!a.same) 11, unl (within a.n 0 4) 2] else serr h s
theorem serr_herr {h : Hal} {s : Stg} (e : serr h s = 0) : h.err = 0 := by
  unfold serr at e
  split at e
  · assumption
  · rename_i q; exact absurd e q
def r80 : List AV → Option PRes
  | [.bool b, .int .i64 e] => some ⟨I (unl b e), []⟩
  | _ => none
theorem r80_ok {pt : PC} (h : PCOK Tryz.prog pt) : PCOK Tryz.prog (ins 80 r80 pt) := ins_ok (fun a res h => by unfold r80 at h; split at h <;> cases h; exact d209 _ _) h
noncomputable abbrev r79 (h : Hal) : List AV → Option PRes := famA (fun _ : Pl3 => True) (fun p => [h.av, P3 p.1 p.2.1 p.2.2]) (fun p => ⟨I (plaE h p.1 p.2.1 p.2.2), []⟩)
theorem r79_ok {h : Hal} (hk : h.ok) (he : h.err = 0) {pt : PC} (hp : PCOK Tryz.prog pt) : PCOK Tryz.prog (ins 79 (r79 h) pt) := famA_ok (fun p _ => d79 hk he p.1 p.2.1 p.2.2) hp
theorem r79_hit (h : Hal) (x y z : Int) : r79 h [h.av, P3 x y z] = some ⟨I (plaE h x y z), []⟩ :=
  famA_hit (p := fun _ : Pl3 => True) (g := fun p => [h.av, P3 p.1 p.2.1 p.2.2]) (r := fun p => ⟨I (plaE h p.1 p.2.1 p.2.2), []⟩) (k := (x, y, z)) (fun j hj => by
    simp only [List.cons.injEq, AV.agg.injEq, AV.int.injEq, true_and, and_true] at hj
    obtain ⟨h1, h2, h3⟩ := hj
    rw [h1, h2, h3]) trivial
theorem r27_ok {h : Hal} (hk : h.ok) (he : h.err = 0) {pt : PC} (hp : PCOK Tryz.prog pt) : PCOK Tryz.prog (ins 27 (r79 h) pt) := famA_ok (fun p _ => d27 hk he p.1 p.2.1 p.2.2) hp
noncomputable abbrev rFst : List AV → Option PRes := famA (fun l : List Int => l.length < 1000) (fun l => [.isl 1 (nl l)]) (fun l => ⟨I (fstL l), []⟩)
theorem rFst_ok {pt : PC} (hp : PCOK Tryz.prog pt) : PCOK Tryz.prog (ins 78 rFst pt) := famA_ok (fun l hl => d78 hl) hp
theorem rFst_hit {l : List Int} (h : l.length < 1000) : rFst [.isl 1 (nl l)] = some ⟨I (fstL l), []⟩ :=
  famA_hit (p := fun l : List Int => l.length < 1000) (g := fun l => [.isl 1 (nl l)]) (r := fun l => ⟨I (fstL l), []⟩) (fun j hj => by
    simp only [List.cons.injEq, AV.isl.injEq, true_and, and_true] at hj
    rw [nl_inj hj]) h
set_option maxRecDepth 100000 in
set_option maxHeartbeats 8000000 in
theorem d24 {h : Hal} (hk : h.ok) {s : Stg} (hs : s.few) (a : Ask) : PCall Tryz.prog 24 [h.av, s.av, a.av] ⟨I (askE h s a), []⟩ := by
  have hk0 := one_ok (c47 hk hs) pt0_ok
  by_cases e : serr h s = 0
  · have he := serr_herr e
    obtain ⟨fx, fy, fz, tx, ty, tz, n⟩ := a
    unfold askE
    rw [if_pos e]
    rw [e] at hk0
    dsimp only
    have hk1 := r79_ok hk he (r80_ok (one_ok (d81 n) (rFst_ok hk0)))
    have q1 := r79_hit h fx fy fz
    have q2 := r79_hit h tx ty tz
    refine bs.pv (sx := nos) hk1 Tryz.func24 (by kernel_rfl) (by kernel_rfl) rfl ?_
    repeat' (first | refine wk3 ?_ | (refine wk2 ?_ ?_ <;> intro _) | refine wk4 ?_ | fail); all_goals (conv => whnf)
    refine wxG (rFst_hit (l := [_, _, _, _]) (by simp)) ?_
    conv => whnf
    repeat' (first | refine wk3 ?_ | (refine wk2 ?_ ?_ <;> intro _) | refine wk4 ?_ | fail); all_goals (conv => whnf)
    exact ret_int (by simp [Ask.same])
  · rw [show askE h s a = serr h s by unfold askE; rw [if_neg e]]
    refine bs.pv (sx := nos) hk0 Tryz.func24 (by kernel_rfl) (by kernel_rfl) rfl ?_
    repeat' (first | refine wk3 ?_ | (refine wk2 ?_ ?_ <;> intro _) | refine wk4 ?_ | fail); all_goals (conv => whnf)
    all_goals first
      | exact ret_int rfl
      | (exfalso; simp_all; done)
end Go.Proofs.YtdaliaafmcjikaaGreat
