/- A part of the proof: lemmas. -/
import Derived.Test.YtdaliaafmcjikaaGreatJA6
set_option linter.unusedVariables false
set_option linter.unusedSimpArgs false
namespace Go.Proofs.YtdaliaafmcjikaaGreat
open Go Go.Sx
/-! ### The law of delays -/
theorem hp_inj {a b : List Pt4} (h : a.map hp4 = b.map hp4) : a = b := by
  refine (List.map_inj_right (fun x y hxy => ?_)).1 h
  obtain ⟨x1, x2, x3, x4⟩ := x
  obtain ⟨y1, y2, y3, y4⟩ := y
  simpa using hxy
theorem pav_inj {a b : Pth} (h : a.av = b.av) : a = b := by
  obtain ⟨a1, a2, a3⟩ := a
  obtain ⟨b1, b2, b3⟩ := b
  simp only [AV.agg.injEq, List.cons.injEq, AV.isl.injEq, AV.int.injEq, true_and, and_true] at h
  rw [nl_inj h.1, hp_inj h.2.1, h.2.2]
noncomputable def famP (r : Pth → PRes) : List AV → Option PRes := famA (fun _ : Pth => True) (fun p => [p.av]) r
theorem famP_hit (r : Pth → PRes) (p : Pth) : famP r [p.av] = some (r p) :=
  famA_hit (p := fun _ : Pth => True) (g := fun p => [p.av]) (fun j hj => by
    simp only [List.cons.injEq, and_true] at hj
    rw [pav_inj hj]) trivial
abbrev zPth : Pth := ⟨[], [], 0⟩
abbrev zAV : AV := .agg [.nils, .nils, I 0]
noncomputable def r20 : List AV → Option PRes := famA (fun q : Pth × Option Pth => q.1.ss.length < 1000000 ∧ q.1.ps.length < 1000000 ∧ match q.2 with
  | some b => b.ss.length < 1000000 ∧ b.ps.length < 1000000
  | none => True) (fun q => match q.2 with
  | some b => [q.1.av, b.av]
  | none => [q.1.av, zAV]) (fun q => match q.2 with
  | some b => ⟨Bo (same q.1 b), []⟩
  | none => ⟨Bo (same q.1 zPth), []⟩)
theorem r20_ok {pt : PC} (h : PCOK Tryz.prog pt) : PCOK Tryz.prog (ins 20 r20 pt) := by
  refine famA_ok (fun q hq => ?_) h
  obtain ⟨a, b⟩ := q
  cases b with
  | some b => exact d20 hq.1 hq.2.2.1 hq.2.1 hq.2.2.2
  | none =>
    refine (d20 (a := a) (b := zPth) hq.1 (by simp) hq.2.1 (by simp)).nilArgs ?_
    exact ⟨NA.rfl, .inr ⟨_, _, rfl, rfl, .inr ⟨rfl, _, rfl⟩, .inr ⟨rfl, _, rfl⟩, .inl rfl, trivial⟩, trivial⟩
theorem av_nz {b : Pth} (h : b.av = zAV) : False := by
  simp only [AV.agg.injEq, List.cons.injEq] at h
  cases h.1
theorem same_hit {a b : Pth} (h1 : a.ss.length < 1000000) (h2 : a.ps.length < 1000000) (h3 : b.ss.length < 1000000) (h4 : b.ps.length < 1000000) : r20 [a.av, b.av] = some ⟨Bo (same a b), []⟩ :=
  famA_hit (k := (a, some b)) (g := fun q : Pth × Option Pth => match q.2 with
  | some b => [q.1.av, b.av]
  | none => [q.1.av, zAV]) (fun j hj => by
    obtain ⟨x, y⟩ := j
    cases y with
    | some y =>
      simp only [List.cons.injEq, and_true] at hj
      dsimp only
      rw [pav_inj hj.1, pav_inj hj.2]
    | none =>
      simp only [List.cons.injEq, and_true] at hj
      exact (av_nz hj.2.symm).elim) ⟨h1, h2, h3, h4⟩
theorem same_hit0 {a : Pth} (h1 : a.ss.length < 1000000) (h2 : a.ps.length < 1000000) : r20 [a.av, zAV] = some ⟨Bo (same a zPth), []⟩ :=
  famA_hit (k := (a, none)) (g := fun q : Pth × Option Pth => match q.2 with
  | some b => [q.1.av, b.av]
  | none => [q.1.av, zAV]) (fun j hj => by
    obtain ⟨x, y⟩ := j
    cases y with
    | some y =>
      simp only [List.cons.injEq, and_true] at hj
      exact (av_nz hj.2).elim
    | none =>
      simp only [List.cons.injEq, and_true] at hj
      dsimp only
      rw [pav_inj hj]) ⟨h1, h2, trivial⟩
def r12 : List AV → Option PRes
  | [] => some ⟨Bo true, []⟩
  | _ => none
def rSp : List AV → Option PRes
  | [.int .i64 n] => some ⟨I (spE n), []⟩
  | _ => none
end Go.Proofs.YtdaliaafmcjikaaGreat
