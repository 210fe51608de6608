/- A part of the proof: lemmas. -/
import Derived.Test.YtdaliaafmcjikaaGreatJP3
import Derived.Test.YtdaliaafmcjikaaGreatJT2
import Derived.Test.YtdaliaafmcjikaaGreatJC4
set_option linter.unusedVariables false
set_option linter.unusedSimpArgs false
namespace Go.Proofs.YtdaliaafmcjikaaGreat
open Go Go.Sx
theorem wT69 {d : Nat} {x : List AV} (h : WT TT (d + 2) 69 x) : ∃ p : Tn, x = [I p.1, I p.2] ∧ Tn64 p := by
  obtain ⟨ns, h1, h2, h3⟩ := wt_ints (T := TT) (t := 69) rfl rfl rfl h
  have h2 : ns.length = 2 := h2
  match ns, h2 with
  | [a, b], _ => exact ⟨(a, b), by rw [h1]; rfl, wf_i64 (h3 a (by simp)), wf_i64 (h3 b (by simp))⟩
theorem three_of {a : AV} (h : WTA TT 72 a) : ∃ p q r f t : Tn, a = threeA p q r f t ∧ Tn64 p ∧ Tn64 q ∧ Tn64 r := by
  obtain ⟨x, m, rfl, hw⟩ := wta_agg (T := TT) (t := 72) h rfl rfl 11
  have h0 := (wt_struct (T := TT) (t := 72) rfl rfl hw).1
  have h0 : x.length = 10 := h0
  match x, h0 with
  | [x0, x1, x2, x3, x4, x5, x6, x7, x8, x9], _ =>
    obtain ⟨p, hp, gp⟩ := wT69 (wt_field (T := TT) (t := 72) rfl rfl hw 0 rfl rfl)
    obtain ⟨q, hq, gq⟩ := wT69 (wt_field (T := TT) (t := 72) rfl rfl hw 1 rfl rfl)
    obtain ⟨r, hr, gr⟩ := wT69 (wt_field (T := TT) (t := 72) rfl rfl hw 2 rfl rfl)
    obtain ⟨f, hf⟩ := wP2 (wt_field (T := TT) (t := 72) rfl rfl hw 3 rfl rfl)
    obtain ⟨t, ht⟩ := wP2 (wt_field (T := TT) (t := 72) rfl rfl hw 4 rfl rfl)
    have hp : [x0, x1] = [I p.1, I p.2] := hp
    have hq : [x2, x3] = [I q.1, I q.2] := hq
    have hr : [x4, x5] = [I r.1, I r.2] := hr
    have hf : [x6, x7] = [I f.1, I f.2] := hf
    have ht : [x8, x9] = [I t.1, I t.2] := ht
    cases hp; cases hq; cases hr; cases hf; cases ht
    exact ⟨p, q, r, f, t, rfl, gp, gq, gr⟩
def tysT : List TypeId := [72, 69, 70, 3]
theorem tysTOK : tysT.all (suppT (tget tbl) tysT) = true := by kernel_rfl
end Go.Proofs.YtdaliaafmcjikaaGreat
