/- A part of the proof: lemmas. -/
import Derived.Test.YtdaliaafmcjikaaGreatZw10
import Derived.Test.YtdaliaafmcjikaaGreatJA8
set_option linter.unusedVariables false
set_option linter.unusedSimpArgs false
namespace Go.Proofs.YtdaliaafmcjikaaGreat
open Go Go.Sx
theorem wP4 {d : Nat} {x : List AV} (h : WT TT (d + 2) 59 x) : ∃ p : Int × Int × Int × Int, x = hp4 p := by
  obtain ⟨ns, h1, h2, _⟩ := wt_ints (T := TT) (t := 59) rfl rfl rfl h
  have h2 : ns.length = 4 := h2
  match ns, h2 with
  | [a, b, c, e], _ => exact ⟨(a, b, c, e), by rw [h1]; rfl⟩
theorem path_of {a : AV} (h : WTA TT 42 a) : ∃ p : Pth, a = p.av := by
  obtain ⟨x, m, rfl, hw⟩ := wta_agg (T := TT) (t := 42) h rfl rfl 11
  have h0 := (wt_struct (T := TT) (t := 42) rfl rfl hw).1
  have h0 : x.length = 3 := h0
  match x, h0 with
  | [x0, x1, x2], _ =>
    obtain ⟨l, hl⟩ := wInts (wt_field (T := TT) (t := 42) rfl rfl hw 0 rfl rfl)
    obtain ⟨e5, h5, _, g5⟩ := wt_slice (T := TT) (t := 40) rfl rfl rfl (wt_field (T := TT) (t := 42) rfl rfl hw 1 rfl rfl)
    obtain ⟨l5, k5, _⟩ := wList (f := hp4) (P := fun _ => True) (fun x hx => (wP4 hx).imp fun p hp => ⟨hp, trivial⟩) e5 g5
    obtain ⟨n, hn⟩ := wInt (wt_field (T := TT) (t := 42) rfl rfl hw 2 rfl rfl)
    have hl : [x0] = [.isl 1 (nl l)] := hl
    have h5 : [x1] = [.isl 4 e5] := h5
    have hn : [x2] = [I n] := hn
    cases hl; cases h5; cases hn
    exact ⟨⟨l, l5, n⟩, by rw [k5]⟩
theorem air_of {a : AV} (h : WTA TT 87 a) : ∃ b c v : Int, a = P3 b c v := by
  obtain ⟨x, m, rfl, hw⟩ := wta_agg (T := TT) (t := 87) h rfl rfl 11
  have h0 := (wt_struct (T := TT) (t := 87) rfl rfl hw).1
  have h0 : x.length = 3 := h0
  match x, h0 with
  | [x0, x1, x2], _ =>
    obtain ⟨i, hi⟩ := wInt (wt_field (T := TT) (t := 87) rfl rfl hw 0 rfl rfl)
    obtain ⟨j, hj⟩ := wInt (wt_field (T := TT) (t := 87) rfl rfl hw 1 rfl rfl)
    obtain ⟨k, hk⟩ := wInt (wt_field (T := TT) (t := 87) rfl rfl hw 2 rfl rfl)
    have hi : [x0] = [I i] := hi
    have hj : [x1] = [I j] := hj
    have hk : [x2] = [I k] := hk
    cases hi; cases hj; cases hk
    exact ⟨i, j, k, rfl⟩
end Go.Proofs.YtdaliaafmcjikaaGreat
