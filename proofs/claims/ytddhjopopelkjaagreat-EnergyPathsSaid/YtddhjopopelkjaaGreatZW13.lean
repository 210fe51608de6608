/- A part of the proof: lemmas. -/
import Derived.Test.YtddhjopopelkjaaGreatZW12
set_option linter.unusedVariables false
set_option linter.unusedSimpArgs false
namespace Go.Proofs.YtddhjopopelkjaaGreat
open Go Go.Sx
theorem air_of {a : AV} (h : WTA TT 38 a) : ∃ b c v : Int, a = P3 b c v := by
  obtain ⟨x, m, rfl, hw⟩ := wta_agg (T := TT) (t := 38) h rfl rfl 11
  have h0 := (wt_struct (T := TT) (t := 38) rfl rfl hw).1
  have h0 : x.length = 3 := h0
  match x, h0 with
  | [x0, x1, x2], _ =>
    obtain ⟨i, hi⟩ := wInt (wt_field (T := TT) (t := 38) rfl rfl hw 0 rfl rfl)
    obtain ⟨j, hj⟩ := wInt (wt_field (T := TT) (t := 38) rfl rfl hw 1 rfl rfl)
    obtain ⟨k, hk⟩ := wInt (wt_field (T := TT) (t := 38) rfl rfl hw 2 rfl rfl)
    have hi : [x0] = [I i] := hi
    have hj : [x1] = [I j] := hj
    have hk : [x2] = [I k] := hk
    cases hi; cases hj; cases hk
    exact ⟨i, j, k, rfl⟩
theorem two_of {a : AV} (h : WTA TT 74 a) : ∃ x y, a = P2 x y := by
  obtain ⟨m, zs, hm, ha⟩ := h 4
  have ha : a = .agg zs := ha
  obtain ⟨h1, h2⟩ := wt_array (T := TT) (t := 74) (d := m + 3) rfl rfl rfl hm
  have h1 : zs.length = 2 := h1
  match zs, h1 with
  | [x, y], _ =>
    obtain ⟨p, hp⟩ := wInt (h2 0 (by omega))
    obtain ⟨q, hq⟩ := wInt (h2 1 (by omega))
    have hp : [x] = [I p] := hp
    have hq : [y] = [I q] := hq
    cases hp; cases hq
    exact ⟨p, q, ha⟩
def tysX : List TypeId := [56, 54, 29, 74, 3]
def tysR : List TypeId := [38, 74] ++ tysU
theorem tysROK : tysR.all (suppT (tget tbl) tysR) = true := by kernel_rfl
end Go.Proofs.YtddhjopopelkjaaGreat
