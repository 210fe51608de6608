/- A part of the proof: lemmas. -/
import Derived.Test.YtddhjopopelkjaaGreatLw8
import Derived.Test.YtddhjopopelkjaaGreatYX3
set_option linter.unusedVariables false
set_option linter.unusedSimpArgs false
namespace Go.Proofs.YtddhjopopelkjaaGreat
open Go Go.Sx Go.En
theorem wRows {d : Nat} {x : List AV} (h : WT TT (d + 3) 54 x) : ∃ rows : List (List Int), x = [.isl 1 (rows.map rv)] := by
  obtain ⟨els, h1, _, h3⟩ := wt_slice (T := TT) (t := 54) rfl rfl rfl h
  obtain ⟨l, hl, _⟩ := wList (f := rv) (P := fun _ => True) (Q := fun x => WT TT (d + 2) 29 x) (fun x hx => (wInts hx).imp fun p hp => ⟨hp, trivial⟩) els h3
  exact ⟨l, by rw [← hl]; exact h1⟩
theorem wEx {d : Nat} {x : List AV} (h : WT TT (d + 4) 56 x) : ∃ (rows : List (List Int)) (ls : List Int), x = [.isl 1 (rows.map rv), .isl 1 (nl ls)] := by
  have h0 := (wt_struct (T := TT) (t := 56) rfl rfl h).1
  have h0 : x.length = 2 := h0
  match x, h0 with
  | [x0, x1], _ =>
    obtain ⟨rows, h1⟩ := wRows (wt_field (T := TT) (t := 56) rfl rfl h 0 rfl rfl)
    obtain ⟨ls, h2⟩ := wInts (wt_field (T := TT) (t := 56) rfl rfl h 1 rfl rfl)
    have h1 : [x0] = [.isl 1 (rows.map rv)] := h1
    have h2 : [x1] = [.isl 1 (nl ls)] := h2
    cases h1; cases h2
    exact ⟨rows, ls, rfl⟩
theorem ex_of {a : AV} (h : WTA TT 56 a) : ∃ (rows : List (List Int)) (ls : List Int), a = exA rows ls := by
  obtain ⟨x, m, rfl, hw⟩ := wta_agg (T := TT) (t := 56) h rfl rfl 3
  obtain ⟨rows, ls, rfl⟩ := wEx hw
  exact ⟨rows, ls, rfl⟩
theorem ints_of {a : AV} (h : WTA TT 29 a) : ∃ ns : List Int, a = .isl 1 (nl ns) := by
  obtain ⟨m, zs, hm, ha⟩ := h 3
  have ha : zs = [a] := ha
  obtain ⟨ns, h1⟩ := wInts (d := m + 1) hm
  rw [ha] at h1
  cases h1
  exact ⟨ns, rfl⟩
theorem int_of {a : AV} (h : WTA TT 3 a) : ∃ n, a = I n := by
  obtain ⟨n, h1, _⟩ := wta_int (T := TT) (t := 3) h rfl rfl
  exact ⟨n, h1⟩
theorem two_of {a : AV} (h : WTA TT 74 a) : ∃ x y, a = P2 x y := by
  obtain ⟨m, zs, hm, ha⟩ := h 4
  have ha : a = .agg zs := ha
  obtain ⟨h1, h2⟩ := wt_array (T := TT) (t := 74) (d := m + 3) rfl rfl rfl hm
  have h1 : zs.length = 2 := h1
  match zs, h1 with
  | [x, y], _ =>
    obtain ⟨p, hp⟩ := wInt (h2 0 (by omega))
    obtain ⟨q, hq⟩ := wInt (h2 1 (by omega))
    have hp : [x] = [I p] := hp
    have hq : [y] = [I q] := hq
    cases hp; cases hq
    exact ⟨p, q, ha⟩
def tysX : List TypeId := [56, 54, 29, 74, 3]
theorem tysXOK : tysX.all (suppT (tget tbl) tysX) = true := by kernel_rfl
end Go.Proofs.YtddhjopopelkjaaGreat
