/- A part of the proof: lemmas. -/
import Derived.Test.YtdaliaafmcjikaaGreatJW7
import Derived.Test.YtdaliaafmcjikaaGreatJC4
set_option linter.unusedVariables false
set_option linter.unusedSimpArgs false
namespace Go.Proofs.YtdaliaafmcjikaaGreat
open Go Go.Sx
theorem wPth {d : Nat} {x : List AV} (hw : WT TT (d + 12) 42 x) : ∃ p : Pth, x = pv p := by
  have h0 := (wt_struct (T := TT) (t := 42) rfl rfl hw).1
  have h0 : x.length = 3 := h0
  match x, h0 with
  | [x0, x1, x2], _ =>
    obtain ⟨l, hl⟩ := wInts (wt_field (T := TT) (t := 42) rfl rfl hw 0 rfl rfl)
    obtain ⟨e5, h5, _, g5⟩ := wt_slice (T := TT) (t := 40) rfl rfl rfl (wt_field (T := TT) (t := 42) rfl rfl hw 1 rfl rfl)
    obtain ⟨l5, k5, _⟩ := wList (f := hp4) (P := fun _ => True) (fun x hx => (wP4 hx).imp fun p hp => ⟨hp, trivial⟩) e5 g5
    obtain ⟨n, hn⟩ := wInt (wt_field (T := TT) (t := 42) rfl rfl hw 2 rfl rfl)
    have hl : [x0] = [.isl 1 (nl l)] := hl
    have h5 : [x1] = [.isl 4 e5] := h5
    have hn : [x2] = [I n] := hn
    cases hl; cases h5; cases hn
    exact ⟨⟨l, l5, n⟩, by rw [k5]⟩
theorem paths_of {a : AV} (h : WTA TT 102 a) : ∃ l : List Pth, a = .isl 3 (l.map pv) := by
  obtain ⟨m, zs, hm, ha⟩ := h 13
  have ha : zs = [a] := ha
  obtain ⟨els, h1, _, h3⟩ := wt_slice (T := TT) (t := 102) (d := m + 12) rfl rfl rfl hm
  obtain ⟨l, hl, _⟩ := wList (f := pv) (P := fun _ => True) (Q := fun x => WT TT (m + 12) 42 x) (fun x hx => (wPth hx).imp fun p hp => ⟨hp, trivial⟩) els h3
  rw [ha] at h1
  have h1 : [a] = [.isl 3 els] := h1
  cases h1
  exact ⟨l, by rw [hl]⟩
def tysL : List TypeId := 102 :: tysD
theorem tysLOK : tysL.all (suppT (tget tbl) tysL) = true := by kernel_rfl
end Go.Proofs.YtdaliaafmcjikaaGreat
