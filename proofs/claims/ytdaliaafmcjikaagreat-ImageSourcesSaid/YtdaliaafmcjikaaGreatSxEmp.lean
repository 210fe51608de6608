/- A part of the proof: lemmas. -/
import Derived.Test.YtdaliaafmcjikaaGreatZx6
import Derived.TacticsIn
set_option linter.unusedVariables false
set_option linter.unusedSimpArgs false
namespace Go.Sx
open Go Go.RowKit
variable {P : Program}
/-! ### An empty list is handed back for an empty one, nil or not -/
theorem below_alloc (w : World) (o : Obj) : Below w.heap.size w (w.alloc o) := ⟨rfl, rfl, rfl, by simp, fun _ hk => heap_alloc_old w o hk⟩
theorem pcall_emp {f : FuncId} {es : Nat} (hfn : FnOK P f) (h : ∀ (a : Option Addr) (cap : Nat) (w : World), Calls P f #[.slice a 0 cap] w fun e w' => ∃ a' cap', e = .returned (.slice a' 0 cap') ∧ Below w.heap.size w w') : PCall P f [.isl es []] ⟨.isl es [], []⟩ := by
  refine ⟨hfn, fun I w vs hI hv => ?_⟩
  obtain ⟨hs, hc⟩ := hv
  have hs : vs.size = 1 := hs
  obtain ⟨v0, rfl⟩ : ∃ v0, vs = #[v0] := ⟨vs[0], by
    apply Array.ext
    · simp [hs]
    · intro i h1 h2
      have : i = 0 := by omega
      subst this; rfl⟩
  have h0 := hc 0 _ v0 rfl rfl
  obtain ⟨a, cap, rfl⟩ : ∃ a cap, v0 = .slice a 0 cap := by
    cases h0 with
    | isl0 => exact ⟨_, _, rfl⟩
    | isl => exact ⟨_, _, rfl⟩
  refine (callsIn_wide.2 (h a cap w)).mono fun e w' ⟨a', cap', he, hb⟩ => ⟨_, r0, I, he, hb, fun _ _ h => h, fun _ _ h => .inl h, fun b o h => Nat.lt_of_lt_of_le (hI b o h) hb.size, fun j p hj => by simp at hj, fun j j' h1 => by simp at h1, .isl0 _ _ _ _⟩
end Go.Sx
