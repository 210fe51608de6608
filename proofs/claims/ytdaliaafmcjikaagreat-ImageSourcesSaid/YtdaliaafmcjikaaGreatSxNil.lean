/- A part of the proof: lemmas. -/
import Derived.Test.YtdaliaafmcjikaaGreatZx6
set_option linter.unusedVariables false
set_option linter.unusedSimpArgs false
namespace Go.Sx
open Go Go.RowKit

/-! ### A nil list for an empty one -/
section
variable {P : Program} {r : Locs} {I : Imm} {w : World} {D : Nat → Prop}
def NS (a b : AV) : Prop := a = b ∨ (a = .nils ∧ ∃ es, b = .isl es [])
theorem NS.vr {a b : AV} (h : NS a b) {v : Value} (hv : VR r I w D a v) : VR r I w D b v := by
  rcases h with rfl | ⟨rfl, es, rfl⟩
  · exact hv
  · cases hv; exact .isl0 _ _ _ _
def NSL : List AV → List AV → Prop
  | [], [] => True
  | a :: l, b :: m => NS a b ∧ NSL l m
  | _, _ => False
theorem NSL.get : ∀ {l m : List AV}, NSL l m → l.length = m.length ∧ ∀ (i : Nat) (b : AV), m[i]? = some b → ∃ a, l[i]? = some a ∧ NS a b
  | [], [], _ => ⟨rfl, fun i b h => by simp at h⟩
  | a :: l, b :: m, h => by
    simp only [NSL] at h
    obtain ⟨h1, h2⟩ := NSL.get h.2
    refine ⟨by simp [h1], fun i b' hi => ?_⟩
    cases i with
    | zero => simp at hi; subst hi; exact ⟨a, rfl, h.1⟩
    | succ i => simpa using h2 i b' (by simpa using hi)
  | [], _ :: _, h => by simp [NSL] at h
  | _ :: _, [], h => by simp [NSL] at h
theorem NSL.vr {l m : List AV} (h : NSL l m) {v : Value} (hv : VR r I w D (.agg l) v) : VR r I w D (.agg m) v := by
  obtain ⟨h1, h2⟩ := h.get
  cases hv with
  | agg _ _ vs h0 g =>
    refine .agg _ _ _ (h0.trans h1) fun i c x hc hx => ?_
    obtain ⟨a, ha, hn⟩ := h2 i c hc
    exact hn.vr (g i a x ha hx)
/-- The same, of an argument: itself, or its fields. -/
def NA (a b : AV) : Prop := NS a b ∨ ∃ l m, a = .agg l ∧ b = .agg m ∧ NSL l m
theorem NA.vr {a b : AV} (h : NA a b) {v : Value} (hv : VR r I w D a v) : VR r I w D b v := by
  rcases h with h | ⟨l, m, rfl, rfl, h⟩
  · exact h.vr hv
  · exact h.vr hv
theorem NA.rfl {a : AV} : NA a a := .inl (.inl _root_.rfl)
def NAL : List AV → List AV → Prop
  | [], [] => True
  | a :: l, b :: m => NA a b ∧ NAL l m
  | _, _ => False
theorem NAL.get : ∀ {l m : List AV}, NAL l m → l.length = m.length ∧ ∀ (i : Nat) (b : AV), m[i]? = some b → ∃ a, l[i]? = some a ∧ NA a b
  | [], [], _ => ⟨_root_.rfl, fun i b h => by simp at h⟩
  | a :: l, b :: m, h => by
    simp only [NAL] at h
    obtain ⟨h1, h2⟩ := NAL.get h.2
    refine ⟨by simp [h1], fun i b' hi => ?_⟩
    cases i with
    | zero => simp at hi; subst hi; exact ⟨a, _root_.rfl, h.1⟩
    | succ i => simpa using h2 i b' (by simpa using hi)
  | [], _ :: _, h => by simp [NAL] at h
  | _ :: _, [], h => by simp [NAL] at h
theorem PCall.nilArgs {f : FuncId} {l m : List AV} {res : PRes} (h : PCall P f m res) (hn : NAL l m) : PCall P f l res := by
  obtain ⟨h1, h2⟩ := hn.get
  refine ⟨h.1, fun I w vs hI hv => h.2 I w vs hI ⟨hv.1.trans h1, fun i c v hc hv' => ?_⟩⟩
  obtain ⟨a, ha, hn⟩ := h2 i c hc
  exact hn.vr (hv.2 i a v ha hv')
end
end Go.Sx
