/- A part of the proof: lemmas. -/
import Derived.Test.YtddhjopopelkjaaGreatZw10
set_option linter.unusedVariables false
set_option linter.unusedSimpArgs false
namespace Go.Proofs.YtddhjopopelkjaaGreat
open Go Go.Sx

/-! ### Plain law: a hall, from the next corner on -/
def rot {α : Type} : List α → List α
  | [] => []
  | a :: l => l ++ [a]
theorem rot_length {α : Type} (l : List α) : (rot l).length = l.length := by cases l <;> simp [rot]
theorem rot_mem {α : Type} {l : List α} {a : α} : a ∈ rot l ↔ a ∈ l := by
  cases l with
  | nil => simp [rot]
  | cons b l => simp [rot]; exact Or.comm
theorem rot_any {α : Type} (l : List α) (f : α → Bool) : (rot l).any f = l.any f := by
  cases l with
  | nil => rfl
  | cons b l => simp [rot, Bool.or_comm]
theorem rot_map {α β : Type} (l : List α) (f : α → β) : (rot l).map f = rot (l.map f) := by cases l <;> simp [rot]
theorem rot_get {α : Type} (l : List α) {i : Nat} (hi : i < l.length) : (rot l)[i]? = l[(i + 1) % l.length]? := by
  cases l with
  | nil => simp at hi
  | cons a l =>
    simp only [List.length_cons] at hi ⊢
    unfold rot
    by_cases h : i < l.length
    · rw [List.getElem?_append_left h, Nat.mod_eq_of_lt (by omega), List.getElem?_cons_succ]
    · have : i = l.length := by omega
      subst this
      rw [Nat.mod_self]
      simp
theorem cor_rot {cs : List (Int × Int)} {i : Nat} (hi : i < cs.length) : cor (rot cs) i = cor cs ((i + 1) % cs.length) := by
  have h := rot_get cs hi
  have hj : (i + 1) % cs.length < cs.length := Nat.mod_lt _ (by omega)
  rw [List.getElem?_eq_getElem (by rw [rot_length]; exact hi), List.getElem?_eq_getElem hj] at h
  rw [cor_get (by rw [rot_length]; exact hi), cor_get hj]
  exact Option.some.inj h
theorem ln_rot {cs : List (Int × Int)} {i : Nat} (hi : i < cs.length) : lnOf (rot cs) i = lnOf cs ((i + 1) % cs.length) := by
  have hj : (i + 1) % cs.length < cs.length := Nat.mod_lt _ (by omega)
  unfold lnOf
  rw [rot_length, cor_rot hi, cor_rot hj]
theorem lns_rot (cs : List (Int × Int)) : lns (rot cs) = rot (lns cs) := by
  refine List.ext_getElem? fun i => ?_
  by_cases hi : i < cs.length
  · have hj : (i + 1) % cs.length < cs.length := Nat.mod_lt _ (by omega)
    rw [rot_get _ (by rw [lns_length]; exact hi), lns_length]
    unfold lns
    rw [List.getElem?_map, List.getElem?_map, rot_length, List.getElem?_range hi, List.getElem?_range hj]
    show some _ = some _
    rw [ln_rot hi]
  · rw [List.getElem?_eq_none (by rw [lns_length, rot_length]; omega), List.getElem?_eq_none (by rw [rot_length, lns_length]; omega)]
/-- The area does not ask for the numbers of the walls. -/
def bare (w : Wl) : Wl := ⟨0, w.fx, w.fy, w.tx, w.ty⟩
theorem wls_rot (cs : List (Int × Int)) : (wls (rot cs)).map bare = rot ((wls cs).map bare) := by
  refine List.ext_getElem? fun i => ?_
  by_cases hi : i < cs.length
  · have hj : (i + 1) % cs.length < cs.length := Nat.mod_lt _ (by omega)
    rw [rot_get _ (by rw [List.length_map, wls_length]; exact hi), List.length_map, wls_length]
    unfold wls
    rw [List.getElem?_map, List.getElem?_map, List.getElem?_map, List.getElem?_map, rot_length, List.getElem?_range hi, List.getElem?_range hj]
    show some _ = some _
    unfold wlOf bare
    rw [rot_length, cor_rot hi, cor_rot hj]
  · rw [List.getElem?_eq_none (by rw [List.length_map, wls_length, rot_length]; omega), List.getElem?_eq_none (by rw [rot_length, List.length_map, wls_length]; omega)]
def sumA : List Wl → Int
  | [] => 0
  | w :: l => (w.fx * w.ty - w.tx * w.fy) + sumA l
theorem sumA_append : ∀ (l m : List Wl), sumA (l ++ m) = sumA l + sumA m
  | [], m => by simp [sumA]
  | w :: l, m => by simp [sumA, sumA_append l m]; omega
theorem fold_sumA : ∀ (l : List Wl) (n : Int), IntKind.i64.wrap (l.foldl area2R n) = IntKind.i64.wrap (n + sumA l)
  | [], n => by simp [sumA]
  | w :: l, n => by
    rw [List.foldl_cons, fold_sumA l, sumA]
    unfold area2R
    generalize w.fx * w.ty = a
    generalize w.tx * w.fy = b
    simp only [IntKind.wrap_i64]; omega
theorem area_wrapped : ∀ (l : List Wl) (n : Int), l ≠ [] → IntKind.i64.wrap (l.foldl area2R n) = l.foldl area2R n
  | [], _, h => absurd rfl h
  | [w], n, _ => by
    rw [List.foldl_cons, List.foldl_nil]
    unfold area2R
    simp only [IntKind.wrap_i64]; omega
  | w :: v :: l, n, _ => by rw [List.foldl_cons]; exact area_wrapped (v :: l) _ (by simp)
theorem area_rot {cs : List (Int × Int)} (hn : cs ≠ []) : twAreaR (rot cs) = twAreaR cs := by
  have key : ∀ cs : List (Int × Int), cs ≠ [] → twAreaR cs = IntKind.i64.wrap (0 + sumA ((wls cs).map bare)) := by
    intro cs hn
    have e : ((wls cs).map bare).foldl area2R 0 = (wls cs).foldl area2R 0 := by rw [List.foldl_map]; rfl
    unfold twAreaR
    rw [← e, ← fold_sumA, area_wrapped]
    intro h
    have := congrArg List.length h
    rw [List.length_map, wls_length] at this
    exact hn (List.eq_nil_of_length_eq_zero this)
  have hr : rot cs ≠ [] := by
    intro h
    have := congrArg List.length h
    rw [rot_length] at this
    exact hn (List.eq_nil_of_length_eq_zero this)
  rw [key _ hr, key _ hn, wls_rot]
  cases h : (wls cs).map bare with
  | nil => rfl
  | cons w l =>
    unfold rot
    rw [sumA_append, sumA, sumA, sumA]
    congr 1; omega
theorem inPlR_all {p : Pt} : ∀ (l : List Ln) (b : Bool), inPlR p b l = (!l.any (fun m => m.has p) && (b ^^ xorL (l.map (flipsR p))))
  | [], b => by simp [inPlR, xorL]
  | m :: l, b => by
    rw [inPlR, List.any_cons, List.map_cons, xorL]
    cases h : m.has p with
    | true => simp
    | false =>
      rw [if_neg (by simp), inPlR_all l]
      simp
theorem inPlR_rot (p : Pt) (b : Bool) (l : List Ln) : inPlR p b (rot l) = inPlR p b l := by
  rw [inPlR_all, inPlR_all, rot_any, rot_map]
  congr 2
  cases l.map (flipsR p) with
  | nil => rfl
  | cons a l =>
    unfold rot
    rw [xorL_append, xorL, xorL, xorL]
    cases a <;> cases xorL l <;> rfl
theorem touch_comm (l m : Ln) : l.touch m = m.touch l := by
  unfold Ln.touch
  cases l.has m.a <;> cases l.has m.b <;> cases m.has l.a <;> cases m.has l.b <;> cases decide (IntKind.i64.wrap (sgn (l.beside m.a) * sgn (l.beside m.b)) < 0) <;> cases decide (IntKind.i64.wrap (sgn (m.beside l.a) * sgn (m.beside l.b)) < 0) <;> rfl
theorem simpleR_iff {cs : List (Int × Int)} : simpleR cs = true ↔ ∀ i k, i < k → k < cs.length → okPairR cs cs.length i k = true := by
  simp only [simpleR, outerR, innerR, List.all_eq_true, List.mem_range']
  constructor
  · intro hq i k hik hk
    exact hq i ⟨i, by omega, by omega⟩ k ⟨k - (i + 1), by omega, by omega⟩
  · rintro hq i ⟨a, ha, rfl⟩ k ⟨b, hb, rfl⟩
    exact hq _ _ (by omega) (by omega)
theorem simple_rot {cs : List (Int × Int)} (h3 : 3 ≤ cs.length) (hl : cs.length < 1000) (h : simpleR cs = true) : simpleR (rot cs) = true := by
  rw [simpleR_iff] at h ⊢
  rw [rot_length]
  intro i k hik hk
  have w1 : ∀ j : Nat, j < 1000 → IntKind.i64.wrap ((j : Int) + 1) = (j : Int) + 1 := fun j hj => W_eq (by omega) (by omega)
  have w2 : IntKind.i64.wrap ((cs.length : Int) - 1) = (cs.length : Int) - 1 := W_eq (by omega) (by omega)
  by_cases hk1 : k + 1 < cs.length
  · have := h (i + 1) (k + 1) (by omega) hk1
    unfold okPairR at this ⊢
    rw [ln_rot (by omega), ln_rot hk, Nat.mod_eq_of_lt (by omega), Nat.mod_eq_of_lt hk1]
    rw [w1 _ (by omega), w2] at this ⊢
    have d1 : decide (((k + 1 : Nat) : Int) = ((i + 1 : Nat) : Int) + 1) = decide ((k : Int) = (i : Int) + 1) := by rw [decide_eq_decide]; omega
    have d2 : decide (((i + 1 : Nat) : Int) = 0) = false := decide_eq_false (by omega)
    have d3 : decide ((k : Int) = (cs.length : Int) - 1) = false := decide_eq_false (by omega)
    rw [d1, d2] at this
    rw [d3, Bool.and_false]
    exact this
  · have hkn : k + 1 = cs.length := by omega
    have := h 0 (i + 1) (by omega) (by omega)
    unfold okPairR at this ⊢
    rw [ln_rot (by omega), ln_rot hk, Nat.mod_eq_of_lt (by omega), hkn, Nat.mod_self]
    rw [w1 _ (by omega), w2] at this ⊢
    have d1 : decide (((i + 1 : Nat) : Int) = ((0 : Nat) : Int) + 1) = decide ((i : Int) = 0) := by rw [decide_eq_decide]; omega
    have d2 : decide (((0 : Nat) : Int) = 0) = true := rfl
    have d3 : decide ((k : Int) = (cs.length : Int) - 1) = true := decide_eq_true (by omega)
    have d4 : decide (((i + 1 : Nat) : Int) = (cs.length : Int) - 1) = decide ((k : Int) = (i : Int) + 1) := by rw [decide_eq_decide]; omega
    rw [d1, d2, d4, touch_comm] at this
    rw [d3]
    generalize decide ((i : Int) = 0) = A at *
    generalize decide ((k : Int) = (i : Int) + 1) = B at *
    generalize (lnOf cs (i + 1)).touch (lnOf cs 0) = T at *
    generalize (lnOf cs (i + 1)).has (lnOf cs 0).a = e1 at *
    generalize (lnOf cs (i + 1)).has (lnOf cs 0).b = e2 at *
    generalize (lnOf cs 0).has (lnOf cs (i + 1)).a = e3 at *
    generalize (lnOf cs 0).has (lnOf cs (i + 1)).b = e4 at *
    clear d1 d2 d3 d4
    revert this
    revert A B T e1 e2 e3 e4
    decide
end Go.Proofs.YtddhjopopelkjaaGreat
