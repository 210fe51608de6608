/- A part of the proof: lemmas. -/
import Derived.Test.YtdaliaafmcjikaaGreatJA2
import Derived.Test.YtdaliaafmcjikaaGreatSxEmp
import Derived.Test.YtdaliaafmcjikaaGreatKV0
set_option linter.unusedVariables false
set_option linter.unusedSimpArgs false
namespace Go.Proofs.YtdaliaafmcjikaaGreat
open Go Go.Sx
/-! ### A list that is turned round in place -/
def swG {α : Type} (d : α) (l : List α) (i j : Nat) : List α := (l.set i (l.getD j d)).set j (l.getD i d)
theorem swG_length {α : Type} (d : α) (l : List α) (i j : Nat) : (swG d l i j).length = l.length := by simp [swG]
theorem getG_set {α : Type} {d : α} {l : List α} {i j : Nat} {x : α} (hi : i < l.length) : (l.set i x).getD j d = if i = j then x else l.getD j d := by
  rw [List.getD_eq_getElem?_getD, List.getD_eq_getElem?_getD, List.getElem?_set]
  by_cases e : i = j
  · subst e; simp [hi]
  · simp [e]
structure RevG {α : Type} (d : α) (o l : List α) (k : Nat) : Prop where
  len : l.length = o.length
  vl : ∀ j, j < o.length → l.getD j d = if j < k ∨ o.length ≤ j + k then o.getD (o.length - 1 - j) d else o.getD j d
theorem RevG.zero {α : Type} (d : α) (o : List α) : RevG d o o 0 := ⟨rfl, fun j hj => by rw [if_neg (by omega)]⟩
theorem RevG.succ {α : Type} {d : α} {o l : List α} {k : Nat} (h : RevG d o l k) (hk : k + k + 1 < o.length) : RevG d o (swG d l k (o.length - 1 - k)) (k + 1) := by
  refine ⟨by rw [swG_length, h.len], fun j hj => ?_⟩
  have h1 := h.vl k (by omega)
  have h2 := h.vl (o.length - 1 - k) (by omega)
  have h3 := h.vl j hj
  rw [if_neg (by omega)] at h1 h2
  unfold swG
  rw [getG_set (by rw [List.length_set, h.len]; omega), getG_set (by rw [h.len]; omega), h1, h2, h3]
  by_cases e1 : o.length - 1 - k = j
  · subst e1
    rw [if_pos rfl, if_pos (by omega)]
    congr 1; omega
  · rw [if_neg e1]
    by_cases e2 : k = j
    · subst e2
      rw [if_pos rfl, if_pos (by omega)]
    · rw [if_neg e2]
      by_cases e3 : j < k ∨ o.length ≤ j + k
      · rw [if_pos e3, if_pos (by omega)]
      · rw [if_neg e3, if_neg (by omega)]
theorem RevG.fin {α : Type} {d : α} {o l : List α} {k : Nat} (h : RevG d o l k) (hk : o.length ≤ k + k + 1) : l = o.reverse := by
  refine List.ext_getElem (by rw [List.length_reverse, h.len]) fun j h1 h2 => ?_
  have h3 := h.vl j (by rw [← h.len]; exact h1)
  have hj : j < o.length := by rw [← h.len]; exact h1
  rw [List.getD_eq_getElem?_getD, List.getElem?_eq_getElem h1] at h3
  rw [List.getElem_reverse]
  have h4 : l[j] = if j < k ∨ o.length ≤ j + k then o.getD (o.length - 1 - j) d else o.getD j d := h3
  rw [h4]
  by_cases e : j < k ∨ o.length ≤ j + k
  · rw [if_pos e, List.getD_eq_getElem?_getD, List.getElem?_eq_getElem (by omega)]; rfl
  · rw [if_neg e, List.getD_eq_getElem?_getD, List.getElem?_eq_getElem hj]
    have : o.length - 1 - j = j := by omega
    simp only [this]; rfl
theorem mapG_get {α : Type} {d : α} {f : α → List AV} {l : List α} {j : Nat} (h : j < l.length) : (l.map f)[j]? = some (f (l.getD j d)) := by
  rw [List.getD_eq_getElem?_getD, List.getElem?_eq_getElem h]
  simp [h]
theorem mapG_set {α : Type} (f : α → List AV) (l : List α) (j : Nat) (x : α) : (l.map f).set j (f x) = (l.set j x).map f := by simp [List.map_set]
theorem mapG_sw {α : Type} {d : α} (f : α → List AV) (l : List α) (i j : Nat) : ((l.map f).set i (f (l.getD j d))).set j (f (l.getD i d)) = (swG d l i j).map f := by rw [mapG_set, mapG_set]; rfl
/-! ### Clones -/
def one1 (n : Int) : List AV := [I n]
theorem nl_map (ns : List Int) : nl ns = ns.map one1 := rfl
theorem d103 {ns : List Int} (h0 : 0 < ns.length) (hl : ns.length < 100000) : PCall Tryz.prog 103 [.isl 1 (nl ns)] ⟨.asl 0 0 (nl ns).length, [(1, nl ns)]⟩ := by
  obtain ⟨x, l, rfl⟩ := List.exists_cons_of_length_pos h0
  have h1 := oneEls_nl (x :: l)
  have h2 := nl_length (x :: l)
  refine bs.pv (sx := nos) pt0_ok Tryz.func103 (by kernel_rfl) (by kernel_rfl) rfl ?_
  repeat' (first | refine wk3 ?_ | (refine wk2 ?_ ?_ <;> intro _) | refine wk4 ?_ | fail); all_goals (conv => whnf)
  refine ret_rows [1] rfl ?_ rfl
  show AV.asl 1 0 (0 + (nl (x :: l)).length) = AV.asl 1 0 (nl (x :: l)).length
  rw [Nat.zero_add]
set_option maxRecDepth 100000 in
set_option maxHeartbeats 4000000 in
theorem w103 (a : Option Addr) (cap : Nat) (w : World) : Calls Tryz.prog 103 #[.slice a 0 cap] w fun e w' => ∃ a' cap', e = .returned (.slice a' 0 cap') ∧ RowKit.Below w.heap.size w w' := by
  have e : ∀ w : World, Sem.run Tryz.prog (binOp BinOp.eql 29 (Value.slice a 0 cap) (Value.slice none 0 0)) w = .ok (.bool a.isNone) w := by
    intro w
    cases a <;> rfl
  cases a with
  | none =>
    simp only [Option.isNone] at e
    go_enter Tryz.func103, Tryz.ntmps103
    go_wp2
    go_ret
    exact ⟨_, _, rfl, RowKit.Below.refl _ _⟩
  | some a =>
    simp only [Option.isNone] at e
    go_enter Tryz.func103, Tryz.ntmps103
    go_wp2
    go_ret
    exact ⟨_, _, rfl, below_alloc _ _⟩
theorem d103e : PCall Tryz.prog 103 [.isl 1 []] ⟨.isl 1 [], []⟩ := pcall_emp (FnOK.of Tryz.func103 (by kernel_rfl) (by kernel_rfl)) w103
theorem oneEls_hp (l : List (Int × Int × Int × Int)) : oneEls (l.map hp4) = true := by simp [oneEls, AV.one]
theorem d104 {ps : List (Int × Int × Int × Int)} (h0 : 0 < ps.length) (hl : ps.length < 100000) : PCall Tryz.prog 104 [.isl 4 (ps.map hp4)] ⟨.asl 0 0 (ps.map hp4).length, [(4, ps.map hp4)]⟩ := by
  obtain ⟨x, l, rfl⟩ := List.exists_cons_of_length_pos h0
  have h1 := oneEls_hp (x :: l)
  have h2 : ((x :: l).map hp4).length = (x :: l).length := by simp
  refine bs.pv (sx := nos) pt0_ok Tryz.func104 (by kernel_rfl) (by kernel_rfl) rfl ?_
  repeat' (first | refine wk3 ?_ | (refine wk2 ?_ ?_ <;> intro _) | refine wk4 ?_ | fail); all_goals (conv => whnf)
  refine ret_rows [1] rfl ?_ rfl
  show AV.asl 1 0 (0 + ((x :: l).map hp4).length) = AV.asl 1 0 ((x :: l).map hp4).length
  rw [Nat.zero_add]
set_option maxRecDepth 100000 in
set_option maxHeartbeats 4000000 in
theorem w104 (a : Option Addr) (cap : Nat) (w : World) : Calls Tryz.prog 104 #[.slice a 0 cap] w fun e w' => ∃ a' cap', e = .returned (.slice a' 0 cap') ∧ RowKit.Below w.heap.size w w' := by
  have e : ∀ w : World, Sem.run Tryz.prog (binOp BinOp.eql 40 (Value.slice a 0 cap) (Value.slice none 0 0)) w = .ok (.bool a.isNone) w := by
    intro w
    cases a <;> rfl
  cases a with
  | none =>
    simp only [Option.isNone] at e
    go_enter Tryz.func104, Tryz.ntmps104
    go_wp2
    go_ret
    exact ⟨_, _, rfl, RowKit.Below.refl _ _⟩
  | some a =>
    simp only [Option.isNone] at e
    go_enter Tryz.func104, Tryz.ntmps104
    go_wp2
    go_ret
    exact ⟨_, _, rfl, below_alloc _ _⟩
theorem d104e : PCall Tryz.prog 104 [.isl 4 []] ⟨.isl 4 [], []⟩ := pcall_emp (FnOK.of Tryz.func104 (by kernel_rfl) (by kernel_rfl)) w104
end Go.Proofs.YtdaliaafmcjikaaGreat
