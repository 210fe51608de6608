/- A part of the proof: lemmas. -/
import Derived.Test.YtddhjopopelkjaaGreatZP7
set_option linter.unusedVariables false
set_option linter.unusedSimpArgs false
namespace Go.Proofs.YtddhjopopelkjaaGreat
open Go Go.Sx

/-! ### The hall that is turned by one corner is right -/
def Hal.turn (h : Hal) : Hal := { h with cs := rot h.cs, ws := rot h.ws }
theorem turn_ok {h : Hal} (hk : h.ok) : h.turn.ok := by
  obtain ⟨⟨f1, f2, f3, f4, f5, f6⟩, ⟨t1, t2, t3, t4, t5⟩⟩ := hk
  refine ⟨⟨f1, ?_, ?_, f4, f5, f6⟩, ⟨t1, t2, ?_, t4, t5⟩⟩
  · show (rot h.cs).length < 1000; rw [rot_length]; exact f2
  · show (rot h.ws).length < 1000; rw [rot_length]; exact f3
  · intro m hm
    exact t3 m (rot_mem.1 hm)
theorem fe_all : ∀ l : List (Int × Int × Int), (∀ x ∈ l, x.2.2 = 0) → (firstErr l).2.2 = 0
  | [], _ => rfl
  | x :: l, h => by
    rw [firstErr, if_pos (h x (by simp))]
    exact fe_all l fun y hy => h y (by simp [hy])
theorem fIx_all {f : Nat → Int} : ∀ (m k : Nat), (∀ i, k ≤ i → i < k + m → f i = 0) → (fIx f k m).2 = 0
  | 0, k, _ => rfl
  | m + 1, k, h => by
    rw [fIx, if_pos (h k (Nat.le_refl _) (by omega))]
    exact fIx_all m (k + 1) fun i h1 h2 => h i (by omega) (by omega)
/-- The names of the walls differ. -/
theorem names_ne {h : Hal} (g : h.fine) {i j : Nat} (hi : i < h.ws.length) (hj : j < h.ws.length) (hne : i ≠ j) : (h.ws[i].nm == h.ws[j].nm) = false := by
  have key : ∀ i j (hi : i < h.ws.length) (hj : j < h.ws.length), i < j → (h.ws[i].nm == h.ws[j].nm) = false := by
    intro i j hi hj hij
    have := g.wal j hj
    unfold wErrR at this
    split at this
    · split at this
      · cases this
      · rename_i hx
        simp only [Bool.not_eq_true, List.any_eq_false] at hx
        have := hx h.ws[i] (List.mem_take_iff_getElem.2 ⟨i, by omega, rfl⟩)
        simpa using this
    · cases this
  rcases Nat.lt_or_gt_of_ne hne with h1 | h1
  · exact key i j hi hj h1
  · have := key j i hj hi h1
    rw [beq_ba] at this ⊢
    rw [decide_eq_false_iff_not] at this ⊢
    exact fun e => this e.symm
theorem mod_inj {n a b : Nat} (ha : a < n) (hb : b < n) (h : (a + 1) % n = (b + 1) % n) : a = b := by
  by_cases h1 : a + 1 < n
  · by_cases h2 : b + 1 < n
    · rw [Nat.mod_eq_of_lt h1, Nat.mod_eq_of_lt h2] at h; omega
    · have : b + 1 = n := by omega
      rw [Nat.mod_eq_of_lt h1, this, Nat.mod_self] at h; omega
  · have e : a + 1 = n := by omega
    by_cases h2 : b + 1 < n
    · rw [e, Nat.mod_self, Nat.mod_eq_of_lt h2] at h; omega
    · omega
theorem turn_inPlan (h : Hal) (p : Pt) : inPlanR h.turn p = inPlanR h p := by
  unfold inPlanR
  show inPlR p false (lns (rot h.cs)) = _
  rw [lns_rot, inPlR_rot]
theorem turn_rect (h : Hal) (c : Can) : rectOk h.turn c = rectOk h c := by
  have ht : ∀ l, touchAny h.turn l = touchAny h l := by
    intro l
    unfold touchAny
    show (lns (rot h.cs)).any _ = _
    rw [lns_rot, rot_any]
  have he : ∀ l, edgesGo h.turn l = edgesGo h l := by
    intro l
    induction l with
    | nil => rfl
    | cons a l ih => rw [edgesGo, edgesGo, turn_inPlan, ht, ih]
  unfold rectOk
  rw [he]
  congr 2
  exact rot_any _ _
theorem turn_wal {h : Hal} (g : h.fine) {i : Nat} (hi : i < h.ws.length) : waErrR h.turn i = 0 := by
  have hwc := g.le.2.2.1
  have hj : (i + 1) % h.ws.length < h.ws.length := Nat.mod_lt _ (by omega)
  unfold waErrR
  show (match (rot h.ws)[i]? with
    | some w => wErrR h.turn i w
    | none => 0) = 0
  rw [rot_get _ hi, List.getElem?_eq_getElem hj]
  show wErrR h.turn i h.ws[(i + 1) % h.ws.length] = 0
  have h0 := g.wal _ hj
  unfold wErrR at h0 ⊢
  have hne : ((rot h.ws).take i).any (fun v => v.nm == h.ws[(i + 1) % h.ws.length].nm) = false := by
    rw [List.any_eq_false]
    intro v hv
    obtain ⟨t, ht, rfl⟩ := List.mem_take_iff_getElem.1 hv
    rw [rot_length] at ht
    have e := rot_get h.ws (i := t) (by omega)
    have hj2 : (t + 1) % h.ws.length < h.ws.length := Nat.mod_lt _ (by omega)
    rw [List.getElem?_eq_getElem (by rw [rot_length]; omega), List.getElem?_eq_getElem hj2] at e
    rw [Option.some.inj e]
    have := names_ne g hj2 hj (fun e => by have := mod_inj (by omega) hi e; omega)
    simpa using this
  have el : lnOf h.turn.cs i = lnOf h.cs ((i + 1) % h.ws.length) := by
    rw [hwc]; exact ln_rot (by omega)
  show (if isNameR _ then (if ((rot h.ws).take i).any (fun v => v.nm == h.ws[(i + 1) % h.ws.length].nm) then 5 else _) else 4) = 0
  rw [hne]
  split at h0
  · rename_i h1
    rw [if_pos h1, if_neg (by decide)]
    split at h0
    · cases h0
    · split at h0
      · cases h0
      · rename_i h2
        rw [if_neg h2]
        split at h0
        · cases h0
        · rename_i h3
          have h3' : ¬(decide (matIx h.ws[(i + 1) % h.ws.length].mt 0 h.turn.ms < 0) || (!(h.ws[(i + 1) % h.ws.length].cu == ⟨#[]⟩) && decide (matIx h.ws[(i + 1) % h.ws.length].cu 0 h.turn.ms < 0))) = true := h3
          rw [if_neg h3', el]
          exact h0
  · cases h0
theorem turn_err {h : Hal} (hk : h.ok) (he : h.err = 0) : h.turn.err = 0 := by
  have g := fine_of hk he
  have hk2 := turn_ok hk
  obtain ⟨l1, l2, l3, l4, l5, l6⟩ := g.le
  have h0 : (chkR h).2.2 = 0 := by rw [chk_eq hk.f]; exact he
  unfold chkR chkListR at h0
  obtain ⟨z1, h0⟩ := fe_zero h0
  obtain ⟨z2, h0⟩ := fe_zero h0
  obtain ⟨z3, h0⟩ := fe_zero h0
  obtain ⟨z4, h0⟩ := fe_zero h0
  obtain ⟨z5, h0⟩ := fe_zero h0
  obtain ⟨z6, h0⟩ := fe_zero h0
  obtain ⟨z7, h0⟩ := fe_zero h0
  obtain ⟨z8, h0⟩ := fe_zero h0
  obtain ⟨z9, h0⟩ := fe_zero h0
  obtain ⟨z10, h0⟩ := fe_zero h0
  obtain ⟨z11, h0⟩ := fe_zero h0
  obtain ⟨z12, h0⟩ := fe_zero h0
  obtain ⟨z13, h0⟩ := fe_zero h0
  obtain ⟨z14, h0⟩ := fe_zero h0
  obtain ⟨z15, h0⟩ := fe_zero h0
  unfold Hal.err
  rw [← chk_eq hk2.f]
  refine fe_all _ fun x hx => ?_
  have rl1 : (rot h.cs).length = h.cs.length := rot_length _
  have rl2 : (rot h.ws).length = h.ws.length := rot_length _
  simp only [chkListR, List.mem_cons, List.not_mem_nil, or_false] at hx
  rcases hx with rfl | rfl | rfl | rfl | rfl | rfl | rfl | rfl | rfl | rfl | rfl | rfl | rfl | rfl | rfl
  · exact z1
  · exact z2
  · exact z3
  · exact z4
  · exact z5
  · show unl (decide (3 ≤ ((rot h.cs).length : Int)) && decide (((rot h.ws).length : Int) = (rot h.cs).length)) 10 = 0
    rw [rl1, rl2]; exact z6
  · show unl (decide (((rot h.ws).length : Int) ≤ 12)) 8 = 0
    rw [rl2]; exact z7
  · refine fIx_all _ _ fun i _ hi => ?_
    have hi : i < h.cs.length := by
      have : i < 0 + (rot h.cs).length := hi
      omega
    have hj : (i + 1) % h.cs.length < h.cs.length := Nat.mod_lt _ (by omega)
    have := g.bd _ hj
    unfold coErrR plc
    show (if within (cor (rot h.cs) i).1 (-5000) 5000 && within (cor (rot h.cs) i).2 (-5000) 5000 then (0 : Int) else 2) = 0
    rw [cor_rot hi, within_iff.2 this.1, within_iff.2 this.2]; rfl
  · refine fIx_all _ _ fun i _ hi => ?_
    have hi : i < h.ws.length := by
      have : i < 0 + (rot h.ws).length := hi
      omega
    exact turn_wal g hi
  · have hs : simpleR h.cs = true := unl_zero z10 (by decide)
    exact unl_t (simple_rot (by omega) hk.f.2.1 hs)
  · show unl (decide (0 < twAreaR (rot h.cs))) 9 = 0
    rw [area_rot (by intro e; rw [e] at l2; simp at l2)]; exact z11
  · exact z12
  · refine fIx_all _ _ fun i _ hi => ?_
    have hi : i < h.ks.length := by
      have : i < 0 + h.ks.length := hi
      omega
    have h1 := g.can i hi
    unfold caErrR
    show (match h.ks[i]? with
      | some w => cErrR h.turn i w
      | none => 0) = 0
    rw [List.getElem?_eq_getElem hi]
    show cErrR h.turn i h.ks[i] = 0
    unfold cErrR at h1 ⊢
    rw [turn_rect]
    have e : h.turn.ws.any (fun v => v.nm == h.ks[i].nm) = h.ws.any (fun v => v.nm == h.ks[i].nm) := rot_any _ _
    rw [e]
    exact h1
  · exact z14
  · refine fIx_all _ _ fun i _ hi => ?_
    have hi : i < h.ss.length := by
      have : i < 0 + h.ss.length := hi
      omega
    have h1 := g.sea i hi
    unfold seErrR
    show (match h.ss[i]? with
      | some w => sErrR h.turn i w
      | none => 0) = 0
    rw [List.getElem?_eq_getElem hi]
    show sErrR h.turn i h.ss[i] = 0
    unfold sErrR isInsR at h1 ⊢
    rw [turn_inPlan]
    exact h1
end Go.Proofs.YtddhjopopelkjaaGreat
