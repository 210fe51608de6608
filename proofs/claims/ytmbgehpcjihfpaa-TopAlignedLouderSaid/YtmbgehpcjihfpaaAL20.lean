/- A part of the proof: lemmas. -/
import Derived.Test.YtmbgehpcjihfpaaAL19
set_option linter.unusedVariables false
set_option linter.unusedSimpArgs false
namespace Go.Proofs.Ytmbgehpcjihfpaa
open Go Go.Sx
/-! ### The plain law: all in one direction is loudest -/
theorem FK.of {k : Int} (h : k.natAbs ≤ 1000000000) : FK (FloatKind.f64.nearest k) k := by
  have hb : k.natAbs < 2 ^ 53 := by omega
  refine ⟨?_, ?_, conv_whole hb⟩
  · rw [← n9_bits, order_int hb (by decide)]
    simp only [compare, compareOfLessAndEq]
    by_cases h1 : k < 1000000000
    · rw [if_pos h1]; rfl
    · rw [if_neg h1, if_pos (by omega)]; rfl
  · rw [← m9_bits, order_int hb (by decide)]
    simp only [compare, compareOfLessAndEq]
    rw [if_neg (by omega)]
    by_cases h1 : k = -1000000000
    · rw [if_pos h1]; rfl
    · rw [if_neg h1]; rfl
noncomputable def sz (p : Pl) (s : Sp) : Int := s.g * sLo s.p p
noncomputable def szs (p : Pl) : List Sp → Int
  | [] => 0
  | s :: l => sz p s + szs p l
/-- A loudspeaker that is right, at a right seat. -/
structure Rt (p : Pl) (s : Sp) : Prop where
  f : Wf (s.p, p)
  g : 0 ≤ s.g ∧ s.g ≤ 1000
theorem sz_bd {p : Pl} {s : Sp} (h : Rt p s) : 0 ≤ sz p s ∧ sz p s ≤ 100000000 := by
  have h1 := sLo_bd h.f
  have := mul_bd h.g.1 h.g.2 h1.1 h1.2
  unfold sz; omega
theorem szs_bd {p : Pl} : ∀ {l : List Sp}, (∀ s ∈ l, Rt p s) → 0 ≤ szs p l ∧ szs p l ≤ 100000000 * l.length
  | [], _ => by simp [szs]
  | s :: l, h => by
    have h1 := sz_bd (h s (by simp))
    have h2 := szs_bd (l := l) (fun t ht => h t (by simp [ht]))
    rw [szs, List.length_cons]
    omega
def ab (n : Int) : Int := (n.natAbs : Int)
theorem shV_ab {m z : Int} (h0 : 0 ≤ z) (h1 : z ≤ 100000000) : ab (shV m z).1 + ab (shV m z).2 = z := by
  have w : IntKind.i64.wrap (-z) = -z := W_eq (by omega) (by omega)
  unfold shV ab
  rw [w]
  split
  · dsimp only; omega
  · split
    · dsimp only; omega
    · split
      · dsimp only; omega
      · dsimp only; omega
theorem shr_eq {r v : Int} {p : Pl} {s : Sp} (h : Rt p s) : shr r v p s = shV ((IntKind.i64.wrap (nLo r v s.p p + s.d)).tmod 4) (sz p s) := by
  have h1 := sz_bd h
  unfold shr
  have : IntKind.i64.wrap (s.g * sLo s.p p) = sz p s := by unfold sz at *; exact W_eq (by omega) (by omega)
  rw [this]
theorem pr_bd {r v : Int} {p : Pl} : ∀ {l : List Sp} {q : Int × Int}, (∀ s ∈ l, Rt p s) → ab q.1 + ab q.2 + szs p l ≤ 1000000000 → ab (prG r v p q l).1 + ab (prG r v p q l).2 ≤ ab q.1 + ab q.2 + szs p l
  | [], q, _, _ => by rw [prG, szs]; omega
  | s :: l, q, h, hb => by
    have hs := h s (by simp)
    have h0 := sz_bd hs
    have h2 := szs_bd (l := l) (fun t ht => h t (by simp [ht]))
    rw [szs] at hb ⊢
    rw [prG, shr_eq hs]
    have h3 := shV_ab (m := (IntKind.i64.wrap (nLo r v s.p p + s.d)).tmod 4) h0.1 h0.2
    generalize shV ((IntKind.i64.wrap (nLo r v s.p p + s.d)).tmod 4) (sz p s) = d at *
    obtain ⟨d1, d2⟩ := d
    obtain ⟨q1, q2⟩ := q
    dsimp only at *
    have w1 : IntKind.i64.wrap (q1 + d1) = q1 + d1 := by unfold ab at *; exact W_eq (by omega) (by omega)
    have w2 : IntKind.i64.wrap (q2 + d2) = q2 + d2 := by unfold ab at *; exact W_eq (by omega) (by omega)
    rw [w1, w2]
    have h4 : ab (q1 + d1) + ab (q2 + d2) ≤ ab q1 + ab q2 + sz p s := by unfold ab at *; omega
    have ih := pr_bd (r := r) (v := v) (p := p) (l := l) (q := (q1 + d1, q2 + d2)) (fun t ht => h t (by simp [ht])) (by dsimp only; omega)
    dsimp only at ih
    omega
/-- The direction of so many samples. -/
def dir (m : Int) : Int × Int := if m = 0 then (1, 0) else if m = 1 then (0, -1) else if m = 2 then (-1, 0) else (0, 1)
theorem shV_dir {m z : Int} (h0 : 0 ≤ z) (h1 : z ≤ 100000000) : shV m z = ((dir m).1 * z, (dir m).2 * z) := by
  have w : IntKind.i64.wrap (-z) = -z := W_eq (by omega) (by omega)
  unfold shV dir
  rw [w]
  split
  · simp
  · split
    · simp
    · split
      · simp
      · simp
theorem dir_ab (m : Int) : ((dir m).1 = 0 ∨ (dir m).1 = 1 ∨ (dir m).1 = -1) ∧ ((dir m).2 = 0 ∨ (dir m).2 = 1 ∨ (dir m).2 = -1) ∧ (dir m).1 * (dir m).1 + (dir m).2 * (dir m).2 = 1 := by
  unfold dir
  split
  · decide
  · split
    · decide
    · split <;> decide
theorem mul3 {a z : Int} (h : a = 0 ∨ a = 1 ∨ a = -1) : (a * z).natAbs ≤ z.natAbs := by
  rcases h with rfl | rfl | rfl
  · simp
  · simp
  · simp
theorem pr_al {r v m : Int} {p : Pl} : ∀ {l : List Sp} {q : Int × Int}, (∀ s ∈ l, Rt p s) → (∀ s ∈ l, (IntKind.i64.wrap (nLo r v s.p p + s.d)).tmod 4 = m) → ab q.1 + szs p l ≤ 1000000000 → ab q.2 + szs p l ≤ 1000000000 → prG r v p q l = (q.1 + (dir m).1 * szs p l, q.2 + (dir m).2 * szs p l)
  | [], q, _, _, _, _ => by rw [prG, szs]; simp
  | s :: l, q, h, hm, hb1, hb2 => by
    have hs := h s (by simp)
    have h0 := sz_bd hs
    have h2 := szs_bd (l := l) (fun t ht => h t (by simp [ht]))
    rw [szs] at hb1 hb2 ⊢
    rw [prG, shr_eq hs, hm s (by simp), shV_dir h0.1 h0.2]
    obtain ⟨d1, d2, _⟩ := dir_ab m
    have b1 := mul3 (z := sz p s) d1
    have b2 := mul3 (z := sz p s) d2
    generalize hA : (dir m).1 = a at *
    generalize hB : (dir m).2 = b at *
    obtain ⟨q1, q2⟩ := q
    dsimp only at *
    rw [Int.mul_add, Int.mul_add]
    generalize a * sz p s = x at *
    generalize b * sz p s = y at *
    have w1 : IntKind.i64.wrap (q1 + x) = q1 + x := by unfold ab at *; exact W_eq (by omega) (by omega)
    have w2 : IntKind.i64.wrap (q2 + y) = q2 + y := by unfold ab at *; exact W_eq (by omega) (by omega)
    rw [w1, w2]
    have ih := pr_al (r := r) (v := v) (m := m) (p := p) (l := l) (q := (q1 + x, q2 + y)) (fun t ht => h t (by simp [ht])) (fun t ht => hm t (by simp [ht])) (by dsimp only; unfold ab at *; omega) (by dsimp only; unfold ab at *; omega)
    rw [ih, hA, hB]
    dsimp only
    rw [Int.add_assoc, Int.add_assoc]
/-- The energy is at most the square. -/
theorem en_bd {r v : Int} {p : Pl} : ∀ {l : List Sp} {q : Int × Int} {B : Int}, (∀ s ∈ l, Rt p s) → 0 ≤ B → B + szs p l ≤ 1000000000 → 0 ≤ q.1 → q.1 ≤ B * B → (enG r v p q l).1 ≤ (B + szs p l) * (B + szs p l)
  | [], q, B, _, _, _, _, h => by rw [enG, szs, Int.add_zero]; exact h
  | s :: l, q, B, h, hB, hb, h0, h1 => by
    have hs := h s (by simp)
    have hz := sz_bd hs
    have h2 := szs_bd (l := l) (fun t ht => h t (by simp [ht]))
    rw [szs] at hb ⊢
    rw [enG]
    obtain ⟨q1, q2⟩ := q
    dsimp only at *
    have w0 : IntKind.i64.wrap (s.g * sLo s.p p) = sz p s := by unfold sz at *; exact W_eq (by omega) (by omega)
    rw [w0]
    generalize sz p s = z at *
    have m1 := mul_bd (x := z) (r := z) hz.1 hz.2 hz.1 hz.2
    have m2 := mul_bd (x := B) (r := B) (X := 1000000000) (R := 1000000000) hB (by omega) hB (by omega)
    have m3 : 0 ≤ B * z := Int.mul_nonneg hB hz.1
    have w1 : IntKind.i64.wrap (z * z) = z * z := W_eq (by omega) (by omega)
    have w2 : IntKind.i64.wrap (q1 + z * z) = q1 + z * z := W_eq (by omega) (by omega)
    rw [w1, w2]
    have e : (B + z) * (B + z) = B * B + 2 * (B * z) + z * z := by grind
    have ih := en_bd (r := r) (v := v) (p := p) (l := l) (q := (q1 + z * z, IntKind.i64.wrap (q2 + IntKind.i64.wrap (IntKind.i64.wrap (s.g * sHi s.p p) * IntKind.i64.wrap (s.g * sHi s.p p))))) (B := B + z) (fun t ht => h t (by simp [ht])) (by omega) (by omega) (by dsimp only; omega) (by dsimp only; omega)
    have e2 : B + z + szs p l = B + (z + szs p l) := by omega
    rw [e2] at ih
    exact ih
theorem sq_sum {a b S : Int} (h : ab a + ab b ≤ S) : a * a + b * b ≤ S * S := by
  have ha : a * a = ab a * ab a := by unfold ab; rw [← Int.natAbs_mul_self (a := a)]; rfl
  have hb : b * b = ab b * ab b := by unfold ab; rw [← Int.natAbs_mul_self (a := b)]; rfl
  have h1 : 0 ≤ ab a := by unfold ab; omega
  have h2 : 0 ≤ ab b := by unfold ab; omega
  rw [ha, hb]
  generalize ab a = x at *
  generalize ab b = y at *
  have h3 : 0 ≤ x * y := Int.mul_nonneg h1 h2
  have h4 := sq_mono (a := x + y) (b := S) (by omega) h
  have e : (x + y) * (x + y) = x * x + 2 * (x * y) + y * y := by grind
  omega
/-- The same loudspeakers with other delays. -/
inductive Alike : List Sp → List Sp → Prop
  | nil : Alike [] []
  | cons {a b : Sp} {l m : List Sp} (hp : a.p = b.p) (hg : a.g = b.g) (hd : a.d = b.d ∨ 0 ≤ a.d ∧ a.d ≤ 10000) (h : Alike l m) : Alike (a :: l) (b :: m)
theorem Alike.refl : ∀ (l : List Sp), Alike l l
  | [] => .nil
  | _ :: l => .cons rfl rfl (.inl rfl) (Alike.refl l)
theorem Alike.len {c l : List Sp} (h : Alike c l) : c.length = l.length := by
  induction h with
  | nil => rfl
  | cons _ _ _ _ ih => simp [ih]
theorem Alike.mem {c l : List Sp} (h : Alike c l) : ∀ s ∈ c, ∃ t ∈ l, s.p = t.p ∧ s.g = t.g ∧ (s.d = t.d ∨ 0 ≤ s.d ∧ s.d ≤ 10000) := by
  induction h with
  | nil => intro s hs; cases hs
  | cons hp hg hd _ ih =>
    intro s hs
    rcases List.mem_cons.1 hs with rfl | hs
    · exact ⟨_, by simp, hp, hg, hd⟩
    · obtain ⟨t, ht, h2⟩ := ih s hs
      exact ⟨t, by simp [ht], h2⟩
theorem Alike.set {c l : List Sp} (h : Alike c l) : ∀ {k : Nat} (hk : k < c.length) {n : Int}, 0 ≤ n ∧ n ≤ 10000 → Alike (c.set k { c[k] with d := n }) l := by
  induction h with
  | nil => intro k hk; simp at hk
  | cons hp hg hd h ih =>
    intro k hk n hn
    cases k with
    | zero => exact .cons hp hg (.inr hn) h
    | succ k => exact .cons hp hg hd (ih (by simpa using hk) hn)
theorem Alike.szs {p : Pl} {c l : List Sp} (h : Alike c l) : szs p c = szs p l := by
  induction h with
  | nil => rfl
  | cons hp hg _ _ ih => rw [Go.Proofs.Ytmbgehpcjihfpaa.szs, Go.Proofs.Ytmbgehpcjihfpaa.szs, ih]; unfold sz; rw [hp, hg]
theorem Alike.okA {r v : Int} {c l : List Sp} (h : Alike c l) (ha : OkA r v l) : OkA r v c := by
  have hl := h.len
  refine ⟨ha.so, by rw [hl]; exact ha.n0, by rw [hl]; exact ha.n8, fun s hs => ?_⟩
  obtain ⟨t, ht, hp, hg, hd⟩ := h.mem s hs
  obtain ⟨o1, o2, o3, o4⟩ := ha.sp t ht
  refine ⟨by rw [hp]; exact o1, by rw [hg]; exact o2, ?_⟩
  rcases hd with hd | hd
  · rw [hd]; exact ⟨o3, o4⟩
  · exact hd
theorem Alike.okS {p : Pl} {c l : List Sp} (h : Alike c l) (hs : OkS p l) : OkS p c := by
  refine ⟨hs.1, fun s hm => ?_⟩
  obtain ⟨t, ht, hp, _⟩ := h.mem s hm
  have := hs.2 t ht
  unfold nr at this ⊢
  rw [hp]; exact this
theorem imax_le {a b : Int} : a ≤ imax a b ∧ b ≤ imax a b ∧ (imax a b = a ∨ imax a b = b) := by
  unfold imax
  by_cases h : a < b
  · rw [decide_eq_true h]; dsimp only [cond_true]; omega
  · rw [decide_eq_false h]; dsimp only [cond_false]; omega
theorem lastG_bd {r v : Int} {p : Pl} (hso : SoOk r v) : ∀ {l : List Sp} {m : Int}, (∀ s ∈ l, Wp (s.p, p)) → 0 ≤ m → m ≤ 4000000000000 → m ≤ lastG r v p m l ∧ lastG r v p m l ≤ 4000000000000 ∧ ∀ s ∈ l, nLo r v s.p p ≤ lastG r v p m l
  | [], m, _, h0, h1 => by rw [lastG]; exact ⟨by omega, h1, fun s hs => by cases hs⟩
  | s :: l, m, h, h0, h1 => by
    rw [lastG]
    have hn := nLo_bd (r := r) (v := v) hso (h s (by simp))
    obtain ⟨a1, a2, a3⟩ := imax_le (a := m) (b := nLo r v s.p p)
    obtain ⟨b1, b2, b3⟩ := lastG_bd hso (l := l) (m := imax m (nLo r v s.p p)) (fun t ht => h t (by simp [ht])) (by omega) (by omega)
    refine ⟨by omega, b2, fun t ht => ?_⟩
    rcases List.mem_cons.1 ht with rfl | ht
    · omega
    · exact b3 t ht
theorem al_alike {r v last : Int} {p : Pl} : ∀ {l : List Sp}, (∀ s ∈ l, 0 ≤ nLo r v s.p p ∧ nLo r v s.p p ≤ last) → last ≤ 4000000000000 → tooL (l.map (al r v p last)) = false → Alike (l.map (al r v p last)) l
  | [], _, _, _ => .nil
  | s :: l, h, hL, ht => by
    unfold tooL at ht
    rw [List.map_cons, List.any_cons, Bool.or_eq_false_iff] at ht
    obtain ⟨t1, t2⟩ := ht
    have hs := h s (by simp)
    have w : IntKind.i64.wrap (last - nLo r v s.p p) = last - nLo r v s.p p := W_eq (by omega) (by omega)
    have t1 := of_decide_eq_false t1
    refine .cons rfl rfl (.inr ?_) (al_alike (fun t ht => h t (by simp [ht])) hL t2)
    show 0 ≤ IntKind.i64.wrap (last - nLo r v s.p p) ∧ IntKind.i64.wrap (last - nLo r v s.p p) ≤ 10000
    have t1 : ¬ 10000 < IntKind.i64.wrap (last - nLo r v s.p p) := t1
    rw [w] at t1 ⊢
    omega
end Go.Proofs.Ytmbgehpcjihfpaa
