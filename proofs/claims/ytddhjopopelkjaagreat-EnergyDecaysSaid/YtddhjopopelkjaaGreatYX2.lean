/- A part of the proof: lemmas. -/
import Derived.Test.YtddhjopopelkjaaGreatYX1
set_option linter.unusedVariables false
set_option linter.unusedSimpArgs false
namespace Go.Proofs.YtddhjopopelkjaaGreat
open Go Go.Sx Go.En
/-! ### Division, sums, the greatest number -/
theorem fl_cases {n b : Int} (hb : 0 < b) : (n.tmod b < 0 ∧ n / b = n.tdiv b - 1) ∨ (¬ n.tmod b < 0 ∧ n / b = n.tdiv b) := by
  have e1 := Int.tmod_add_mul_tdiv n b
  have e2 := Int.tmod_lt_of_pos n hb
  have e3 := Int.lt_tmod_of_pos n hb
  by_cases h : n.tmod b < 0
  · exact .inl ⟨h, ((Int.ediv_emod_unique hb (r := n.tmod b + b)).2 ⟨by rw [Int.mul_sub]; omega, by omega, by omega⟩).1⟩
  · exact .inr ⟨h, ((Int.ediv_emod_unique hb (r := n.tmod b)).2 ⟨by omega, by omega, by omega⟩).1⟩
abbrev flOk (n b : Int) : Prop := 0 < b ∧ -9223372036854775807 ≤ n ∧ n ≤ 9223372036854775807
set_option maxHeartbeats 4000000 in
theorem d95 {n b : Int} (h : flOk n b) : PCall Tryz.prog 95 [I n, I b] ⟨I (n / b), []⟩ := by
  obtain ⟨hb, h0, h1⟩ := h
  have hq := Int.natAbs_tdiv_le_natAbs n b
  have e : IntKind.i64.wrap (n.tdiv b) = n.tdiv b := W_eq (by omega) (by omega)
  have hz : ¬ b = 0 := by omega
  refine bs.pv (sx := nos) pt0_ok Tryz.func95 (by kernel_rfl) (by kernel_rfl) rfl ?_
  rcases fl_cases (n := n) hb with ⟨c1, c2⟩ | ⟨c1, c2⟩
  · have e5 : IntKind.i64.wrap (n.tdiv b - 1) = n.tdiv b - 1 := W_eq (by omega) (by omega)
    rw [c2]
    repeat' (first | refine wk1 ?_ | (refine wk2 ?_ ?_ <;> intro _) | refine wk4 ?_ | fail); all_goals (conv => whnf)
    all_goals exact ret_int (by rw [e, e5])
  · rw [c2]
    repeat' (first | refine wk1 ?_ | (refine wk2 ?_ ?_ <;> intro _) | refine wk4 ?_ | fail); all_goals (conv => whnf)
    all_goals exact ret_int (by omega)
set_option maxHeartbeats 4000000 in
theorem d96 {n b : Int} (h : flOk n b) : PCall Tryz.prog 96 [I n, I b] ⟨I (-((-n) / b)), []⟩ := by
  obtain ⟨hb, h0, h1⟩ := h
  have e1 : IntKind.i64.wrap (0 - n) = -n := by rw [W_eq (by omega) (by omega)]; omega
  have hk := one_ok (d95 (n := -n) (b := b) ⟨hb, by omega, by omega⟩) pt0_ok
  rw [← e1] at hk
  refine bs.pv (sx := nos) hk Tryz.func96 (by kernel_rfl) (by kernel_rfl) rfl ?_
  have hq : (-n / b).natAbs ≤ (-n).natAbs := Int.natAbs_ediv_le_natAbs _ _
  repeat' (first | refine wk1 ?_ | (refine wk2 ?_ ?_ <;> intro _) | refine wk4 ?_ | fail); all_goals (conv => whnf)
  rw [e1]
  exact ret_int (by rw [W_eq (by omega) (by omega)]; omega)
def rFl : List AV → Option PRes
  | [.int .i64 n, .int .i64 b] => asr (decide (flOk n b)) ⟨I (n / b), []⟩
  | _ => none
def rCl : List AV → Option PRes
  | [.int .i64 n, .int .i64 b] => asr (decide (flOk n b)) ⟨I (-((-n) / b)), []⟩
  | _ => none
theorem fl_hit {n b : Int} (h : flOk n b) : rFl [I n, I b] = some ⟨I (n / b), []⟩ := asr_of h
theorem cl_hit {n b : Int} (h : flOk n b) : rCl [I n, I b] = some ⟨I (-((-n) / b)), []⟩ := asr_of h
/-- Rounded up, as the machine does it. -/
def abv (n b : Int) : Int := IntKind.i64.wrap ((IntKind.i64.wrap (IntKind.i64.wrap (n + b) - 1)).tdiv b)
theorem abv_eq {n : Int} (h0 : 0 ≤ n) (h1 : n ≤ 9000000000000000000) : abv n 1000 = above n := by
  unfold abv above
  rw [W_eq (n := n + 1000) (by omega) (by omega), W_eq (n := n + 1000 - 1) (by omega) (by omega), Int.tdiv_eq_ediv_of_nonneg (by omega), W_eq (by omega) (by omega)]
  congr 1; omega
theorem d135 {n b : Int} (hb : 0 < b) : PCall Tryz.prog 135 [I n, I b] ⟨I (abv n b), []⟩ := by
  have hz : ¬ b = 0 := by omega
  refine bs.pv (sx := nos) pt0_ok Tryz.func135 (by kernel_rfl) (by kernel_rfl) rfl ?_
  repeat' (first | refine wk3 ?_ | (refine wk2 ?_ ?_ <;> intro _) | refine wk4 ?_ | fail); all_goals (conv => whnf)
  all_goals exact ret_int rfl
def rAb : List AV → Option PRes
  | [.int .i64 n, .int .i64 b] => asr (decide (0 < b)) ⟨I (abv n b), []⟩
  | _ => none
theorem ab_hit {n b : Int} (h : 0 < b) : rAb [I n, I b] = some ⟨I (abv n b), []⟩ := asr_of h
def sumW : Int → List Int → Int
  | n, [] => n
  | n, x :: l => sumW (IntKind.i64.wrap (n + x)) l
theorem sumW_eq {M : Int} : ∀ {l : List Int} {n : Int}, (∀ x ∈ l, 0 ≤ x ∧ x ≤ M) → 0 ≤ n → n + M * l.length ≤ 4000000000000000000 → sumW n l = n + tot l
  | [], n, _, _, _ => by simp [sumW, tot]
  | x :: l, n, h, h0, h1 => by
    have hx := h x (by simp)
    rw [List.length_cons, show M * ((l.length + 1 : Nat) : Int) = M * l.length + M by rw [Int.natCast_add, Int.mul_add]; simp] at h1
    have hM : 0 ≤ M * l.length := Int.mul_nonneg (by omega) (by omega)
    rw [sumW, W_eq (n := n + x) (by omega) (by omega), sumW_eq (fun y hy => h y (by simp [hy])) (by omega) (by omega), tot]
    omega
set_option maxHeartbeats 4000000 in
theorem d108 {ns : List Int} (hl : ns.length < 1000000) : PCall Tryz.prog 108 [.isl 1 (nl ns)] ⟨I (sumW 0 ns), []⟩ := by
  have e3 := nl_length ns
  refine bs.pv (sx := nos) pt0_ok Tryz.func108 (by kernel_rfl) (by kernel_rfl) rfl ?_
  repeat' (first | refine wk3 ?_ | (refine wk2 ?_ ?_ <;> intro _) | refine wk4 ?_ | fail); all_goals (conv => whnf)
  refine loopV (S := Nat × Int × Int) (fun t => ns.length - t.1) (fun t => [(3, I t.2.2), (6, .isl 1 (nl ns)), (7, I (nl ns).length), (8, I t.2.1)]) (fun _ => []) 0 0 (fun t => t.2.1 = t.1 ∧ t.1 ≤ ns.length ∧ sumW t.2.2 (ns.drop t.1) = sumW 0 ns) (0, 0, 0) ⟨rfl, Nat.zero_le _, rfl⟩ (Nat.le_refl _) [] rfl (kps) (kps) ?_
  rintro ⟨k, i, s⟩ ⟨hi, hk, hh⟩
  dsimp only at hi hk hh ⊢
  subst hi
  generalize sumW 0 ns = R at *
  refine bs.av (sx := nos) pt0_ok ?_
  by_cases hlt : k < ns.length
  · have e1 := nl_get hlt
    rw [List.drop_eq_getElem_cons hlt, sumW] at hh
    repeat' (first | refine wk3 ?_ | (refine wk2 ?_ ?_ <;> intro _) | refine wk4 ?_ | fail); all_goals (conv => whnf)
    exact Done.mk ⟨(k + 1, _, _), [], rfl, kps, kps, ⟨W_succ (by omega), hlt, hh⟩, by dsimp only; omega⟩
  · rw [List.drop_of_length_le (by omega)] at hh
    repeat' (first | refine wk3 ?_ | (refine wk2 ?_ ?_ <;> intro _) | refine wk4 ?_ | fail); all_goals (conv => whnf)
    exact ret_int hh
set_option maxHeartbeats 4000000 in
theorem d39 {ns : List Int} (hl : ns.length < 1000000) : PCall Tryz.prog 39 [.isl 1 (nl ns)] ⟨I (sumW 0 ns), []⟩ := by
  have e3 := nl_length ns
  refine bs.pv (sx := nos) pt0_ok Tryz.func39 (by kernel_rfl) (by kernel_rfl) rfl ?_
  conv => whnf
  refine loopV (S := Nat × Int × Int) (fun t => ns.length - t.1) (fun t => [(0, .isl 1 (nl ns)), (3, I t.2.2), (4, I t.2.1)]) (fun _ => []) 0 0 (fun t => t.2.1 = t.1 ∧ t.1 ≤ ns.length ∧ sumW t.2.2 (ns.drop t.1) = sumW 0 ns) (0, 0, 0) ⟨rfl, Nat.zero_le _, rfl⟩ (Nat.le_refl _) [] rfl (kps) (kps) ?_
  rintro ⟨k, i, s⟩ ⟨hi, hk, hh⟩
  dsimp only at hi hk hh ⊢
  subst hi
  generalize sumW 0 ns = R at *
  refine bs.av (sx := nos) pt0_ok ?_
  by_cases hlt : k < ns.length
  · have e1 := nl_get hlt
    rw [List.drop_eq_getElem_cons hlt, sumW] at hh
    repeat' (first | refine wk3 ?_ | (refine wk2 ?_ ?_ <;> intro _) | refine wk4 ?_ | fail); all_goals (conv => whnf)
    exact Done.mk ⟨(k + 1, _, _), [], rfl, kps, kps, ⟨W_succ (by omega), hlt, hh⟩, by dsimp only; omega⟩
  · rw [List.drop_of_length_le (by omega)] at hh
    repeat' (first | refine wk3 ?_ | (refine wk2 ?_ ?_ <;> intro _) | refine wk4 ?_ | fail); all_goals (conv => whnf)
    exact ret_int hh
/-- The greatest number of a list that has one. -/
def mxl : List Int → Int
  | [] => 0
  | x :: l => lmax x l
theorem smax_eq (a b : Int) : Sx.imax a b = max a b := by
  unfold Sx.imax; by_cases h : a < b <;> simp [h] <;> omega
set_option maxHeartbeats 4000000 in
theorem d134 {ns : List Int} (h0 : 0 < ns.length) (hl : ns.length < 1000000) : PCall Tryz.prog 134 [.isl 1 (nl ns)] ⟨I (mxl ns), []⟩ := by
  obtain ⟨x, l, rfl⟩ := List.exists_cons_of_length_pos h0
  generalize hns : x :: l = ns at *
  have e3 := nl_length ns
  have e0 : (nl ns)[(0 : Int).toNat]? = some [I x] := by rw [← hns]; rfl
  refine bs.pv (sx := nos) pt0_ok Tryz.func134 (by kernel_rfl) (by kernel_rfl) rfl ?_
  repeat' (first | refine wk3 ?_ | (refine wk2 ?_ ?_ <;> intro _) | refine wk4 ?_ | fail); all_goals (conv => whnf)
  refine loopV (S := Nat × Int × Int) (fun t => ns.length - t.1) (fun t => [(0, .isl 1 (nl ns)), (3, I t.2.2), (4, I t.2.1)]) (fun _ => []) 0 0 (fun t => t.2.1 = t.1 ∧ t.1 ≤ ns.length ∧ lmax t.2.2 (ns.drop t.1) = mxl ns) (1, 1, x) ⟨rfl, h0, by rw [← hns]; rfl⟩ (Nat.le_refl _) [] rfl (kps) (kps) ?_
  rintro ⟨k, i, s⟩ ⟨hi, hk, hh⟩
  dsimp only at hi hk hh ⊢
  subst hi
  generalize mxl ns = R at *
  refine bs.av (sx := nos) pt0_ok ?_
  by_cases hlt : k < ns.length
  · have e1 := nl_get hlt
    rw [List.drop_eq_getElem_cons hlt, lmax, ← smax_eq] at hh
    repeat' (first | refine wk3 ?_ | (refine wk2 ?_ ?_ <;> intro _) | refine wk4 ?_ | fail); all_goals (conv => whnf)
    exact Done.mk ⟨(k + 1, _, _), [], rfl, kps, kps, ⟨W_succ (by omega), hlt, hh⟩, by dsimp only; omega⟩
  · rw [List.drop_of_length_le (by omega)] at hh
    repeat' (first | refine wk3 ?_ | (refine wk2 ?_ ?_ <;> intro _) | refine wk4 ?_ | fail); all_goals (conv => whnf)
    exact ret_int hh
/-- The first place of a number, or -1. -/
def idxI (n : Int) : Nat → List Int → Int
  | _, [] => -1
  | i, m :: l => if n = m then i else idxI n (i + 1) l
theorem idxI_mem {n : Int} : ∀ {l : List Int} {i : Nat}, n ∈ l → idxI n i l = ((i + fidx n l : Nat) : Int)
  | [], _, h => by simp at h
  | m :: l, i, h => by
    rw [idxI, fidx]
    by_cases e : n = m
    · rw [if_pos e, if_pos e.symm]; rfl
    · rw [if_neg e, if_neg (fun h => e h.symm), idxI_mem (by rcases List.mem_cons.1 h with h | h; exact absurd h e; exact h)]
      congr 1; omega
theorem lmax_mem : ∀ (l : List Int) (m : Int), lmax m l = m ∨ lmax m l ∈ l
  | [], m => Or.inl rfl
  | x :: l, m => by
    rw [lmax]
    rcases lmax_mem l (max m x) with h | h
    · rw [h]
      by_cases e : m < x
      · exact Or.inr (by rw [show max m x = x by omega]; simp)
      · exact Or.inl (by omega)
    · exact Or.inr (by simp [h])
theorem idx_max {ns : List Int} (h0 : 0 < ns.length) : idxI (mxl ns) 0 ns = (En.imax ns : Int) := by
  obtain ⟨x, l, rfl⟩ := List.exists_cons_of_length_pos h0
  rw [idxI_mem, imax_fidx, Nat.zero_add]; rfl
  show lmax x l ∈ x :: l
  rcases lmax_mem l x with h | h
  · rw [h]; simp
  · simp [h]
set_option maxHeartbeats 4000000 in
theorem d176 {ns : List Int} (hl : ns.length < 1000000) (n : Int) : PCall Tryz.prog 176 [.isl 1 (nl ns), I n] ⟨I (idxI n 0 ns), []⟩ := by
  have e3 := nl_length ns
  refine bs.pv (sx := nos) pt0_ok Tryz.func176 (by kernel_rfl) (by kernel_rfl) rfl ?_
  repeat' (first | refine wk3 ?_ | (refine wk2 ?_ ?_ <;> intro _) | refine wk4 ?_ | fail); all_goals (conv => whnf)
  refine loopV (S := Nat × Int) (fun t => ns.length - t.1) (fun t => [(0, .isl 1 (nl ns)), (1, I n), (7, I (nl ns).length), (8, I t.2)]) (fun _ => []) 0 0 (fun t => t.2 = t.1 ∧ t.1 ≤ ns.length ∧ idxI n t.1 (ns.drop t.1) = idxI n 0 ns) (0, 0) ⟨rfl, Nat.zero_le _, rfl⟩ (Nat.le_refl _) [] rfl (kps) (kps) ?_
  rintro ⟨k, i⟩ ⟨hi, hk, hh⟩
  dsimp only at hi hk hh ⊢
  subst hi
  generalize idxI n 0 ns = R at *
  refine bs.av (sx := nos) pt0_ok ?_
  by_cases hlt : k < ns.length
  · have e1 := nl_get hlt
    rw [List.drop_eq_getElem_cons hlt, idxI] at hh
    by_cases e : n = ns[k]
    · rw [if_pos e] at hh
      repeat' (first | refine wk3 ?_ | (refine wk2 ?_ ?_ <;> intro _) | refine wk4 ?_ | fail); all_goals (conv => whnf)
      exact ret_int hh
    · rw [if_neg e] at hh
      repeat' (first | refine wk3 ?_ | (refine wk2 ?_ ?_ <;> intro _) | refine wk4 ?_ | fail); all_goals (conv => whnf)
      exact Done.mk ⟨(k + 1, _), [], rfl, kps, kps, ⟨W_succ (by omega), hlt, hh⟩, by dsimp only; omega⟩
  · rw [List.drop_of_length_le (by omega)] at hh
    repeat' (first | refine wk3 ?_ | (refine wk2 ?_ ?_ <;> intro _) | refine wk4 ?_ | fail); all_goals (conv => whnf)
    exact ret_int hh
/-! ### Tables over lists of numbers -/
noncomputable abbrev famN (p : List Int → Prop) (r : List Int → PRes) : List AV → Option PRes := famA p (fun ns => [.isl 1 (nl ns)]) r
theorem famN_hit {p : List Int → Prop} (r : List Int → PRes) {ns : List Int} (h : p ns) : famN p r [.isl 1 (nl ns)] = some (r ns) :=
  famA_hit (p := p) (g := fun ns => [.isl 1 (nl ns)]) (r := r) (fun j hj => by
    simp only [List.cons.injEq, AV.isl.injEq, true_and, and_true] at hj
    rw [nl_inj hj]) h
noncomputable abbrev famNI (r : List Int → Int → PRes) : List AV → Option PRes := famA (fun p : List Int × Int => p.1.length < 1000000) (fun p => [.isl 1 (nl p.1), I p.2]) (fun p => r p.1 p.2)
theorem famNI_hit (r : List Int → Int → PRes) {ns : List Int} (h : ns.length < 1000000) (n : Int) : famNI r [.isl 1 (nl ns), I n] = some (r ns n) :=
  famA_hit (p := fun p : List Int × Int => p.1.length < 1000000) (g := fun p => [.isl 1 (nl p.1), I p.2]) (r := fun p => r p.1 p.2) (k := (ns, n)) (fun j hj => by
    simp only [List.cons.injEq, AV.isl.injEq, AV.int.injEq, true_and, and_true] at hj
    rw [nl_inj hj.1, hj.2]) h
abbrev Len6 (ns : List Int) : Prop := ns.length < 1000000
abbrev Len6p (ns : List Int) : Prop := 0 < ns.length ∧ ns.length < 1000000
noncomputable abbrev cSum : List AV → Option PRes := famN Len6 (fun ns => ⟨I (sumW 0 ns), []⟩)
noncomputable abbrev cMax : List AV → Option PRes := famN Len6p (fun ns => ⟨I (mxl ns), []⟩)
noncomputable abbrev cIdx : List AV → Option PRes := famNI (fun ns n => ⟨I (idxI n 0 ns), []⟩)
noncomputable abbrev cBad (f : Nat) (φ : List AV) (lo hi : Int) : List AV → Option PRes := famA Len6 (fun ns => [.isl 1 (nl ns), .func f [] φ]) (fun ns => ⟨Bo (!(ns.all fun n => within n lo hi)), []⟩)
theorem cBad_hit {f : Nat} {φ : List AV} {lo hi : Int} {ns : List Int} (h : ns.length < 1000000) : cBad f φ lo hi [.isl 1 (nl ns), .func f [] φ] = some ⟨Bo (!(ns.all fun n => within n lo hi)), []⟩ :=
  famA_hit (p := Len6) (g := fun ns => [.isl 1 (nl ns), .func f [] φ]) (r := fun ns => ⟨Bo (!(ns.all fun n => within n lo hi)), []⟩) (fun j hj => by
    simp only [List.cons.injEq, AV.isl.injEq, true_and, and_true] at hj
    rw [nl_inj hj]) h
def r36 : List AV → Option PRes
  | [.int .i64 n] => some ⟨I (unl (within n 0 1000) 2), []⟩
  | _ => none
theorem d36 (n : Int) : PCall Tryz.prog 36 [I n] ⟨I (unl (within n 0 1000) 2), []⟩ := by
  refine bs.pv (sx := nos) kX0_ok Tryz.func36 (by kernel_rfl) (by kernel_rfl) rfl ?_
  repeat' (first | refine wk3 ?_ | (refine wk2 ?_ ?_ <;> intro _) | refine wk4 ?_ | fail); all_goals (conv => whnf)
  all_goals exact ret_int (by simp_all [unl])
theorem d112 (n : Int) : PCall Tryz.prog 112 [I n] ⟨I (unl (within n 0 1000) 2), []⟩ := by
  refine bs.pv (sx := nos) kX0_ok Tryz.func112 (by kernel_rfl) (by kernel_rfl) rfl ?_
  repeat' (first | refine wk3 ?_ | (refine wk2 ?_ ?_ <;> intro _) | refine wk4 ?_ | fail); all_goals (conv => whnf)
  all_goals exact ret_int rfl
noncomputable def kX1 : PC := ins 95 rFl (ins 96 rCl (ins 135 rAb (ins 108 cSum (ins 39 cSum (ins 134 cMax (ins 176 cIdx (ins 36 r36 (ins 112 r36 kX0))))))))
theorem kX1_ok : PCOK Tryz.prog kX1 := by
  refine ins_ok (fun a res h => ?_) (ins_ok (fun a res h => ?_) (ins_ok (fun a res h => ?_) (famA_ok (fun l h => d108 h) (famA_ok (fun l h => d39 h) (famA_ok (fun l h => d134 h.1 h.2) (famA_ok (fun p h => d176 h p.2) (ins_ok (fun a res h => ?_) (ins_ok (fun a res h => ?_) kX0_ok))))))))
  · unfold rFl at h; split at h
    · obtain ⟨h1, h2⟩ := asr_some h; subst h2; exact d95 (of_decide_eq_true h1)
    · cases h
  · unfold rCl at h; split at h
    · obtain ⟨h1, h2⟩ := asr_some h; subst h2; exact d96 (of_decide_eq_true h1)
    · cases h
  · unfold rAb at h; split at h
    · obtain ⟨h1, h2⟩ := asr_some h; subst h2; exact d135 (of_decide_eq_true h1)
    · cases h
  · unfold r36 at h; split at h <;> cases h; exact d36 _
  · unfold r36 at h; split at h <;> cases h; exact d112 _
end Go.Proofs.YtddhjopopelkjaaGreat
