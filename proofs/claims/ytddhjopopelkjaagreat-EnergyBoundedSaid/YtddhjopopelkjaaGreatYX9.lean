/- A part of the proof: lemmas. -/
import Derived.Test.YtddhjopopelkjaaGreatYF5
set_option linter.unusedVariables false
set_option linter.unusedSimpArgs false
namespace Go.Proofs.YtddhjopopelkjaaGreat
open Go Go.Sx Go.En
/-! ### The bound of what is left -/
def lmin : Int → List Int → Int
  | m, [] => m
  | m, x :: l => lmin (min m x) l
def mnl : List Int → Int
  | [] => 0
  | x :: l => lmin x l
theorem smin_eq (a b : Int) : Sx.imin a b = min a b := by
  unfold Sx.imin; by_cases h : b < a <;> simp [h] <;> omega
theorem lmin_le : ∀ (l : List Int) (m : Int), lmin m l ≤ m ∧ ∀ x ∈ l, lmin m l ≤ x
  | [], m => ⟨Int.le_refl _, by simp⟩
  | x :: l, m => by
    obtain ⟨h1, h2⟩ := lmin_le l (min m x)
    rw [lmin]
    refine ⟨by omega, fun y hy => ?_⟩
    rcases List.mem_cons.1 hy with rfl | hy
    · omega
    · exact h2 y hy
theorem le_lmax : ∀ (l : List Int) (m : Int), ∀ x ∈ l, x ≤ lmax m l
  | [], m => by simp
  | x :: l, m => by
    intro y hy
    rw [lmax]
    rcases List.mem_cons.1 hy with rfl | hy
    · have := lmax_ge l (max m y); omega
    · exact le_lmax l _ y hy
theorem lmin_mem : ∀ (l : List Int) (m : Int), lmin m l = m ∨ lmin m l ∈ l
  | [], m => Or.inl rfl
  | x :: l, m => by
    rw [lmin]
    rcases lmin_mem l (min m x) with h | h
    · rw [h]
      by_cases e : x < m
      · exact Or.inr (by rw [show min m x = x by omega]; simp)
      · exact Or.inl (by omega)
    · exact Or.inr (by simp [h])
structure Ends (ls : List Int) : Prop where
  lo : 0 ≤ mnl ls
  le : mnl ls ≤ mxl ls
  hi : mxl ls ≤ 1000
  all : ∀ x ∈ ls, mnl ls ≤ x ∧ x ≤ mxl ls
theorem ends_ok {ls : List Int} (h0 : 0 < ls.length) (h : ∀ x ∈ ls, 0 ≤ x ∧ x ≤ 1000) : Ends ls := by
  obtain ⟨x, l, rfl⟩ := List.exists_cons_of_length_pos h0
  have hall : ∀ y ∈ x :: l, mnl (x :: l) ≤ y ∧ y ≤ mxl (x :: l) := fun y hy => by
    obtain ⟨a, b⟩ := lmin_le l x
    show lmin x l ≤ y ∧ y ≤ lmax x l
    rcases List.mem_cons.1 hy with rfl | hy
    · exact ⟨a, lmax_ge l y⟩
    · exact ⟨b y hy, le_lmax l x y hy⟩
  have hm : mnl (x :: l) ∈ x :: l := by
    show lmin x l ∈ x :: l
    rcases lmin_mem l x with e | e
    · rw [e]; simp
    · simp [e]
  have hM : mxl (x :: l) ∈ x :: l := by
    show lmax x l ∈ x :: l
    rcases lmax_mem l x with e | e
    · rw [e]; simp
    · simp [e]
  exact ⟨(h _ hm).1, (hall _ hm).2, (h _ hM).2, hall⟩
set_option maxHeartbeats 4000000 in
theorem d133 {ns : List Int} (h0 : 0 < ns.length) (hl : ns.length < 1000000) : PCall Tryz.prog 133 [.isl 1 (nl ns)] ⟨I (mnl ns), []⟩ := by
  obtain ⟨x, l, rfl⟩ := List.exists_cons_of_length_pos h0
  generalize hns : x :: l = ns at *
  have e3 := nl_length ns
  have e0 : (nl ns)[(0 : Int).toNat]? = some [I x] := by rw [← hns]; rfl
  refine bs.pv (sx := nos) pt0_ok Tryz.func133 (by kernel_rfl) (by kernel_rfl) rfl ?_
  repeat' (first | refine wk3 ?_ | (refine wk2 ?_ ?_ <;> intro _) | refine wk4 ?_ | fail); all_goals (conv => whnf)
  refine loopV (S := Nat × Int × Int) (fun t => ns.length - t.1) (fun t => [(0, .isl 1 (nl ns)), (3, I t.2.2), (4, I t.2.1)]) (fun _ => []) 0 0 (fun t => t.2.1 = t.1 ∧ t.1 ≤ ns.length ∧ lmin t.2.2 (ns.drop t.1) = mnl ns) (1, 1, x) ⟨rfl, h0, by rw [← hns]; rfl⟩ (Nat.le_refl _) [] rfl (kps) (kps) ?_
  rintro ⟨k, i, s⟩ ⟨hi, hk, hh⟩
  dsimp only at hi hk hh ⊢
  subst hi
  generalize mnl ns = R at *
  refine bs.av (sx := nos) pt0_ok ?_
  by_cases hlt : k < ns.length
  · have e1 := nl_get hlt
    rw [List.drop_eq_getElem_cons hlt, lmin, ← smin_eq] at hh
    repeat' (first | refine wk3 ?_ | (refine wk2 ?_ ?_ <;> intro _) | refine wk4 ?_ | fail); all_goals (conv => whnf)
    exact Done.mk ⟨(k + 1, _, _), [], rfl, kps, kps, ⟨W_succ (by omega), hlt, hh⟩, by dsimp only; omega⟩
  · rw [List.drop_of_length_le (by omega)] at hh
    repeat' (first | refine wk3 ?_ | (refine wk2 ?_ ?_ <;> intro _) | refine wk4 ?_ | fail); all_goals (conv => whnf)
    exact ret_int hh
/-- The ends stay small. -/
structure Sml (r : Int × Int) : Prop where
  a : 0 ≤ r.1 ∧ r.1 ≤ 13000000000000
  b : 0 ≤ r.2 ∧ r.2 ≤ 13000000000000
theorem sml_step {least most : Int} {n : Nat} {r : Int × Int} (h : Sml r) (h0 : 0 ≤ least) (h1 : least ≤ most) (h2 : most ≤ 1000) (hn : n ≤ 12) : Sml (bndS least most n r) ∧ 0 ≤ r.1 * most ∧ r.1 * most ≤ r.1 * 1000 ∧ 0 ≤ r.2 * least ∧ r.2 * least ≤ r.2 * 1000 := by
  obtain ⟨a, b⟩ := h
  obtain ⟨p1, p2⟩ := part_bd (kept := r.1) (s := most) a.1 (by omega) h2
  obtain ⟨q1, q2⟩ := part_bd (kept := r.2) (s := least) b.1 h0 (by omega)
  refine ⟨?_, p1, p2, q1, q2⟩
  unfold bndS above
  exact ⟨by dsimp only; omega, by dsimp only; omega⟩
theorem bE_eq {least most a b : Int} {n : Nat} (h : Sml (a, b)) (h0 : 0 ≤ least) (h1 : least ≤ most) (h2 : most ≤ 1000) (hn : n ≤ 12) : Sx.imax 0 (IntKind.i64.wrap (IntKind.i64.wrap (a - IntKind.i64.wrap ((IntKind.i64.wrap (a * most)).tdiv 1000)) - n)) = (bndS least most n (a, b)).1 ∧ IntKind.i64.wrap (b - abv (IntKind.i64.wrap (b * least)) 1000) = (bndS least most n (a, b)).2 := by
  obtain ⟨_, p1, p2, q1, q2⟩ := sml_step h h0 h1 h2 hn
  obtain ⟨⟨a1, a2⟩, ⟨b1, b2⟩⟩ := h
  dsimp only at p1 p2 q1 q2 a1 a2 b1 b2
  have e1 : IntKind.i64.wrap ((IntKind.i64.wrap (a * most)).tdiv 1000) = a * most / 1000 := pE_eq (kept := a) (s := most) ⟨a1, a2⟩ ⟨by omega, h2⟩
  rw [e1, smax_eq, W_eq (n := b * least) (by omega) (by omega), abv_eq q1 (by omega)]
  unfold bndS above
  dsimp only
  rw [W_eq (n := a - a * most / 1000) (by omega) (by omega), W_eq (n := a - a * most / 1000 - n) (by omega) (by omega), W_eq (n := b - (b * least + 999) / 1000) (by omega) (by omega)]
  exact ⟨rfl, rfl⟩
theorem bR_eq {least most a b : Int} {n : Nat} (h : Sml (a, b)) (h0 : 0 ≤ least) (h1 : least ≤ most) (h2 : most ≤ 1000) (hn : n ≤ 12) : Sx.imax 0 (IntKind.i64.wrap (IntKind.i64.wrap (a - IntKind.i64.wrap (a * most) / 1000) - n)) = (bndS least most n (a, b)).1 ∧ IntKind.i64.wrap (b - (-((-(IntKind.i64.wrap (b * least))) / 1000))) = (bndS least most n (a, b)).2 := by
  obtain ⟨_, p1, p2, q1, q2⟩ := sml_step h h0 h1 h2 hn
  obtain ⟨⟨a1, a2⟩, ⟨b1, b2⟩⟩ := h
  dsimp only at p1 p2 q1 q2 a1 a2 b1 b2
  rw [smax_eq, W_eq (n := b * least) (by omega) (by omega), W_eq (n := a * most) (by omega) (by omega)]
  unfold bndS above
  dsimp only
  rw [W_eq (n := a - a * most / 1000) (by omega) (by omega), W_eq (n := a - a * most / 1000 - n) (by omega) (by omega), W_eq (n := b - -(-(b * least) / 1000)) (by omega) (by omega)]
  exact ⟨rfl, by omega⟩
/-- The error of a bound. -/
def bdE (rows : List (List Int)) (ls : List Int) (t s : Int) : Int := if (exV rows ls).2 ≠ 0 then (exV rows ls).2 else if within t 0 12000000000000 then unl (within s 0 1000) 2 else 2
def bdV (rows : List (List Int)) (ls : List Int) (t s : Int) : Int × Int := if bdE rows ls t s ≠ 0 then (0, 0) else bnd (mnl ls) (mxl ls) ls.length s.toNat (t, t)
noncomputable abbrev cMin : List AV → Option PRes := famN Len6p (fun ns => ⟨I (mnl ns), []⟩)
noncomputable def kXm : PC := ins 133 cMin (ins 115 (famX ExS fun rows ls => ⟨.tup [exA rows ls, I (exV rows ls).2], []⟩) kX1)
theorem kXm_ok : PCOK Tryz.prog kXm := famA_ok (fun ns h => d133 h.1 h.2) (famA_ok (fun q h => d115 h) kX1_ok)
abbrev sxB : FuncId → Bool := fun f => Nat.beq f 81 || (Nat.beq f 131 || Nat.beq f 132)
set_option maxRecDepth 100000 in
set_option maxHeartbeats 16000000 in
theorem d59 {rows : List (List Int)} {ls : List Int} {t s : Int} (h : ExS rows ls) : PCall Tryz.prog 59 [exA rows ls, I t, I s] ⟨.tup [P2 (bdV rows ls t s).1 (bdV rows ls t s).2, I (bdE rows ls t s)], []⟩ := by
  have l1 := rv_length rows
  have l2 := nl_length ls
  have g1 := famX_hit (p := ExS) (fun rows ls => ⟨.tup [exA rows ls, I (exV rows ls).2], []⟩) h
  by_cases z : (exV rows ls).2 = 0
  rotate_left
  · have e1 : bdE rows ls t s = (exV rows ls).2 := by unfold bdE; rw [if_pos z]
    have e2 : bdV rows ls t s = (0, 0) := by unfold bdV; rw [e1, if_pos z]
    rw [e1, e2]
    refine bs.pv (sx := nos) kXm_ok Tryz.func59 (by kernel_rfl) (by kernel_rfl) rfl ?_
    repeat' (first | refine wk3 ?_ | (refine wk2 ?_ ?_ <;> intro _) | refine wk4 ?_ | fail); all_goals (conv => whnf)
    exact ret_of rfl rfl
  rw [z] at g1
  have e0 : bdE rows ls t s = if within t 0 12000000000000 then unl (within s 0 1000) 2 else 2 := by unfold bdE; rw [if_neg (fun c => c z)]
  by_cases y : within t 0 12000000000000 = true
  rotate_left
  · have y : within t 0 12000000000000 = false := by simpa using y
    have u1 : unl (within t 0 12000000000000) 2 = 2 := by rw [y]; rfl
    have e1 : bdE rows ls t s = 2 := by rw [e0, y]; rfl
    have e2 : bdV rows ls t s = (0, 0) := by unfold bdV; rw [e1, if_pos (by omega)]
    rw [e1, e2]
    refine bs.pv (sx := sxB) kXm_ok Tryz.func59 (by kernel_rfl) (by kernel_rfl) rfl ?_
    repeat' (first | refine wk3 ?_ | (refine wk2 ?_ ?_ <;> intro _) | refine wk4 ?_ | fail); all_goals (conv => whnf)
    refine bs.sv (sx := sxB) kXm_ok Tryz.func81 (by kernel_rfl) (by kernel_rfl) ?_
    repeat' (first | refine wk3 ?_ | (refine wk2 ?_ ?_ <;> intro _) | refine wk4 ?_ | fail); all_goals (conv => whnf)
    refine LpM.start 3 ?_
    refine LpM.succ (bs.av (sx := sxB) kXm_ok ?_)
    repeat' (first | refine wk3 ?_ | (refine wk2 ?_ ?_ <;> intro _) | refine wk4 ?_ | fail); all_goals (conv => whnf)
    refine bs.sv (sx := sxB) kXm_ok Tryz.func131 (by kernel_rfl) (by kernel_rfl) ?_
    repeat' (first | refine wk3 ?_ | (refine wk2 ?_ ?_ <;> intro _) | refine wk4 ?_ | fail); all_goals (conv => whnf)
    exact ret_of (by rw [u1]) rfl
  have u1 : unl (within t 0 12000000000000) 2 = 0 := by rw [y]; rfl
  have e0 : bdE rows ls t s = unl (within s 0 1000) 2 := by rw [e0, y]; rfl
  by_cases x : within s 0 1000 = true
  rotate_left
  · have x : within s 0 1000 = false := by simpa using x
    have u2 : unl (within s 0 1000) 2 = 2 := by rw [x]; rfl
    have e1 : bdE rows ls t s = 2 := by rw [e0, u2]
    have e2 : bdV rows ls t s = (0, 0) := by unfold bdV; rw [e1, if_pos (by omega)]
    rw [e1, e2]
    refine bs.pv (sx := sxB) kXm_ok Tryz.func59 (by kernel_rfl) (by kernel_rfl) rfl ?_
    repeat' (first | refine wk3 ?_ | (refine wk2 ?_ ?_ <;> intro _) | refine wk4 ?_ | fail); all_goals (conv => whnf)
    refine bs.sv (sx := sxB) kXm_ok Tryz.func81 (by kernel_rfl) (by kernel_rfl) ?_
    repeat' (first | refine wk3 ?_ | (refine wk2 ?_ ?_ <;> intro _) | refine wk4 ?_ | fail); all_goals (conv => whnf)
    refine LpM.start 3 ?_
    refine LpM.succ (bs.av (sx := sxB) kXm_ok ?_)
    repeat' (first | refine wk3 ?_ | (refine wk2 ?_ ?_ <;> intro _) | refine wk4 ?_ | fail); all_goals (conv => whnf)
    refine bs.sv (sx := sxB) kXm_ok Tryz.func131 (by kernel_rfl) (by kernel_rfl) ?_
    repeat' (first | refine wk3 ?_ | (refine wk2 ?_ ?_ <;> intro _) | refine wk4 ?_ | fail); all_goals (conv => whnf)
    refine LpM.succ (bs.av (sx := sxB) kXm_ok ?_)
    repeat' (first | refine wk3 ?_ | (refine wk2 ?_ ?_ <;> intro _) | refine wk4 ?_ | fail); all_goals (conv => whnf)
    refine bs.sv (sx := sxB) kXm_ok Tryz.func132 (by kernel_rfl) (by kernel_rfl) ?_
    repeat' (first | refine wk3 ?_ | (refine wk2 ?_ ?_ <;> intro _) | refine wk4 ?_ | fail); all_goals (conv => whnf)
    exact ret_of (by rw [u2]) rfl
  have u2 : unl (within s 0 1000) 2 = 0 := by rw [x]; rfl
  have e1 : bdE rows ls t s = 0 := by rw [e0, u2]
  have e2 : bdV rows ls t s = bnd (mnl ls) (mxl ls) ls.length s.toNat (t, t) := by unfold bdV; rw [e1, if_neg (fun c => c rfl)]
  rw [e1, e2]
  have ht := within_iff.1 y
  have hs := within_iff.1 x
  obtain ⟨hx, hn⟩ := exV_zero z
  have hlp : 0 < ls.length := by rw [hx.ll]; exact hx.pos
  have hE := ends_ok hlp hx.lost
  have g2 := famN_hit (p := Len6p) (fun ns => ⟨I (mnl ns), []⟩) (ns := ls) ⟨hlp, by have := h.l; omega⟩
  have g3 := famN_hit (p := Len6p) (fun ns => ⟨I (mxl ns), []⟩) (ns := ls) ⟨hlp, by have := h.l; omega⟩
  refine bs.pv (sx := sxB) kXm_ok Tryz.func59 (by kernel_rfl) (by kernel_rfl) rfl ?_
  repeat' (first | refine wk3 ?_ | (refine wk2 ?_ ?_ <;> intro _) | refine wk4 ?_ | fail); all_goals (conv => whnf)
  refine bs.sv (sx := sxB) kXm_ok Tryz.func81 (by kernel_rfl) (by kernel_rfl) ?_
  repeat' (first | refine wk3 ?_ | (refine wk2 ?_ ?_ <;> intro _) | refine wk4 ?_ | fail); all_goals (conv => whnf)
  refine LpM.start 3 ?_
  refine LpM.succ (bs.av (sx := sxB) kXm_ok ?_)
  repeat' (first | refine wk3 ?_ | (refine wk2 ?_ ?_ <;> intro _) | refine wk4 ?_ | fail); all_goals (conv => whnf)
  refine bs.sv (sx := sxB) kXm_ok Tryz.func131 (by kernel_rfl) (by kernel_rfl) ?_
  repeat' (first | refine wk3 ?_ | (refine wk2 ?_ ?_ <;> intro _) | refine wk4 ?_ | fail); all_goals (conv => whnf)
  refine LpM.succ (bs.av (sx := sxB) kXm_ok ?_)
  repeat' (first | refine wk3 ?_ | (refine wk2 ?_ ?_ <;> intro _) | refine wk4 ?_ | fail); all_goals (conv => whnf)
  refine bs.sv (sx := sxB) kXm_ok Tryz.func132 (by kernel_rfl) (by kernel_rfl) ?_
  repeat' (first | refine wk3 ?_ | (refine wk2 ?_ ?_ <;> intro _) | refine wk4 ?_ | fail); all_goals (conv => whnf)
  refine LpM.succ (bs.av (sx := sxB) kXm_ok ?_)
  repeat' (first | refine wk3 ?_ | (refine wk2 ?_ ?_ <;> intro _) | refine wk4 ?_ | fail); all_goals (conv => whnf)
  refine loopV (S := Nat × Int × Int × Int) (fun u => s.toNat - u.1) (fun u => [(6, .ptr 3 0 0), (8, .ptr 4 0 0), (10, I (mnl ls)), (11, I (mxl ls)), (12, .ptr 16 0 0), (39, I s), (40, I u.2.1)]) (fun u => [(16, .row 2 [[I u.2.2.1, I u.2.2.2]] true false), (4, .row 2 [[.isl 1 (rows.map rv), .isl 1 (nl ls)]] true false), (3, .row 2 [[I 0, I 0]] true false)]) 17 17 (fun u => u.2.1 = u.1 ∧ u.1 ≤ s.toNat ∧ Sml u.2.2 ∧ bnd (mnl ls) (mxl ls) ls.length (s.toNat - u.1) u.2.2 = bnd (mnl ls) (mxl ls) ls.length s.toNat (t, t)) (0, 0, t, t) ⟨rfl, Nat.zero_le _, ⟨⟨ht.1, by dsimp only; omega⟩, ⟨ht.1, by dsimp only; omega⟩⟩, rfl⟩ (Nat.le_refl _) [] rfl (kps) (kps) ?_
  rintro ⟨k, i, lo, hi'⟩ ⟨hi, hk, hsm, hh⟩
  dsimp only at hi hk hh hsm ⊢
  subst hi
  generalize bnd (mnl ls) (mxl ls) ls.length s.toNat (t, t) = R at *
  refine bs.av (sx := nos) kXm_ok ?_
  by_cases hlt : k < s.toNat
  · rw [show s.toNat - k = (s.toNat - (k + 1)) + 1 by omega, bnd] at hh
    obtain ⟨b1, b2⟩ := bE_eq (n := ls.length) hsm hE.lo hE.le hE.hi (by have := hx.ll; omega)
    have hsm2 := (sml_step (n := ls.length) hsm hE.lo hE.le hE.hi (by have := hx.ll; omega)).1
    have e5 : bndS (mnl ls) (mxl ls) ls.length (lo, hi') = (Sx.imax 0 (IntKind.i64.wrap (IntKind.i64.wrap (lo - IntKind.i64.wrap ((IntKind.i64.wrap (lo * mxl ls)).tdiv 1000)) - ((nl ls).length : Int))), IntKind.i64.wrap (hi' - abv (IntKind.i64.wrap (hi' * mnl ls)) 1000)) := by rw [l2, b1, b2]
    rw [e5] at hh hsm2
    repeat' (first | refine wk3 ?_ | (refine wk2 ?_ ?_ <;> intro _) | refine wk4 ?_ | fail); all_goals (conv => whnf)
    exact Done.mk ⟨(k + 1, _, _, _), [], rfl, kps, kps, ⟨W_succ (by omega), hlt, hsm2, hh⟩, by dsimp only; omega⟩
  · rw [show s.toNat - k = 0 by omega, bnd] at hh
    subst hh
    repeat' (first | refine wk3 ?_ | (refine wk2 ?_ ?_ <;> intro _) | refine wk4 ?_ | fail); all_goals (conv => whnf)
    exact ret_of rfl rfl
/-- Right exchanges, totals and steps. -/
abbrev BdOk (rows : List (List Int)) (ls : List Int) (t s : Int) : Prop := ExOk rows.length rows ls ∧ rows.length ≤ 12 ∧ (0 ≤ t ∧ t ≤ 12000000000000) ∧ (0 ≤ s ∧ s ≤ 1000)
set_option maxRecDepth 100000 in
set_option maxHeartbeats 16000000 in
theorem d60 {rows : List (List Int)} {ls : List Int} {t s : Int} (h : BdOk rows ls t s) : PCall Tryz.prog 60 [exA rows ls, I t, I s] ⟨P2 (bnd (mnl ls) (mxl ls) ls.length s.toNat (t, t)).1 (bnd (mnl ls) (mxl ls) ls.length s.toNat (t, t)).2, []⟩ := by
  obtain ⟨hx, hn, ht, hs⟩ := h
  have hlp : 0 < ls.length := by rw [hx.ll]; exact hx.pos
  have hE := ends_ok hlp hx.lost
  have l1 := rv_length rows
  have l2 := nl_length ls
  have hl12 : ls.length ≤ 12 := by rw [hx.ll]; exact hn
  obtain ⟨y, l, hls⟩ := List.exists_cons_of_length_pos hlp
  have e0 : (nl ls)[(0 : Int).toNat]? = some [I y] := by rw [hls]; rfl
  refine bs.pv (sx := nos) kX1_ok Tryz.func60 (by kernel_rfl) (by kernel_rfl) rfl ?_
  repeat' (first | refine wk3 ?_ | (refine wk2 ?_ ?_ <;> intro _) | refine wk4 ?_ | fail); all_goals (conv => whnf)
  refine loopV (S := Nat × Int × Int × Int) (fun u => ls.length - u.1) (fun u => [(1, I t), (2, I s), (3, .ptr 0 0 0), (6, .ptr 1 0 0), (7, I u.2.2.1), (8, I u.2.2.2), (9, I u.2.1)]) (fun u => [(1, .row 2 [[I 0, I 0]] true false), (0, .row 2 [[.isl 1 (rows.map rv), .isl 1 (nl ls)]] true false)]) 12 12 (fun u => u.2.1 = u.1 ∧ u.1 ≤ ls.length ∧ lmin u.2.2.1 (ls.drop u.1) = mnl ls ∧ lmax u.2.2.2 (ls.drop u.1) = mxl ls) (0, 0, y, y) ⟨rfl, Nat.zero_le _, by rw [List.drop_zero, hls]; show lmin (min y y) l = lmin y l; rw [Int.min_self], by rw [List.drop_zero, hls]; show lmax (max y y) l = lmax y l; rw [Int.max_self]⟩ (Nat.le_refl _) [] rfl (kps) (kps) ?_
  rintro ⟨k, i, lo, hi'⟩ ⟨hi, hk, h1, h2⟩
  dsimp only at hi hk h1 h2 ⊢
  subst hi
  refine bs.av (sx := nos) kX1_ok ?_
  by_cases hlt : k < ls.length
  · have e1 := nl_get hlt
    rw [List.drop_eq_getElem_cons hlt, lmin, ← smin_eq] at h1
    rw [List.drop_eq_getElem_cons hlt, lmax, ← smax_eq] at h2
    repeat' (first | refine wk3 ?_ | (refine wk2 ?_ ?_ <;> intro _) | refine wk4 ?_ | fail); all_goals (conv => whnf)
    exact Done.mk ⟨(k + 1, _, _, _), [], rfl, kps, kps, ⟨W_succ (by omega), hlt, h1, h2⟩, by dsimp only; omega⟩
  rw [List.drop_of_length_le (by omega), lmin] at h1
  rw [List.drop_of_length_le (by omega), lmax] at h2
  subst h1 h2
  repeat' (first | refine wk3 ?_ | (refine wk2 ?_ ?_ <;> intro _) | refine wk4 ?_ | fail); all_goals (conv => whnf)
  refine loopV (S := Nat × Int × Int × Int) (fun u => s.toNat - u.1) (fun u => [(2, I s), (3, .ptr 0 0 0), (6, .ptr 1 0 0), (7, I (mnl ls)), (8, I (mxl ls)), (10, .ptr 12 0 0), (11, I u.2.1)]) (fun u => [(12, .row 2 [[I u.2.2.1, I u.2.2.2]] true false), (1, .row 2 [[I 0, I 0]] true false), (0, .row 2 [[.isl 1 (rows.map rv), .isl 1 (nl ls)]] true false)]) 13 13 (fun u => u.2.1 = u.1 ∧ u.1 ≤ s.toNat ∧ Sml u.2.2 ∧ bnd (mnl ls) (mxl ls) ls.length (s.toNat - u.1) u.2.2 = bnd (mnl ls) (mxl ls) ls.length s.toNat (t, t)) (0, 0, t, t) ⟨rfl, Nat.zero_le _, ⟨⟨ht.1, by dsimp only; omega⟩, ⟨ht.1, by dsimp only; omega⟩⟩, rfl⟩ (Nat.le_refl _) [] rfl (kps) (kps) ?_
  rintro ⟨k2, i, lo, hi'⟩ ⟨hi, hk2, hsm, hh⟩
  dsimp only at hi hk2 hh hsm ⊢
  subst hi
  generalize bnd (mnl ls) (mxl ls) ls.length s.toNat (t, t) = R at *
  refine bs.av (sx := nos) kX1_ok ?_
  by_cases hlt2 : k2 < s.toNat
  · rw [show s.toNat - k2 = (s.toNat - (k2 + 1)) + 1 by omega, bnd] at hh
    obtain ⟨b1, b2⟩ := bR_eq (n := ls.length) hsm hE.lo hE.le hE.hi hl12
    obtain ⟨hsm2, p1, p2, q1, q2⟩ := sml_step (n := ls.length) hsm hE.lo hE.le hE.hi hl12
    obtain ⟨⟨s1, s2⟩, ⟨s3, s4⟩⟩ := hsm
    dsimp only at p1 p2 q1 q2 s1 s2 s3 s4
    have e5 : bndS (mnl ls) (mxl ls) ls.length (lo, hi') = (Sx.imax 0 (IntKind.i64.wrap (IntKind.i64.wrap (lo - IntKind.i64.wrap (lo * mxl ls) / 1000) - ((nl ls).length : Int))), IntKind.i64.wrap (hi' - (-((-(IntKind.i64.wrap (hi' * mnl ls))) / 1000)))) := by rw [l2, b1, b2]
    rw [e5] at hh hsm2
    have w1 : IntKind.i64.wrap (lo * mxl ls) = lo * mxl ls := W_eq (by omega) (by omega)
    have w2 : IntKind.i64.wrap (hi' * mnl ls) = hi' * mnl ls := W_eq (by omega) (by omega)
    have hc := cl_hit (n := IntKind.i64.wrap (hi' * mnl ls)) (b := 1000) ⟨by omega, by omega, by omega⟩
    have hf := fl_hit (n := IntKind.i64.wrap (lo * mxl ls)) (b := 1000) ⟨by omega, by omega, by omega⟩
    repeat' (first | refine wk3 ?_ | (refine wk2 ?_ ?_ <;> intro _) | refine wk4 ?_ | fail); all_goals (conv => whnf)
    exact Done.mk ⟨(k2 + 1, _, _, _), [], rfl, kps, kps, ⟨W_succ (by omega), hlt2, hsm2, hh⟩, by dsimp only; omega⟩
  · rw [show s.toNat - k2 = 0 by omega, bnd] at hh
    subst hh
    repeat' (first | refine wk3 ?_ | (refine wk2 ?_ ?_ <;> intro _) | refine wk4 ?_ | fail); all_goals (conv => whnf)
    exact ret_of rfl rfl
end Go.Proofs.YtddhjopopelkjaaGreat
