/- A part of the proof: lemmas. -/
import Derived.Test.YtddhjopopelkjaaGreatYX7
set_option linter.unusedVariables false
set_option linter.unusedSimpArgs false
namespace Go.Proofs.YtddhjopopelkjaaGreat
open Go Go.Sx Go.En
/-! ### Reciprocal exchanges -/
def nthR (rows : List (List Int)) (i : Nat) : List Int := rows.getD i []
theorem nthR_get {rows : List (List Int)} {i : Nat} (h : i < rows.length) : nthR rows i = rows[i] := by
  unfold nthR
  rw [List.getD_eq_getElem?_getD, List.getElem?_eq_getElem h]; rfl
theorem nl_getn {ns : List Int} {k : Nat} (h : k < ns.length) : (nl ns)[((k : Nat) : Int).toNat]? = some [I (nth ns k)] := by rw [nth_get h]; exact nl_get h
theorem rv_getn {rows : List (List Int)} {k : Nat} (h : k < rows.length) : (rows.map rv)[((k : Nat) : Int).toNat]? = some [.isl 1 (nl (nthR rows k))] := by rw [nthR_get h]; exact rv_get h
def allF (f : Nat → Bool) : Nat → Nat → Bool
  | _, 0 => true
  | k, m + 1 => f k && allF f (k + 1) m
theorem allF_iff (f : Nat → Bool) : ∀ (m k : Nat), allF f k m = true ↔ ∀ j, k ≤ j → j < k + m → f j = true
  | 0, k => by simp [allF]; intro j; omega
  | m + 1, k => by
    rw [allF, Bool.and_eq_true, allF_iff f m (k + 1)]
    constructor
    · rintro ⟨h0, h1⟩ j hj hk
      by_cases e : j = k
      · rw [e]; exact h0
      · exact h1 j (by omega) (by omega)
    · intro h
      exact ⟨h k (by omega) (by omega), fun j hj hk => h j (by omega) (by omega)⟩
theorem allF_step {f : Nat → Bool} {k n : Nat} (h : k < n) : allF f k (n - k) = (f k && allF f (k + 1) (n - (k + 1))) := by
  rw [show n - k = (n - (k + 1)) + 1 by omega, allF]
def cellB (rows : List (List Int)) (a : List Int) (i k : Nat) : Bool := decide (IntKind.i64.wrap (nth a i * nth (nthR rows i) k) = IntKind.i64.wrap (nth a k * nth (nthR rows k) i))
def recW (rows : List (List Int)) (a : List Int) : Bool := allF (fun i => allF (cellB rows a i) 0 rows.length) 0 rows.length
structure Sq (rows : List (List Int)) (a : List Int) : Prop where
  n : rows.length ≤ 12
  r : ∀ k, k < rows.length → (nthR rows k).length = rows.length
  l : a.length = rows.length
set_option maxRecDepth 100000 in
set_option maxHeartbeats 16000000 in
theorem d43 {rows : List (List Int)} {ls a : List Int} (h : Sq rows a) : PCall Tryz.prog 43 [exA rows ls, .isl 1 (nl a)] ⟨Bo (recW rows a), []⟩ := by
  have l1 := rv_length rows
  have l2 := nl_length a
  obtain ⟨hn, hr, hl⟩ := h
  refine bs.pv (sx := nos) kX1_ok Tryz.func43 (by kernel_rfl) (by kernel_rfl) rfl ?_
  repeat' (first | refine wk3 ?_ | (refine wk2 ?_ ?_ <;> intro _) | refine wk4 ?_ | fail); all_goals (conv => whnf)
  refine loopV (S := Nat × Int) (fun t => a.length - t.1) (fun t => [(1, .isl 1 (nl a)), (2, .ptr 0 0 0), (5, I t.2)]) (fun _ => [(0, .row 2 [[.isl 1 (rows.map rv), .isl 1 (nl ls)]] true false)]) 1 1 (fun t => t.2 = t.1 ∧ t.1 ≤ a.length ∧ allF (fun i => allF (cellB rows a i) 0 rows.length) t.1 (rows.length - t.1) = recW rows a) (0, 0) ⟨rfl, Nat.zero_le _, rfl⟩ (Nat.le_refl _) [] rfl (kps) (kps) ?_
  rintro ⟨k, i⟩ ⟨hi, hk, hh⟩
  dsimp only at hi hk hh ⊢
  subst hi
  generalize recW rows a = R at *
  refine bs.av (sx := nos) kX1_ok ?_
  by_cases hlt : k < a.length
  · rw [allF_step (by omega)] at hh
    have e1 := nl_getn hlt
    have e2 := rv_getn (rows := rows) (k := k) (by omega)
    have hrk := hr k (by omega)
    have l3 := nl_length (nthR rows k)
    repeat' (first | refine wk3 ?_ | (refine wk2 ?_ ?_ <;> intro _) | refine wk4 ?_ | fail); all_goals (conv => whnf)
    refine loopV (S := Nat × Int) (fun t => a.length - t.1) (fun t => [(1, .isl 1 (nl a)), (2, .ptr 0 0 0), (5, I (k : Int)), (6, I t.2)]) (fun _ => [(0, .row 2 [[.isl 1 (rows.map rv), .isl 1 (nl ls)]] true false)]) 1 1 (fun t => t.2 = t.1 ∧ t.1 ≤ a.length ∧ allF (cellB rows a k) t.1 (rows.length - t.1) = allF (cellB rows a k) 0 rows.length) (0, 0) ⟨rfl, Nat.zero_le _, rfl⟩ (Nat.le_refl _) [] rfl (kps) (kps) ?_
    rintro ⟨j, ij⟩ ⟨hij, hj, hq⟩
    dsimp only at hij hj hq ⊢
    subst hij
    refine bs.av (sx := nos) kX1_ok ?_
    by_cases hlj : j < a.length
    · rw [allF_step (k := j) (by omega)] at hq
      have e3 := nl_getn hlj
      have e4 := nl_getn (ns := nthR rows k) (k := j) (by omega)
      have e5 := rv_getn (rows := rows) (k := j) (by omega)
      have hrj := hr j (by omega)
      have e6 := nl_getn (ns := nthR rows j) (k := k) (by omega)
      by_cases c : IntKind.i64.wrap (nth a k * nth (nthR rows k) j) = IntKind.i64.wrap (nth a j * nth (nthR rows j) k)
      · rw [show cellB rows a k j = true from decide_eq_true c, Bool.true_and] at hq
        repeat' (first | refine wk3 ?_ | (refine wk2 ?_ ?_ <;> intro _) | refine wk4 ?_ | fail); all_goals (conv => whnf)
        exact Done.mk ⟨(j + 1, _), [], rfl, kps, kps, ⟨W_succ (by omega), hlj, hq⟩, by dsimp only; omega⟩
      · rw [show cellB rows a k j = false from decide_eq_false c, Bool.false_and] at hq
        rw [← hq, Bool.false_and] at hh
        repeat' (first | refine wk3 ?_ | (refine wk2 ?_ ?_ <;> intro _) | refine wk4 ?_ | fail); all_goals (conv => whnf)
        exact ret_bool hh
    · rw [show rows.length - j = 0 by omega] at hq
      rw [← hq, allF, Bool.true_and] at hh
      repeat' (first | refine wk3 ?_ | (refine wk2 ?_ ?_ <;> intro _) | refine wk4 ?_ | fail); all_goals (conv => whnf)
      exact Done.mk ⟨(k + 1, _), [], rfl, kps, kps, ⟨W_succ (by omega), hlt, hh⟩, by dsimp only; omega⟩
  · rw [show rows.length - k = 0 by omega, allF] at hh
    repeat' (first | refine wk3 ?_ | (refine wk2 ?_ ?_ <;> intro _) | refine wk4 ?_ | fail); all_goals (conv => whnf)
    exact ret_bool hh
/-- The error of an exchange with areas. -/
def rcE (rows : List (List Int)) (ls a : List Int) : Int := if (exV rows ls).2 ≠ 0 then (exV rows ls).2 else arE rows.length a
def rcB (rows : List (List Int)) (ls a : List Int) : Bool := if rcE rows ls a ≠ 0 then false else recW rows a
theorem Sq.of {rows : List (List Int)} {ls a : List Int} (h : (exV rows ls).2 = 0) (hl : a.length = rows.length) : Sq rows a := by
  obtain ⟨h1, h2⟩ := exV_zero h
  exact ⟨h2, fun k hk => by rw [nthR_get hk]; exact (h1.row _ (List.getElem_mem hk)).1, hl⟩
noncomputable def kX8 : PC := ins 115 (famX ExS fun rows ls => ⟨.tup [exA rows ls, I (exV rows ls).2], []⟩) (ins 105 (cBad 116 [] 1 1000000000) kX1)
theorem kX8_ok : PCOK Tryz.prog kX8 := famA_ok (fun q h => d115 h) (famA_ok (fun l h => d105_116 h) kX1_ok)
set_option maxRecDepth 100000 in
set_option maxHeartbeats 16000000 in
theorem d41 {rows : List (List Int)} {ls a : List Int} (h : ExL rows ls a) : PCall Tryz.prog 41 [exA rows ls, .isl 1 (nl a)] ⟨.tup [Bo (rcB rows ls a), I (rcE rows ls a)], []⟩ := by
  have l1 := rv_length rows
  have l2 := nl_length a
  have g1 := famX_hit (p := ExS) (fun rows ls => ⟨.tup [exA rows ls, I (exV rows ls).2], []⟩) h.1
  have g2 := cBad_hit (f := 116) (φ := []) (lo := 1) (hi := 1000000000) (ns := a) (by have := h.2; omega)
  by_cases z : (exV rows ls).2 = 0
  rotate_left
  · have e1 : rcE rows ls a = (exV rows ls).2 := by unfold rcE; rw [if_pos z]
    have e2 : rcB rows ls a = false := by unfold rcB; rw [e1, if_pos z]
    rw [e1, e2]
    refine bs.pv (sx := nos) kX8_ok Tryz.func41 (by kernel_rfl) (by kernel_rfl) rfl ?_
    repeat' (first | refine wk3 ?_ | (refine wk2 ?_ ?_ <;> intro _) | refine wk4 ?_ | fail); all_goals (conv => whnf)
    exact ret_of rfl rfl
  have e1 : rcE rows ls a = arE rows.length a := by unfold rcE; rw [if_neg (fun c => c z)]
  have ha : (a.all fun x => decide (1 ≤ x) && decide (x ≤ 1000000000)) = a.all fun n => within n 1 1000000000 := rfl
  unfold rcB
  rw [e1]
  unfold arE
  rw [ha]
  rw [z] at g1
  by_cases y : a.length = rows.length
  rotate_left
  · rw [if_neg y, if_pos (by omega)]
    refine bs.pv (sx := nos) kX8_ok Tryz.func41 (by kernel_rfl) (by kernel_rfl) rfl ?_
    repeat' (first | refine wk3 ?_ | (refine wk2 ?_ ?_ <;> intro _) | refine wk4 ?_ | fail); all_goals (conv => whnf)
    exact ret_of rfl rfl
  rw [if_pos y]
  obtain ⟨hn, hr, hl⟩ := Sq.of z y
  generalize (a.all fun n => within n 1 1000000000) = b at *
  cases b
  · rw [if_neg (show ¬ (false = true) by simp), if_pos (by omega)]
    refine bs.pv (sx := nos) kX8_ok Tryz.func41 (by kernel_rfl) (by kernel_rfl) rfl ?_
    repeat' (first | refine wk3 ?_ | (refine wk2 ?_ ?_ <;> intro _) | refine wk4 ?_ | fail); all_goals (conv => whnf)
    exact ret_of rfl rfl
  rw [if_pos rfl, if_neg (fun c => c rfl)]
  refine bs.pv (sx := nos) kX8_ok Tryz.func41 (by kernel_rfl) (by kernel_rfl) rfl ?_
  repeat' (first | refine wk3 ?_ | (refine wk2 ?_ ?_ <;> intro _) | refine wk4 ?_ | fail); all_goals (conv => whnf)
  refine loopV (S := Nat × Int) (fun t => rows.length - t.1) (fun t => [(1, .isl 1 (nl a)), (6, .ptr 1 0 0), (33, .isl 1 (rows.map rv)), (34, I (rows.map rv).length), (35, I t.2)]) (fun _ => [(1, .row 2 [[.isl 1 (rows.map rv), .isl 1 (nl ls)]] true false), (0, .row 2 [[.isl 1 (rows.map rv), .isl 1 (nl ls)]] true false)]) 2 2 (fun t => t.2 = t.1 ∧ t.1 ≤ rows.length ∧ allF (fun i => allF (cellB rows a i) 0 rows.length) t.1 (rows.length - t.1) = recW rows a) (0, 0) ⟨rfl, Nat.zero_le _, rfl⟩ (Nat.le_refl _) [] rfl (kps) (kps) ?_
  rintro ⟨k, i⟩ ⟨hi, hk, hh⟩
  dsimp only at hi hk hh ⊢
  subst hi
  generalize recW rows a = R at *
  refine bs.av (sx := nos) kX8_ok ?_
  by_cases hlt : k < rows.length
  · rw [allF_step (by omega)] at hh
    have e1 := nl_getn (ns := a) (k := k) (by omega)
    have e2 := rv_getn hlt
    have hrk := hr k (by omega)
    have l3 := nl_length (nthR rows k)
    repeat' (first | refine wk3 ?_ | (refine wk2 ?_ ?_ <;> intro _) | refine wk4 ?_ | fail); all_goals (conv => whnf)
    refine loopV (S := Nat × Int) (fun t => rows.length - t.1) (fun t => [(1, .isl 1 (nl a)), (6, .ptr 1 0 0), (8, I (k : Int)), (33, .isl 1 (rows.map rv)), (34, I (rows.map rv).length), (35, I (k : Int)), (40, .isl 1 (nl (nthR rows k))), (41, I (nl (nthR rows k)).length), (42, I t.2)]) (fun _ => [(1, .row 2 [[.isl 1 (rows.map rv), .isl 1 (nl ls)]] true false), (0, .row 2 [[.isl 1 (rows.map rv), .isl 1 (nl ls)]] true false)]) 2 2 (fun t => t.2 = t.1 ∧ t.1 ≤ rows.length ∧ allF (cellB rows a k) t.1 (rows.length - t.1) = allF (cellB rows a k) 0 rows.length) (0, 0) ⟨rfl, Nat.zero_le _, rfl⟩ (Nat.le_refl _) [] rfl (kps) (kps) ?_
    rintro ⟨j, ij⟩ ⟨hij, hj, hq⟩
    dsimp only at hij hj hq ⊢
    subst hij
    refine bs.av (sx := nos) kX8_ok ?_
    by_cases hlj : j < rows.length
    · rw [allF_step (k := j) (by omega)] at hq
      have e3 := nl_getn (ns := a) (k := j) (by omega)
      have e4 := nl_getn (ns := nthR rows k) (k := j) (by omega)
      have e5 := rv_getn (rows := rows) (k := j) (by omega)
      have hrj := hr j (by omega)
      have e6 := nl_getn (ns := nthR rows j) (k := k) (by omega)
      by_cases c : IntKind.i64.wrap (nth a k * nth (nthR rows k) j) = IntKind.i64.wrap (nth a j * nth (nthR rows j) k)
      · rw [show cellB rows a k j = true from decide_eq_true c, Bool.true_and] at hq
        repeat' (first | refine wk3 ?_ | (refine wk2 ?_ ?_ <;> intro _) | refine wk4 ?_ | fail); all_goals (conv => whnf)
        exact Done.mk ⟨(j + 1, _), [], rfl, kps, kps, ⟨W_succ (by omega), hlj, hq⟩, by dsimp only; omega⟩
      · rw [show cellB rows a k j = false from decide_eq_false c, Bool.false_and] at hq
        rw [← hq, Bool.false_and] at hh
        repeat' (first | refine wk3 ?_ | (refine wk2 ?_ ?_ <;> intro _) | refine wk4 ?_ | fail); all_goals (conv => whnf)
        exact ret_of (by rw [hh]) rfl
    · rw [show rows.length - j = 0 by omega] at hq
      rw [← hq, allF, Bool.true_and] at hh
      repeat' (first | refine wk3 ?_ | (refine wk2 ?_ ?_ <;> intro _) | refine wk4 ?_ | fail); all_goals (conv => whnf)
      exact Done.mk ⟨(k + 1, _), [], rfl, kps, kps, ⟨W_succ (by omega), hlt, hh⟩, by dsimp only; omega⟩
  · rw [show rows.length - k = 0 by omega, allF] at hh
    repeat' (first | refine wk3 ?_ | (refine wk2 ?_ ?_ <;> intro _) | refine wk4 ?_ | fail); all_goals (conv => whnf)
    exact ret_of (by rw [hh]) rfl
/-! What reciprocal means for the numbers. -/
theorem arE_zero {n : Nat} {a : List Int} (h : arE n a = 0) : a.length = n ∧ ∀ x ∈ a, 1 ≤ x ∧ x ≤ 1000000000 := by
  unfold arE at h
  split at h
  · rename_i h1
    split at h
    · rename_i h2
      rw [List.all_eq_true] at h2
      exact ⟨h1, fun x hx => by have := h2 x hx; simp only [Bool.and_eq_true, decide_eq_true_eq] at this; exact this⟩
    · cases h
  · cases h
theorem prod_bd {x s : Int} (hx : 1 ≤ x ∧ x ≤ 1000000000) (hs : 0 ≤ s ∧ s ≤ 1000) : IntKind.i64.wrap (x * s) = x * s := by
  obtain ⟨a, b⟩ := part_bd (kept := x) (by omega) hs.1 hs.2
  exact W_eq (by omega) (by omega)
theorem rec_of {rows : List (List Int)} {ls a : List Int} (h : ExOk rows.length rows ls) (hl : a.length = rows.length) (ha : ∀ x ∈ a, 1 ≤ x ∧ x ≤ 1000000000) (hr : recW rows a = true) : Rec rows a := by
  intro i k hi hk
  unfold recW at hr
  rw [allF_iff] at hr
  have h1 := hr i (by omega) (by omega)
  rw [allF_iff] at h1
  have h2 := of_decide_eq_true (h1 k (by omega) (by omega))
  rw [nthR_get hi, nthR_get hk] at h2
  obtain ⟨a1, a2, _⟩ := h.row _ (List.getElem_mem hi)
  obtain ⟨b1, b2, _⟩ := h.row _ (List.getElem_mem hk)
  have c1 : nth a i ∈ a := by rw [nth_get (by omega)]; exact List.getElem_mem _
  have c2 : nth a k ∈ a := by rw [nth_get (by omega)]; exact List.getElem_mem _
  have c3 : nth rows[i] k ∈ rows[i] := by rw [nth_get (by omega)]; exact List.getElem_mem _
  have c4 : nth rows[k] i ∈ rows[k] := by rw [nth_get (by omega)]; exact List.getElem_mem _
  rw [prod_bd (ha _ c1) (a2 _ c3), prod_bd (ha _ c2) (b2 _ c4)] at h2
  exact h2
theorem exGo_ok {n : Nat} : ∀ {rows : List (List Int)} {ls : List Int} {i : Nat}, (∀ r ∈ rows, RowOk n r) → (∀ x ∈ ls, 0 ≤ x ∧ x ≤ 1000) → exGo n i rows ls = (0, 0)
  | [], _, _, _, _ => by simp [exGo]
  | _ :: _, [], _, _, _ => by simp [exGo]
  | r :: rows, l :: ls, i, h, hl => by
    obtain ⟨h1, h2, h3⟩ := h r (by simp)
    have hr : rowE n r l = 0 := by
      unfold rowE
      rw [if_pos h1, if_pos (List.all_eq_true.2 fun s hs => shr_iff.2 (h2 s hs)), if_pos h3, if_pos (shr_iff.2 (hl l (by simp)))]
    rw [exGo, if_pos hr]
    exact exGo_ok (fun r hr => h r (by simp [hr])) fun x hx => hl x (by simp [hx])
theorem exV_ok {rows : List (List Int)} {ls : List Int} (h : ExOk rows.length rows ls) (hn : rows.length ≤ 12) : (exV rows ls).2 = 0 := by
  unfold exV
  rw [if_neg (by have := h.pos; omega), if_neg (by omega), if_pos h.ll, exGo_ok h.row h.lost]
theorem ex_zer {n : Nat} {rows : List (List Int)} {ls : List Int} (h : ExOk n rows ls) : ExOk n rows (zer n) :=
  ⟨h.pos, h.rl, zer_len n, h.row, zer_bd (by omega)⟩
end Go.Proofs.YtddhjopopelkjaaGreat
