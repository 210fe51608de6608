/- A part of the proof: lemmas. -/
import Derived.Test.YtddhjopopelkjaaGreatYF5
import Derived.Laws.Bits64b
import Derived.Lib.Mul64
set_option linter.unusedVariables false
set_option linter.unusedSimpArgs false
namespace Go.Proofs.YtddhjopopelkjaaGreat
open Go Go.Sx Go.En
/-! ### Products of two words -/
abbrev U (n : Int) : AV := .int .u64 n
def u64 (n : Int) : Prop := 0 ≤ n ∧ n < 18446744073709551616
theorem mkN (a : Nat) (ha : a < 18446744073709551616) : IntKind.u64.wrap (((BitVec.ofInt IntKind.u64.bits (a : Int) &&& BitVec.ofInt IntKind.u64.bits 4294967295).toNat : Nat) : Int) = ((a % 4294967296 : Nat) : Int) := by
  have h := bits_and_u64_nat a 4294967295 ha (by omega)
  have e : a &&& 4294967295 = a % 4294967296 := Nat.and_two_pow_sub_one_eq_mod a 32
  rw [e] at h
  exact h
theorem fdN (a : Nat) : (a : Int).fdiv (2 ^ min (Int.toNat 32) IntKind.u64.bits) = ((a / 4294967296 : Nat) : Int) := by
  rw [show (2 ^ min (Int.toNat 32) IntKind.u64.bits : Int) = 4294967296 from rfl, Int.fdiv_eq_ediv_of_nonneg _ (by omega)]; omega
theorem mulN (a b : Nat) : (a : Int) * (b : Int) = ((a * b : Nat) : Int) := (Int.natCast_mul a b).symm
theorem addN (a b : Nat) : (a : Int) + (b : Int) = ((a + b : Nat) : Int) := (Int.natCast_add a b).symm
theorem wrapN (a : Nat) (ha : a < 18446744073709551616) : IntKind.u64.wrap (a : Int) = (a : Int) := by rw [IntKind.wrap_u64]; omega
theorem wrapM (a : Nat) : IntKind.u64.wrap (a : Int) = ((a % 18446744073709551616 : Nat) : Int) := by rw [IntKind.wrap_u64]; omega
set_option maxRecDepth 100000 in
set_option maxHeartbeats 8000000 in
theorem mul_text (x y : Nat) (hx : x < 18446744073709551616) (hy : y < 18446744073709551616) : AV.tup [AV.int IntKind.u64 (IntKind.u64.wrap (IntKind.u64.wrap (IntKind.u64.wrap (((x : Int)).fdiv (2 ^ min (Int.toNat 32) IntKind.u64.bits) * ((y : Int)).fdiv (2 ^ min (Int.toNat 32) IntKind.u64.bits)) + ((IntKind.u64.wrap (IntKind.u64.wrap (((x : Int)).fdiv (2 ^ min (Int.toNat 32) IntKind.u64.bits) * IntKind.u64.wrap ((BitVec.ofInt IntKind.u64.bits ((y : Int)) &&& BitVec.ofInt IntKind.u64.bits 4294967295).toNat : Int)) + ((IntKind.u64.wrap ((IntKind.u64.wrap ((BitVec.ofInt IntKind.u64.bits ((x : Int)) &&& BitVec.ofInt IntKind.u64.bits 4294967295).toNat : Int)) * (IntKind.u64.wrap ((BitVec.ofInt IntKind.u64.bits ((y : Int)) &&& BitVec.ofInt IntKind.u64.bits 4294967295).toNat : Int)))).fdiv (2 ^ min (Int.toNat 32) IntKind.u64.bits)))).fdiv (2 ^ min (Int.toNat 32) IntKind.u64.bits))) + ((IntKind.u64.wrap (IntKind.u64.wrap ((BitVec.ofInt IntKind.u64.bits (IntKind.u64.wrap (IntKind.u64.wrap (((x : Int)).fdiv (2 ^ min (Int.toNat 32) IntKind.u64.bits) * IntKind.u64.wrap ((BitVec.ofInt IntKind.u64.bits ((y : Int)) &&& BitVec.ofInt IntKind.u64.bits 4294967295).toNat : Int)) + ((IntKind.u64.wrap ((IntKind.u64.wrap ((BitVec.ofInt IntKind.u64.bits ((x : Int)) &&& BitVec.ofInt IntKind.u64.bits 4294967295).toNat : Int)) * (IntKind.u64.wrap ((BitVec.ofInt IntKind.u64.bits ((y : Int)) &&& BitVec.ofInt IntKind.u64.bits 4294967295).toNat : Int)))).fdiv (2 ^ min (Int.toNat 32) IntKind.u64.bits)))) &&& BitVec.ofInt IntKind.u64.bits 4294967295).toNat : Int) + IntKind.u64.wrap (IntKind.u64.wrap ((BitVec.ofInt IntKind.u64.bits ((x : Int)) &&& BitVec.ofInt IntKind.u64.bits 4294967295).toNat : Int) * ((y : Int)).fdiv (2 ^ min (Int.toNat 32) IntKind.u64.bits)))).fdiv (2 ^ min (Int.toNat 32) IntKind.u64.bits)))), AV.int IntKind.u64 (IntKind.u64.wrap ((x : Int) * (y : Int)))] = AV.tup [U ((x : Int) * (y : Int) / 18446744073709551616), U ((x : Int) * (y : Int) % 18446744073709551616)] := by
  obtain ⟨bd, bt, bw, hhi⟩ := Go.Lib.mul64_hi x y hx hy
  have ba := Go.Lib.half_mul_le (a := x / 4294967296) (b := y / 4294967296) (by omega) (by omega)
  have bb := Go.Lib.half_mul_le (a := x / 4294967296) (b := y % 4294967296) (by omega) (by omega)
  have bc := Go.Lib.half_mul_le (a := x % 4294967296) (b := y / 4294967296) (by omega) (by omega)
  have ba' : x / 4294967296 * (y / 4294967296) < 18446744073709551616 := by omega
  have bb' : x / 4294967296 * (y % 4294967296) < 18446744073709551616 := by omega
  have bc' : x % 4294967296 * (y / 4294967296) < 18446744073709551616 := by omega
  have bh1 : x / 4294967296 * (y / 4294967296) + (x / 4294967296 * (y % 4294967296) + x % 4294967296 * (y % 4294967296) / 4294967296) / 4294967296 < 18446744073709551616 := by omega
  have bh : x / 4294967296 * (y / 4294967296) + (x / 4294967296 * (y % 4294967296) + x % 4294967296 * (y % 4294967296) / 4294967296) / 4294967296 + ((x / 4294967296 * (y % 4294967296) + x % 4294967296 * (y % 4294967296) / 4294967296) % 4294967296 + x % 4294967296 * (y / 4294967296)) / 4294967296 < 18446744073709551616 := by omega
  simp only [mkN x hx, mkN y hy, fdN, mulN, addN, wrapN _ bd, wrapN _ bb', wrapN _ bt, mkN _ bt, wrapN _ bc', wrapN _ bw, wrapN _ ba', wrapN _ bh1, wrapN _ bh, wrapM (x * y)]
  rw [hhi]
  rfl
set_option maxRecDepth 100000 in
set_option maxHeartbeats 8000000 in
theorem d185 {x y : Int} (hx : u64 x) (hy : u64 y) : PCall Tryz.prog 185 [U x, U y] ⟨.tup [U (x * y / 18446744073709551616), U (x * y % 18446744073709551616)], []⟩ := by
  refine bs.pv (sx := nos) pt0_ok Tryz.func185 (by kernel_rfl) (by kernel_rfl) rfl ?_
  repeat' (first | refine wk1 ?_ | (refine wk2 ?_ ?_ <;> intro _) | refine wk4 ?_ | fail); all_goals (conv => whnf)
  refine ret_of ?_ rfl
  obtain ⟨h0, hx⟩ := hx
  obtain ⟨h1, hy⟩ := hy
  obtain ⟨a, rfl⟩ := Int.eq_ofNat_of_zero_le h0
  obtain ⟨b, rfl⟩ := Int.eq_ofNat_of_zero_le h1
  exact mul_text a b (by omega) (by omega)
instance (n : Int) : Decidable (u64 n) := by unfold u64; exact inferInstance
def r185 : List AV → Option PRes
  | [.int .u64 x, .int .u64 y] => asr (decide (u64 x ∧ u64 y)) ⟨.tup [U (x * y / 18446744073709551616), U (x * y % 18446744073709551616)], []⟩
  | _ => none

abbrev nnS (n : Int) : Prop := 0 ≤ n ∧ n < 9223372036854775808
abbrev amOk (a b c d : Int) : Prop := nnS a ∧ nnS b ∧ nnS c ∧ nnS d
def kXu : PC := ins 185 r185 pt0
theorem kXu_ok : PCOK Tryz.prog kXu := by
  refine ins_ok (fun a res h => ?_) pt0_ok
  unfold r185 at h; split at h
  · obtain ⟨h1, rfl⟩ := asr_some h
    have := of_decide_eq_true h1
    exact d185 this.1 this.2
  · cases h
theorem u64_w {n : Int} (h : nnS n) : IntKind.u64.wrap n = n := by
  obtain ⟨h0, h1⟩ := h
  rw [IntKind.wrap_u64]; omega
theorem r185_hit {a b : Int} (ha : nnS a) (hb : nnS b) : r185 [U (IntKind.u64.wrap a), U (IntKind.u64.wrap b)] = some ⟨.tup [U (a * b / 18446744073709551616), U (a * b % 18446744073709551616)], []⟩ := by
  rw [u64_w ha, u64_w hb]
  exact asr_of ⟨⟨ha.1, by have := ha.2; omega⟩, ⟨hb.1, by have := hb.2; omega⟩⟩
set_option maxHeartbeats 8000000 in
theorem d136 {a b c d : Int} (h : amOk a b c d) : PCall Tryz.prog 136 [I a, I b, I c, I d] ⟨Bo (decide (a * b ≤ c * d)), []⟩ := by
  obtain ⟨ha, hb, hc, hd⟩ := h
  have h1 := r185_hit ha hb
  have h2 := r185_hit hc hd
  have p1 : 0 ≤ a * b := Int.mul_nonneg ha.1 hb.1
  have p2 : 0 ≤ c * d := Int.mul_nonneg hc.1 hd.1
  refine bs.pv (sx := nos) kXu_ok Tryz.func136 (by kernel_rfl) (by kernel_rfl) rfl ?_
  generalize a * b = X at *
  generalize c * d = Y at *
  by_cases e : X ≤ Y
  · rw [decide_eq_true e]
    repeat' (first | refine wk3 ?_ | (refine wk2 ?_ ?_ <;> intro _) | refine wk4 ?_ | fail); all_goals (conv => whnf)
    all_goals first
      | exact ret_bool rfl
      | (refine ret_bool ?_; simp_all; done)
      | (refine ret_bool ?_; simp_all; omega)
      | (exfalso; simp_all; omega)
  · rw [decide_eq_false e]
    repeat' (first | refine wk3 ?_ | (refine wk2 ?_ ?_ <;> intro _) | refine wk4 ?_ | fail); all_goals (conv => whnf)
    all_goals first
      | exact ret_bool rfl
      | (refine ret_bool ?_; simp_all; done)
      | (refine ret_bool ?_; simp_all; omega)
      | (exfalso; simp_all; omega)
instance (a b c d : Int) : Decidable (amOk a b c d) := by unfold amOk nnS; exact inferInstance
def r136 : List AV → Option PRes
  | [.int .i64 a, .int .i64 b, .int .i64 c, .int .i64 d] => asr (decide (amOk a b c d)) ⟨Bo (decide (a * b ≤ c * d)), []⟩
  | _ => none
theorem r136_hit {a b c d : Int} (h : amOk a b c d) : r136 [I a, I b, I c, I d] = some ⟨Bo (decide (a * b ≤ c * d)), []⟩ := asr_of h
abbrev mdOk (n b : Int) : Prop := 0 ≤ n ∧ 0 < b
theorem d46 {n b : Int} (h : mdOk n b) : PCall Tryz.prog 46 [I n, I b] ⟨I (n % b), []⟩ := by
  obtain ⟨h0, hb⟩ := h
  have hz : ¬ b = 0 := by omega
  have e1 : n.tmod b = n % b := Int.tmod_eq_emod_of_nonneg h0
  have e2 : 0 ≤ n % b := Int.emod_nonneg n hz
  refine bs.pv (sx := nos) pt0_ok Tryz.func46 (by kernel_rfl) (by kernel_rfl) rfl ?_
  repeat' (first | refine wk3 ?_ | (refine wk2 ?_ ?_ <;> intro _) | refine wk4 ?_ | fail); all_goals (conv => whnf)
  all_goals first
    | exact ret_int e1
    | (exfalso; simp_all; omega)
def r46 : List AV → Option PRes
  | [.int .i64 n, .int .i64 b] => asr (decide (mdOk n b)) ⟨I (n % b), []⟩
  | _ => none
theorem r46_hit {n b : Int} (h : mdOk n b) : r46 [I n, I b] = some ⟨I (n % b), []⟩ := asr_of h
noncomputable def kXs : PC := ins 136 r136 (ins 46 r46 kX5)
theorem kXs_ok : PCOK Tryz.prog kXs := by
  refine ins_ok (fun a res h => ?_) (ins_ok (fun a res h => ?_) kX5_ok)
  · unfold r136 at h; split at h
    · obtain ⟨h1, rfl⟩ := asr_some h; exact d136 (of_decide_eq_true h1)
    · cases h
  · unfold r46 at h; split at h
    · obtain ⟨h1, rfl⟩ := asr_some h; exact d46 (of_decide_eq_true h1)
    · cases h
/-! ### The least number of steps -/
def findI (f : Nat → Bool) : Nat → Nat → Int
  | _, 0 => -1
  | k, c + 1 => if f k then (k : Int) else findI f (k + 1) c
theorem findI_step {f : Nat → Bool} {k n : Nat} (h : k < n) : findI f k (n - k) = if f k then (k : Int) else findI f (k + 1) (n - (k + 1)) := by
  rw [show n - k = (n - (k + 1)) + 1 by omega, findI]
theorem findI_ge (f : Nat → Bool) : ∀ (c k : Nat), findI f k c = -1 ∨ 0 ≤ findI f k c
  | 0, _ => Or.inl rfl
  | c + 1, k => by
    rw [findI]
    split
    · exact Or.inr (by omega)
    · exact findI_ge f c (k + 1)
def decN (rows : List (List Int)) (ls e : List Int) (m : Int) (n : Nat) : Bool := decide (tot (En.run rows ls n e).1 * 1000000 ≤ m * tot e)
def stN (rows : List (List Int)) (ls e : List Int) (m : Int) : Int := findI (decN rows ls e m) 0 1001
def stE (rows : List (List Int)) (ls e : List Int) (m : Int) : Int := if owE rows ls e ≠ 0 then owE rows ls e else unl (within m 0 1000000) 2
def stR (rows : List (List Int)) (ls e : List Int) (m : Int) : Int × Int := if stE rows ls e m ≠ 0 then (0, stE rows ls e m) else if stN rows ls e m < 0 then (0, 12) else (stN rows ls e m, 0)
abbrev StOk (rows : List (List Int)) (ls e : List Int) (m : Int) : Prop := StH rows ls e ∧ 0 ≤ m ∧ m ≤ 1000000
set_option maxRecDepth 100000 in
set_option maxHeartbeats 8000000 in
theorem d62 {rows : List (List Int)} {ls e : List Int} {m : Int} (h : StOk rows ls e m) : PCall Tryz.prog 62 [exA rows ls, .isl 1 (nl e), I m] ⟨I (stN rows ls e m), []⟩ := by
  obtain ⟨hst, hm⟩ := h
  have c3 := cints_hit hst.len
  have k1 := cSum_hit (ns := e) (by have := hst.len; omega)
  rw [hst.sum] at k1
  have tE := hst.t
  have tE0 := tot_nn hst.nn
  have hf := fl_hit (n := tot e) (b := 1000000) ⟨by omega, by omega, by omega⟩
  have hmd := r46_hit (n := tot e) (b := 1000000) ⟨by omega, by omega⟩
  have q1 : 0 ≤ tot e / 1000000 * m ∧ tot e / 1000000 * m ≤ 13000000000000 := by
    have := Int.mul_le_mul_of_nonneg_left hm.2 (show 0 ≤ tot e / 1000000 by omega)
    exact ⟨Int.mul_nonneg (by omega) hm.1, by omega⟩
  have q2 : 0 ≤ tot e % 1000000 * m ∧ tot e % 1000000 * m ≤ 1000000000000 := by
    have := Int.mul_le_mul_of_nonneg_left hm.2 (show 0 ≤ tot e % 1000000 by omega)
    exact ⟨Int.mul_nonneg (by omega) hm.1, by omega⟩
  have w1 : IntKind.i64.wrap (tot e / 1000000 * m) = tot e / 1000000 * m := W_eq (by omega) (by omega)
  have w2 : IntKind.i64.wrap (tot e % 1000000 * m) = tot e % 1000000 * m := W_eq (by omega) (by omega)
  have hf2 := fl_hit (n := IntKind.i64.wrap (tot e % 1000000 * m)) (b := 1000000) ⟨by omega, by omega, by omega⟩
  have w3 : IntKind.i64.wrap (IntKind.i64.wrap (tot e / 1000000 * m) + IntKind.i64.wrap (tot e % 1000000 * m) / 1000000) = tot e / 1000000 * m + tot e % 1000000 * m / 1000000 := by rw [w1, w2]; exact W_eq (by omega) (by omega)
  have hp : ∀ now : Int, (now * 1000000 ≤ m * tot e) ↔ (now ≤ tot e / 1000000 * m + tot e % 1000000 * m / 1000000) := fun now => parts_iff hm.1 tE0
  refine bs.pv (sx := nos) kXs_ok Tryz.func62 (by kernel_rfl) (by kernel_rfl) rfl ?_
  repeat' (first | refine wk3 ?_ | (refine wk2 ?_ ?_ <;> intro _) | refine wk4 ?_ | fail); all_goals (conv => whnf)
  refine loopV (S := Nat × Int × List Int) (fun t => 1001 - t.1) (fun t => [(2, I m), (3, .ptr 0 0 0), (7, I (tot e)), (8, .isl 1 (nl t.2.2)), (9, I t.2.1)]) (fun _ => [(0, .row 2 [[.isl 1 (rows.map rv), .isl 1 (nl ls)]] true false)]) 1 1 (fun t => t.2.1 = t.1 ∧ t.1 ≤ 1001 ∧ (En.run rows ls t.1 e).1 = t.2.2 ∧ findI (decN rows ls e m) t.1 (1001 - t.1) = stN rows ls e m) (0, 0, e) ⟨rfl, Nat.zero_le _, rfl, rfl⟩ (Nat.le_refl _) [] rfl (kps) (kps) ?_
  rintro ⟨k, i, cur⟩ ⟨hi, hk, hc, hh⟩
  dsimp only at hi hk hc hh ⊢
  subst hi
  generalize stN rows ls e m = R at *
  refine bs.av (sx := nos) kXs_ok ?_
  by_cases hlt : k < 1001
  · rw [findI_step hlt] at hh
    have hS := hst.run k
    have hd : decN rows ls e m k = decide (tot (En.run rows ls k e).1 * 1000000 ≤ m * tot e) := rfl
    have hr := run_succ (rows := rows) (ls := ls) k e
    rw [hc] at hS hd hr
    have k2 := cSum_hit (ns := cur) (by have := hS.len; omega)
    rw [hS.sum] at k2
    have h34 := famXE_hit (p := StH) rStep hS
    by_cases c : tot cur ≤ tot e / 1000000 * m + tot e % 1000000 * m / 1000000
    · rw [hd, decide_eq_true ((hp _).2 c), if_pos rfl] at hh
      repeat' (first | refine wk3 ?_ | (refine wk2 ?_ ?_ <;> intro _) | refine wk4 ?_ | fail); all_goals (conv => whnf)
      exact ret_int hh
    · rw [hd, decide_eq_false (fun x => c ((hp _).1 x)), if_neg (by simp)] at hh
      repeat' (first | refine wk3 ?_ | (refine wk2 ?_ ?_ <;> intro _) | refine wk4 ?_ | fail); all_goals (conv => whnf)
      exact Done.mk ⟨(k + 1, IntKind.i64.wrap ((k : Int) + 1), (En.step rows ls cur).1), [], rfl, kps, kps, ⟨W_succ (by omega), hlt, by rw [hr], hh⟩, by dsimp only; omega⟩
  · rw [show 1001 - k = 0 by omega, findI] at hh
    repeat' (first | refine wk3 ?_ | (refine wk2 ?_ ?_ <;> intro _) | refine wk4 ?_ | fail); all_goals (conv => whnf)
    exact ret_int hh
set_option maxRecDepth 100000 in
set_option maxHeartbeats 8000000 in
theorem d61 {rows : List (List Int)} {ls e : List Int} {m : Int} (h : ExL rows ls e) : PCall Tryz.prog 61 [exA rows ls, .isl 1 (nl e), I m] ⟨.tup [I (stR rows ls e m).1, I (stR rows ls e m).2], []⟩ := by
  have g1 := famXE_hit (fun rows ls e => ⟨.tup [exA rows ls, I (owE rows ls e)], []⟩) h
  by_cases z : owE rows ls e = 0
  rotate_left
  · have e0 : stE rows ls e m = owE rows ls e := by unfold stE; rw [if_pos z]
    have e1 : stR rows ls e m = (0, owE rows ls e) := by unfold stR; rw [e0, if_pos z]
    rw [e1]
    refine bs.pv (sx := nos) kXs_ok Tryz.func61 (by kernel_rfl) (by kernel_rfl) rfl ?_
    repeat' (first | refine wk3 ?_ | (refine wk2 ?_ ?_ <;> intro _) | refine wk4 ?_ | fail); all_goals (conv => whnf)
    exact ret_of rfl rfl
  have e0 : stE rows ls e m = unl (within m 0 1000000) 2 := by unfold stE; rw [if_neg (fun c => c z)]
  rw [z] at g1
  by_cases y : within m 0 1000000 = true
  rotate_left
  · have y : within m 0 1000000 = false := by simpa using y
    have y2 : unl (within m 0 1000000) 2 = 2 := by rw [y]; rfl
    have e1 : stR rows ls e m = (0, 2) := by unfold stR; rw [e0, y2, if_pos (by omega)]
    rw [e1]
    refine bs.pv (sx := nos) kXs_ok Tryz.func61 (by kernel_rfl) (by kernel_rfl) rfl ?_
    repeat' (first | refine wk3 ?_ | (refine wk2 ?_ ?_ <;> intro _) | refine wk4 ?_ | fail); all_goals (conv => whnf)
    exact ret_of (by rw [y2]) rfl
  have y2 : unl (within m 0 1000000) 2 = 0 := by rw [y]; rfl
  have hm := within_iff.1 y
  have hst := owE_of z
  have e1 : stR rows ls e m = if stN rows ls e m < 0 then (0, 12) else (stN rows ls e m, 0) := by unfold stR; rw [e0, y2, if_neg (fun c => c rfl)]
  rw [e1]
  have k1 := cSum_hit (ns := e) (by have := hst.len; omega)
  rw [hst.sum] at k1
  have tE := hst.t
  have tE0 := tot_nn hst.nn
  refine bs.pv (sx := nos) kXs_ok Tryz.func61 (by kernel_rfl) (by kernel_rfl) rfl ?_
  repeat' (first | refine wk3 ?_ | (refine wk2 ?_ ?_ <;> intro _) | refine wk4 ?_ | fail); all_goals (conv => whnf)
  refine loopV (S := Nat × Int × List Int) (fun t => 1001 - t.1) (fun t => [(1, .isl 1 (nl t.2.2)), (2, I m), (8, .ptr 1 0 0), (10, I (tot e)), (28, I t.2.1)]) (fun _ => [(1, .row 2 [[.isl 1 (rows.map rv), .isl 1 (nl ls)]] true false), (0, .row 2 [[.isl 1 (rows.map rv), .isl 1 (nl ls)]] true false)]) 2 2 (fun t => t.2.1 = t.1 ∧ t.1 ≤ 1001 ∧ (En.run rows ls t.1 e).1 = t.2.2 ∧ findI (decN rows ls e m) t.1 (1001 - t.1) = stN rows ls e m) (0, 0, e) ⟨rfl, Nat.zero_le _, rfl, rfl⟩ (Nat.le_refl _) [] rfl (kps) (kps) ?_
  rintro ⟨k, i, cur⟩ ⟨hi, hk, hc, hh⟩
  dsimp only at hi hk hc hh ⊢
  subst hi
  generalize stN rows ls e m = R at *
  refine bs.av (sx := nos) kXs_ok ?_
  by_cases hlt : k < 1001
  · rw [findI_step hlt] at hh
    have hS := hst.run k
    have hd : decN rows ls e m k = decide (tot (En.run rows ls k e).1 * 1000000 ≤ m * tot e) := rfl
    have hr := run_succ (rows := rows) (ls := ls) k e
    rw [hc] at hS hd hr
    have k2 := cSum_hit (ns := cur) (by have := hS.len; omega)
    rw [hS.sum] at k2
    have h114 := famXE_hit (p := StH) rStep hS
    have tC := hS.t
    have tC0 := tot_nn hS.nn
    have ham := r136_hit (a := tot cur) (b := 1000000) (c := m) (d := tot e) ⟨⟨by omega, by omega⟩, ⟨by omega, by omega⟩, ⟨by omega, by omega⟩, ⟨by omega, by omega⟩⟩
    by_cases c : tot cur * 1000000 ≤ m * tot e
    · rw [hd, decide_eq_true c, if_pos rfl] at hh
      rw [decide_eq_true c] at ham
      repeat' (first | refine wk3 ?_ | (refine wk2 ?_ ?_ <;> intro _) | refine wk4 ?_ | fail); all_goals (conv => whnf)
      exact ret_of (by rw [← hh, if_neg (by omega)]) rfl
    · rw [hd, decide_eq_false c, if_neg (by simp)] at hh
      rw [decide_eq_false c] at ham
      repeat' (first | refine wk3 ?_ | (refine wk2 ?_ ?_ <;> intro _) | refine wk4 ?_ | fail); all_goals (conv => whnf)
      exact Done.mk ⟨(k + 1, IntKind.i64.wrap ((k : Int) + 1), (En.step rows ls cur).1), [], rfl, kps, kps, ⟨W_succ (by omega), hlt, by rw [hr], hh⟩, by dsimp only; omega⟩
  · rw [show 1001 - k = 0 by omega, findI] at hh
    repeat' (first | refine wk3 ?_ | (refine wk2 ?_ ?_ <;> intro _) | refine wk4 ?_ | fail); all_goals (conv => whnf)
    exact ret_of (by rw [← hh, if_pos (by omega)]) rfl
end Go.Proofs.YtddhjopopelkjaaGreat
