/- A part of the proof: lemmas. -/
import Derived.Test.YtddhjopopelkjaaGreatZF4
import Derived.Laws.Bits64b
import Derived.Lib.Mul64
set_option linter.unusedVariables false
set_option linter.unusedSimpArgs false
namespace Go.Proofs.YtddhjopopelkjaaGreat
open Go Go.Sx

/-! ### Contracts: a way -/
abbrev U (n : Int) : AV := .int .u64 n
abbrev wayA (p q : Pt) : AV := .agg [I p.x, I p.y, I p.z, I p.d, I q.x, I q.y, I q.z, I q.d]
theorem c204 (p q : Pt) : PCall Tryz.prog 219 [wayA p q] ⟨.tup [I (wayDx p q), I (wayDy p q)], []⟩ := by
  refine bs.pv (sx := nos) pt0_ok Tryz.func219 (by kernel_rfl) (by kernel_rfl) rfl ?_
  repeat' (first | refine wk0 ?_ | (refine wk2 ?_ ?_ <;> intro _) | refine wk4 ?_ | fail); all_goals (conv => whnf)
  exact ret_of rfl rfl
theorem c207 (fr den to oth a b : Int) : PCall Tryz.prog 222 [I fr, I den, I to, I oth, I a, I b] ⟨Bo (ovl fr den to oth a b), []⟩ := by
  refine bs.pv (sx := nos) pt0_ok Tryz.func222 (by kernel_rfl) (by kernel_rfl) rfl ?_
  repeat' (first | refine wk0 ?_ | (refine wk2 ?_ ?_ <;> intro _) | refine wk4 ?_ | fail); all_goals (conv => whnf)
  all_goals (refine ret_bool ?_; simp_all [ovl] <;> (intro _; omega))
theorem c182 (p q : Pt) : PCall Tryz.prog 195 [wayA p q] ⟨.tup [I (midX p q), I (midY p q), I (midD p q)], []⟩ := by
  refine bs.pv (sx := nos) pt0_ok Tryz.func195 (by kernel_rfl) (by kernel_rfl) rfl ?_
  repeat' (first | refine wk0 ?_ | (refine wk2 ?_ ?_ <;> intro _) | refine wk4 ?_ | fail); all_goals (conv => whnf)
  exact ret_of rfl rfl
def u64 (n : Int) : Prop := 0 ≤ n ∧ n < 18446744073709551616
theorem mkN (a : Nat) (ha : a < 18446744073709551616) : IntKind.u64.wrap (((BitVec.ofInt IntKind.u64.bits (a : Int) &&& BitVec.ofInt IntKind.u64.bits 4294967295).toNat : Nat) : Int) = ((a % 4294967296 : Nat) : Int) := by
  have h := bits_and_u64_nat a 4294967295 ha (by omega)
  have e : a &&& 4294967295 = a % 4294967296 := Nat.and_two_pow_sub_one_eq_mod a 32
  rw [e] at h
  exact h
theorem fdN (a : Nat) : (a : Int).fdiv (2 ^ min (Int.toNat 32) IntKind.u64.bits) = ((a / 4294967296 : Nat) : Int) := by
  rw [show (2 ^ min (Int.toNat 32) IntKind.u64.bits : Int) = 4294967296 from rfl, Int.fdiv_eq_ediv_of_nonneg _ (by omega)]; omega
theorem mulN (a b : Nat) : (a : Int) * (b : Int) = ((a * b : Nat) : Int) := (Int.natCast_mul a b).symm
theorem addN (a b : Nat) : (a : Int) + (b : Int) = ((a + b : Nat) : Int) := (Int.natCast_add a b).symm
theorem wrapN (a : Nat) (ha : a < 18446744073709551616) : IntKind.u64.wrap (a : Int) = (a : Int) := by rw [IntKind.wrap_u64]; omega
theorem wrapM (a : Nat) : IntKind.u64.wrap (a : Int) = ((a % 18446744073709551616 : Nat) : Int) := by rw [IntKind.wrap_u64]; omega
set_option maxRecDepth 100000 in
set_option maxHeartbeats 8000000 in
theorem mul_text (x y : Nat) (hx : x < 18446744073709551616) (hy : y < 18446744073709551616) : AV.tup [AV.int IntKind.u64 (IntKind.u64.wrap (IntKind.u64.wrap (IntKind.u64.wrap (((x : Int)).fdiv (2 ^ min (Int.toNat 32) IntKind.u64.bits) * ((y : Int)).fdiv (2 ^ min (Int.toNat 32) IntKind.u64.bits)) + ((IntKind.u64.wrap (IntKind.u64.wrap (((x : Int)).fdiv (2 ^ min (Int.toNat 32) IntKind.u64.bits) * IntKind.u64.wrap ((BitVec.ofInt IntKind.u64.bits ((y : Int)) &&& BitVec.ofInt IntKind.u64.bits 4294967295).toNat : Int)) + ((IntKind.u64.wrap ((IntKind.u64.wrap ((BitVec.ofInt IntKind.u64.bits ((x : Int)) &&& BitVec.ofInt IntKind.u64.bits 4294967295).toNat : Int)) * (IntKind.u64.wrap ((BitVec.ofInt IntKind.u64.bits ((y : Int)) &&& BitVec.ofInt IntKind.u64.bits 4294967295).toNat : Int)))).fdiv (2 ^ min (Int.toNat 32) IntKind.u64.bits)))).fdiv (2 ^ min (Int.toNat 32) IntKind.u64.bits))) + ((IntKind.u64.wrap (IntKind.u64.wrap ((BitVec.ofInt IntKind.u64.bits (IntKind.u64.wrap (IntKind.u64.wrap (((x : Int)).fdiv (2 ^ min (Int.toNat 32) IntKind.u64.bits) * IntKind.u64.wrap ((BitVec.ofInt IntKind.u64.bits ((y : Int)) &&& BitVec.ofInt IntKind.u64.bits 4294967295).toNat : Int)) + ((IntKind.u64.wrap ((IntKind.u64.wrap ((BitVec.ofInt IntKind.u64.bits ((x : Int)) &&& BitVec.ofInt IntKind.u64.bits 4294967295).toNat : Int)) * (IntKind.u64.wrap ((BitVec.ofInt IntKind.u64.bits ((y : Int)) &&& BitVec.ofInt IntKind.u64.bits 4294967295).toNat : Int)))).fdiv (2 ^ min (Int.toNat 32) IntKind.u64.bits)))) &&& BitVec.ofInt IntKind.u64.bits 4294967295).toNat : Int) + IntKind.u64.wrap (IntKind.u64.wrap ((BitVec.ofInt IntKind.u64.bits ((x : Int)) &&& BitVec.ofInt IntKind.u64.bits 4294967295).toNat : Int) * ((y : Int)).fdiv (2 ^ min (Int.toNat 32) IntKind.u64.bits)))).fdiv (2 ^ min (Int.toNat 32) IntKind.u64.bits)))), AV.int IntKind.u64 (IntKind.u64.wrap ((x : Int) * (y : Int)))] = AV.tup [U ((x : Int) * (y : Int) / 18446744073709551616), U ((x : Int) * (y : Int) % 18446744073709551616)] := by
  obtain ⟨bd, bt, bw, hhi⟩ := Go.Lib.mul64_hi x y hx hy
  have ba := Go.Lib.half_mul_le (a := x / 4294967296) (b := y / 4294967296) (by omega) (by omega)
  have bb := Go.Lib.half_mul_le (a := x / 4294967296) (b := y % 4294967296) (by omega) (by omega)
  have bc := Go.Lib.half_mul_le (a := x % 4294967296) (b := y / 4294967296) (by omega) (by omega)
  have ba' : x / 4294967296 * (y / 4294967296) < 18446744073709551616 := by omega
  have bb' : x / 4294967296 * (y % 4294967296) < 18446744073709551616 := by omega
  have bc' : x % 4294967296 * (y / 4294967296) < 18446744073709551616 := by omega
  have bh1 : x / 4294967296 * (y / 4294967296) + (x / 4294967296 * (y % 4294967296) + x % 4294967296 * (y % 4294967296) / 4294967296) / 4294967296 < 18446744073709551616 := by omega
  have bh : x / 4294967296 * (y / 4294967296) + (x / 4294967296 * (y % 4294967296) + x % 4294967296 * (y % 4294967296) / 4294967296) / 4294967296 + ((x / 4294967296 * (y % 4294967296) + x % 4294967296 * (y % 4294967296) / 4294967296) % 4294967296 + x % 4294967296 * (y / 4294967296)) / 4294967296 < 18446744073709551616 := by omega
  simp only [mkN x hx, mkN y hy, fdN, mulN, addN, wrapN _ bd, wrapN _ bb', wrapN _ bt, mkN _ bt, wrapN _ bc', wrapN _ bw, wrapN _ ba', wrapN _ bh1, wrapN _ bh, wrapM (x * y)]
  rw [hhi]
  rfl
set_option maxRecDepth 100000 in
set_option maxHeartbeats 8000000 in
theorem c216 {x y : Int} (hx : u64 x) (hy : u64 y) : PCall Tryz.prog 185 [U x, U y] ⟨.tup [U (x * y / 18446744073709551616), U (x * y % 18446744073709551616)], []⟩ := by
  refine bs.pv (sx := nos) pt0_ok Tryz.func185 (by kernel_rfl) (by kernel_rfl) rfl ?_
  repeat' (first | refine wk1 ?_ | (refine wk2 ?_ ?_ <;> intro _) | refine wk4 ?_ | fail); all_goals (conv => whnf)
  refine ret_of ?_ rfl
  obtain ⟨h0, hx⟩ := hx
  obtain ⟨h1, hy⟩ := hy
  obtain ⟨a, rfl⟩ := Int.eq_ofNat_of_zero_le h0
  obtain ⟨b, rfl⟩ := Int.eq_ofNat_of_zero_le h1
  exact mul_text a b (by omega) (by omega)
/-- The sign of a b less c d. -/
theorem mul_sgn {a b : Int} : sgn (a * b) = sgn a * sgn b := by
  unfold sgn
  rcases Int.lt_trichotomy a 0 with ha | ha | ha <;> rcases Int.lt_trichotomy b 0 with hb | hb | hb
  · have := Int.mul_pos_of_neg_of_neg ha hb
    rw [if_pos this, if_neg (by omega), if_pos ha, if_neg (by omega), if_pos hb]; rfl
  · subst hb; simp
  · have := Int.mul_neg_of_neg_of_pos ha hb
    rw [if_neg (by omega), if_pos this, if_neg (by omega), if_pos ha, if_pos hb]; rfl
  · subst ha; simp
  · subst ha; simp
  · subst ha; simp
  · have := Int.mul_neg_of_pos_of_neg ha hb
    rw [if_neg (by omega), if_pos this, if_pos ha, if_neg (by omega), if_pos hb]; rfl
  · subst hb; simp
  · have := Int.mul_pos ha hb
    rw [if_pos this, if_pos ha, if_pos hb]; rfl
theorem u64_size {a : Int} (h : i64 a) : IntKind.u64.wrap (size a) = (a.natAbs : Int) ∧ u64 (a.natAbs : Int) := by
  have hs := size_W h
  obtain ⟨h1, h2⟩ := h
  rw [hs]
  refine ⟨?_, ?_⟩
  · simp only [IntKind.wrap_i64, IntKind.wrap_u64]; omega
  · unfold u64; omega
theorem abs_mul (a b : Int) : ((a.natAbs : Int) * (b.natAbs : Int)) = (a * b) ∨ ((a.natAbs : Int) * (b.natAbs : Int)) = -(a * b) := by
  have := Int.natAbs_mul a b
  omega
/-- The comparison of products by halves. -/
theorem cmp_cases {a b c d X Y : Int} (hX : (a.natAbs : Int) * (b.natAbs : Int) = X) (hY : (c.natAbs : Int) * (d.natAbs : Int) = Y) (h : sgn a * sgn b = sgn c * sgn d) :
    (X = Y → cmpP a b c d = 0) ∧ (Y < X → cmpP a b c d = sgn a * sgn b) ∧ (X < Y → cmpP a b c d = -(sgn a * sgn b)) := by
  have h1 := abs_mul a b
  have h2 := abs_mul c d
  have p1 : 0 ≤ X := by rw [← hX]; exact Int.mul_nonneg (by omega) (by omega)
  have p2 : 0 ≤ Y := by rw [← hY]; exact Int.mul_nonneg (by omega) (by omega)
  have s1 := mul_sgn (a := a) (b := b)
  have s2 := mul_sgn (a := c) (b := d)
  unfold cmpP
  rw [hX] at h1
  rw [hY] at h2
  rw [← s1]
  rw [← s1, ← s2] at h
  clear s1 s2 hX hY
  generalize a * b = u at *
  generalize c * d = v at *
  unfold sgn at *
  refine ⟨fun e => ?_, fun e => ?_, fun e => ?_⟩
  · repeat' split at h
    all_goals repeat' split
    all_goals omega
  · repeat' split at h
    all_goals repeat' split
    all_goals omega
  · repeat' split at h
    all_goals repeat' split
    all_goals omega
theorem cmp_diff {a b c d : Int} (h : sgn a * sgn b ≠ sgn c * sgn d) : cmpP a b c d = sgn (sgn a * sgn b - sgn c * sgn d) := by
  rw [← mul_sgn, ← mul_sgn] at h ⊢
  unfold cmpP
  generalize a * b = u at *
  generalize c * d = v at *
  unfold sgn at *
  repeat' split at h
  all_goals repeat' split
  all_goals omega
instance (n : Int) : Decidable (u64 n) := by unfold u64; exact inferInstance
def r216 : List AV → Option PRes
  | [.int .u64 x, .int .u64 y] => asr (decide (u64 x ∧ u64 y)) ⟨.tup [U (x * y / 18446744073709551616), U (x * y % 18446744073709551616)], []⟩
  | _ => none
def kF1 : PC := ins 185 r216 (ins 272 r115 (ins 275 r116 pt0))
theorem kF1_ok : PCOK Tryz.prog kF1 := by
  refine ins_ok (fun a res h => ?_) (ins_ok (fun a res h => ?_) (ins_ok (fun a res h => ?_) pt0_ok))
  · unfold r216 at h; split at h
    · obtain ⟨h1, rfl⟩ := asr_some h
      have := of_decide_eq_true h1
      exact c216 this.1 this.2
    · cases h
  · unfold r115 at h; split at h <;> cases h; exact c115 _
  · unfold r116 at h; split at h <;> cases h; exact c116 _
set_option maxRecDepth 100000 in
set_option maxHeartbeats 8000000 in
theorem c215 {a b c d : Int} (ha : i64 a) (hb : i64 b) (hc : i64 c) (hd : i64 d) : PCall Tryz.prog 273 [I a, I b, I c, I d] ⟨I (cmpP a b c d), []⟩ := by
  obtain ⟨a1, a2⟩ := u64_size ha
  obtain ⟨b1, b2⟩ := u64_size hb
  obtain ⟨c1, c2⟩ := u64_size hc
  obtain ⟨d1, d2⟩ := u64_size hd
  by_cases h : sgn a * sgn b = sgn c * sgn d
  · have hX : (a.natAbs : Int) * (b.natAbs : Int) = (a.natAbs : Int) * (b.natAbs : Int) := rfl
    have hY : (c.natAbs : Int) * (d.natAbs : Int) = (c.natAbs : Int) * (d.natAbs : Int) := rfl
    obtain ⟨k1, k2, k3⟩ := cmp_cases hX hY h
    have t1 : asr (decide (u64 (IntKind.u64.wrap (size a)) ∧ u64 (IntKind.u64.wrap (size b)))) ⟨.tup [U (IntKind.u64.wrap (size a) * IntKind.u64.wrap (size b) / 18446744073709551616), U (IntKind.u64.wrap (size a) * IntKind.u64.wrap (size b) % 18446744073709551616)], []⟩ = some ⟨.tup [U ((a.natAbs : Int) * (b.natAbs : Int) / 18446744073709551616), U ((a.natAbs : Int) * (b.natAbs : Int) % 18446744073709551616)], []⟩ := by
      rw [a1, b1, asr_of ⟨a2, b2⟩]
    have t2 : asr (decide (u64 (IntKind.u64.wrap (size c)) ∧ u64 (IntKind.u64.wrap (size d)))) ⟨.tup [U (IntKind.u64.wrap (size c) * IntKind.u64.wrap (size d) / 18446744073709551616), U (IntKind.u64.wrap (size c) * IntKind.u64.wrap (size d) % 18446744073709551616)], []⟩ = some ⟨.tup [U ((c.natAbs : Int) * (d.natAbs : Int) / 18446744073709551616), U ((c.natAbs : Int) * (d.natAbs : Int) % 18446744073709551616)], []⟩ := by
      rw [c1, d1, asr_of ⟨c2, d2⟩]
    have w1 : IntKind.i64.wrap (sgn a * sgn b) = IntKind.i64.wrap (sgn c * sgn d) := by rw [h]
    have w2 := W_sgn a b
    have hr : -1 ≤ sgn a * sgn b ∧ sgn a * sgn b ≤ 1 := by
      have := mul_bd (A := 1) (B := 1) (sgn_bd a) (sgn_bd b); omega
    have w3 : IntKind.i64.wrap (0 - IntKind.i64.wrap (sgn a * sgn b)) = -(sgn a * sgn b) := by rw [w2, W_eq (by omega) (by omega)]; omega
    generalize (a.natAbs : Int) * (b.natAbs : Int) = X at *
    generalize (c.natAbs : Int) * (d.natAbs : Int) = Y at *
    generalize cmpP a b c d = r at *
    refine bs.pv (sx := nos) kF1_ok Tryz.func273 (by kernel_rfl) (by kernel_rfl) rfl ?_
    rcases Int.lt_trichotomy X Y with hxy | hxy | hxy
    · rw [k3 hxy, ← w3]
      repeat' (first | refine wk1 ?_ | (refine wk2 ?_ ?_ <;> intro _) | refine wk4 ?_ | fail); all_goals (conv => whnf)
      all_goals first
        | exact ret_int rfl
        | (exfalso; simp_all; done)
        | (exfalso; simp_all; omega)
    · rw [k1 hxy]
      subst hxy
      repeat' (first | refine wk1 ?_ | (refine wk2 ?_ ?_ <;> intro _) | refine wk4 ?_ | fail); all_goals (conv => whnf)
      all_goals first
        | exact ret_int rfl
        | (exfalso; simp_all; done)
        | (exfalso; simp_all; omega)
    · rw [k2 hxy, ← w2]
      repeat' (first | refine wk1 ?_ | (refine wk2 ?_ ?_ <;> intro _) | refine wk4 ?_ | fail); all_goals (conv => whnf)
      all_goals first
        | exact ret_int rfl
        | (exfalso; simp_all; done)
        | (exfalso; simp_all; omega)
  · have hr1 := mul_bd (A := 1) (B := 1) (sgn_bd a) (sgn_bd b)
    have hr2 := mul_bd (A := 1) (B := 1) (sgn_bd c) (sgn_bd d)
    have w : sgn (IntKind.i64.wrap (IntKind.i64.wrap (sgn a * sgn b) - IntKind.i64.wrap (sgn c * sgn d))) = cmpP a b c d := by
      rw [cmp_diff h, W_sgn, W_sgn, W_eq (by omega) (by omega)]
    have w2 : ¬ IntKind.i64.wrap (sgn a * sgn b) = IntKind.i64.wrap (sgn c * sgn d) := by rw [W_sgn, W_sgn]; exact h
    refine bs.pv (sx := nos) kF1_ok Tryz.func273 (by kernel_rfl) (by kernel_rfl) rfl ?_
    rw [← w]
    repeat' (first | refine wk1 ?_ | (refine wk2 ?_ ?_ <;> intro _) | refine wk4 ?_ | fail); all_goals (conv => whnf)
    exact ret_int rfl
def r204 : List AV → Option PRes
  | [.agg [.int .i64 a, .int .i64 b, .int .i64 c, .int .i64 d, .int .i64 x, .int .i64 y, .int .i64 z, .int .i64 w]] => some ⟨.tup [I (wayDx ⟨a, b, c, d⟩ ⟨x, y, z, w⟩), I (wayDy ⟨a, b, c, d⟩ ⟨x, y, z, w⟩)], []⟩
  | _ => none
def r207 : List AV → Option PRes
  | [.int .i64 fr, .int .i64 den, .int .i64 to, .int .i64 oth, .int .i64 a, .int .i64 b] => some ⟨Bo (ovl fr den to oth a b), []⟩
  | _ => none
def r182 : List AV → Option PRes
  | [.agg [.int .i64 a, .int .i64 b, .int .i64 c, .int .i64 d, .int .i64 x, .int .i64 y, .int .i64 z, .int .i64 w]] => some ⟨.tup [I (midX ⟨a, b, c, d⟩ ⟨x, y, z, w⟩), I (midY ⟨a, b, c, d⟩ ⟨x, y, z, w⟩), I (midD ⟨a, b, c, d⟩ ⟨x, y, z, w⟩)], []⟩
  | _ => none
def kF2 : PC := ins 219 r204 (ins 222 r207 (ins 195 r182 kG3))
theorem kF2_ok : PCOK Tryz.prog kF2 := by
  refine ins_ok (fun a res h => ?_) (ins_ok (fun a res h => ?_) (ins_ok (fun a res h => ?_) kG3_ok))
  · unfold r204 at h; split at h <;> cases h; exact c204 ⟨_, _, _, _⟩ ⟨_, _, _, _⟩
  · unfold r207 at h; split at h <;> cases h; exact c207 _ _ _ _ _ _
  · unfold r182 at h; split at h <;> cases h; exact c182 ⟨_, _, _, _⟩ ⟨_, _, _, _⟩
set_option maxHeartbeats 4000000 in
theorem c208 (p q : Pt) (x y : Int) : PCall Tryz.prog 223 [wayA p q, P2 x y] ⟨I (waySide p q x y), []⟩ := by
  have hk := one_ok (c215 (a := wayDx p q) (b := IntKind.i64.wrap (IntKind.i64.wrap (y * p.d) - p.y)) (c := wayDy p q) (d := IntKind.i64.wrap (IntKind.i64.wrap (x * p.d) - p.x)) (i64_W _) (i64_W _) (i64_W _) (i64_W _)) kF2_ok
  refine bs.pv (sx := nos) hk Tryz.func223 (by kernel_rfl) (by kernel_rfl) rfl ?_
  repeat' (first | refine wk0 ?_ | (refine wk2 ?_ ?_ <;> intro _) | refine wk4 ?_ | fail); all_goals (conv => whnf)
  exact ret_int rfl
def r208 : List AV → Option PRes
  | [.agg [.int .i64 a, .int .i64 b, .int .i64 c, .int .i64 d, .int .i64 x, .int .i64 y, .int .i64 z, .int .i64 w], .agg [.int .i64 u, .int .i64 v]] => some ⟨I (waySide ⟨a, b, c, d⟩ ⟨x, y, z, w⟩ u v), []⟩
  | _ => none
def kF3 : PC := ins 223 r208 kF2
theorem kF3_ok : PCOK Tryz.prog kF3 := by
  refine ins_ok (fun a res h => ?_) kF2_ok
  unfold r208 at h; split at h <;> cases h; exact c208 ⟨_, _, _, _⟩ ⟨_, _, _, _⟩ _ _
set_option maxRecDepth 100000 in
set_option maxHeartbeats 8000000 in
theorem c181 (p q : Pt) (w : Wl) : PCall Tryz.prog 194 [wayA p q, w.av] ⟨Bo (touP p q w), []⟩ := by
  obtain ⟨pa, pb, pc, pd⟩ := p
  obtain ⟨qa, qb, qc, qd⟩ := q
  obtain ⟨wn, wa, wb, wc, wd⟩ := w
  refine bs.pv (sx := nos) kF3_ok Tryz.func194 (by kernel_rfl) (by kernel_rfl) rfl ?_
  repeat' (first | refine wk0 ?_ | (refine wk2 ?_ ?_ <;> intro _) | refine wk4 ?_ | fail); all_goals (conv => whnf)
  all_goals exact ret_bool (by simp_all [touP] <;> omega)
end Go.Proofs.YtddhjopopelkjaaGreat
