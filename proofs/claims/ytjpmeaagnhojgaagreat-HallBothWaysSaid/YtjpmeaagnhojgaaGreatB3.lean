/- A part of the proof: lemmas. -/
import Derived.Test.YtjpmeaagnhojgaaGreatB2
set_option linter.unusedVariables false
set_option linter.unusedSimpArgs false
namespace Go.Proofs.YtjpmeaagnhojgaaGreat
open Go Go.Sx

/-! ### The middle of a way -/
def rawM (p q : Pt) : Pt := ⟨p.x * q.d + q.x * p.d, p.y * q.d + q.y * p.d, p.z * q.d + q.z * p.d, 2 * p.d * q.d⟩
def midP (p q : Pt) : Pt := redP (rawM p q)
theorem rawM_big {p q : Pt} (hp : PtH p) (hq : PtH q) (dp : p.d ≤ 200) (dq : q.d ≤ 200) : Big (rawM p q) ∧ (rawM p q).d ≤ 80000 := by
  obtain ⟨⟨a1, a2, a3, a4⟩, a5⟩ := hp
  obtain ⟨⟨b1, b2, b3, b4⟩, b5⟩ := hq
  have m1 := mul_bd (a := p.x) (b := q.d) (A := 1000000) (B := 200) (by omega) (by omega)
  have m2 := mul_bd (a := q.x) (b := p.d) (A := 1000000) (B := 200) (by omega) (by omega)
  have m3 := mul_bd (a := p.y) (b := q.d) (A := 1000000) (B := 200) (by omega) (by omega)
  have m4 := mul_bd (a := q.y) (b := p.d) (A := 1000000) (B := 200) (by omega) (by omega)
  have m5 := mul_bd (a := p.z) (b := q.d) (A := 1000000) (B := 200) (by omega) (by omega)
  have m6 := mul_bd (a := q.z) (b := p.d) (A := 1000000) (B := 200) (by omega) (by omega)
  have m7 := mul_bd (a := 2 * p.d) (b := q.d) (A := 400) (B := 200) (by omega) (by omega)
  have m8 := Int.mul_pos (show 0 < 2 * p.d by omega) b1
  unfold rawM
  refine ⟨⟨?_, ?_, ?_, ?_⟩, ?_⟩ <;> dsimp only <;> omega
theorem mean2 {a b c d : Int} (hb : 0 < b) (hd : 0 < d) (ha : -(5000 * b) ≤ a ∧ a ≤ 5000 * b) (hc : -(5000 * d) ≤ c ∧ c ≤ 5000 * d) : -(5000 * (2 * b * d)) ≤ a * d + c * b ∧ a * d + c * b ≤ 5000 * (2 * b * d) := by
  have h1 := Int.mul_le_mul_of_nonneg_right ha.1 (Int.le_of_lt hd)
  have h2 := Int.mul_le_mul_of_nonneg_right ha.2 (Int.le_of_lt hd)
  have h3 := Int.mul_le_mul_of_nonneg_right hc.1 (Int.le_of_lt hb)
  have h4 := Int.mul_le_mul_of_nonneg_right hc.2 (Int.le_of_lt hb)
  have e1 : -(5000 * b) * d = -(5000 * (b * d)) := by grind
  have e2 : 5000 * b * d = 5000 * (b * d) := by grind
  have e3 : -(5000 * d) * b = -(5000 * (b * d)) := by grind
  have e4 : 5000 * d * b = 5000 * (b * d) := by grind
  have e5 : 2 * b * d = 2 * (b * d) := by grind
  rw [e5]
  omega
theorem midP_ok {p q : Pt} (hp : PtH p) (hq : PtH q) (dp : p.d ≤ 200) (dq : q.d ≤ 200) : ptErr (midP p q) = 0 ∧ (midP p q).wf ∧ Btw p q (midP p q) (g4 (rawM p q)) q.d p.d := by
  obtain ⟨hb, hd⟩ := rawM_big hp hq dp dq
  obtain ⟨⟨g1, _⟩, _, hr, e1, e2, e3, e4⟩ := red_spec hb
  have hg := g4_red hb
  have pd := hp.r.d0
  have qd := hq.r.d0
  have hle : (redP (rawM p q)).d ≤ 80000 := by
    have h1 := Int.mul_le_mul_of_nonneg_left (show (1 : Int) ≤ (g4 (rawM p q) : Int) by omega) (Int.le_of_lt hr.d.1)
    omega
  have bx := red_bd g1 e1 e4 (mean2 pd qd hp.r.x hq.r.x)
  have by' := red_bd g1 e2 e4 (mean2 pd qd hp.r.y hq.r.y)
  have bz := red_bd g1 e3 e4 (mean2 pd qd hp.z hq.z)
  refine ⟨?_, hr.wf, ⟨g1, qd, pd, ?_, ?_, ?_, ?_⟩⟩
  · have hin : ptIn (midP p q) = true := by
      unfold ptIn midP
      simp only [Bool.and_eq_true, within_iff]
      exact ⟨⟨bx, by'⟩, bz⟩
    have h1 : ¬((midP p q).d ≤ 0 ∨ g4 (midP p q) ≠ 1) := by
      rintro (h | h)
      · have := hr.d.1; unfold midP at h; omega
      · exact h hg
    unfold ptErr
    rw [if_neg h1, if_neg (by unfold midP; omega), if_pos hin]
  · show _ * (redP (rawM p q)).x = _
    rw [Int.mul_comm, e1]; show p.x * q.d + q.x * p.d = _; grind
  · show _ * (redP (rawM p q)).y = _
    rw [Int.mul_comm, e2]; show p.y * q.d + q.y * p.d = _; grind
  · show _ * (redP (rawM p q)).z = _
    rw [Int.mul_comm, e3]; show p.z * q.d + q.z * p.d = _; grind
  · show _ * (redP (rawM p q)).d = _
    rw [Int.mul_comm, e4]; show 2 * p.d * q.d = _; grind
/-- Points in lowest terms that are equal as fractions are equal. -/
theorem pt_low {p q : Pt} (hp : 0 < p.d) (hq : 0 < q.d) (gp : g4 p = 1) (gq : g4 q = 1) (hx : p.x * q.d = q.x * p.d) (hy : p.y * q.d = q.y * p.d) (hz : p.z * q.d = q.z * p.d) : p.d = q.d := by
  have key : ∀ p q : Pt, g4 p = 1 → p.x * q.d = q.x * p.d → p.y * q.d = q.y * p.d → p.z * q.d = q.z * p.d → p.d.natAbs ∣ q.d.natAbs := by
    intro p q gp hx hy hz
    have h1 : p.d.natAbs ∣ p.x.natAbs * q.d.natAbs := by rw [← Int.natAbs_mul, hx, Int.natAbs_mul]; exact Nat.dvd_mul_left _ _
    have h2 : p.d.natAbs ∣ p.y.natAbs * q.d.natAbs := by rw [← Int.natAbs_mul, hy, Int.natAbs_mul]; exact Nat.dvd_mul_left _ _
    have h3 : p.d.natAbs ∣ p.z.natAbs * q.d.natAbs := by rw [← Int.natAbs_mul, hz, Int.natAbs_mul]; exact Nat.dvd_mul_left _ _
    have h4 : p.d.natAbs ∣ p.d.natAbs * q.d.natAbs := Nat.dvd_mul_right _ _
    have h5 := Nat.dvd_gcd (Nat.dvd_gcd h1 h2) (Nat.dvd_gcd h3 h4)
    rw [Nat.gcd_mul_right, Nat.gcd_mul_right, Nat.gcd_mul_right] at h5
    change p.d.natAbs ∣ g4 p * q.d.natAbs at h5
    rwa [gp, Nat.one_mul] at h5
  have a := key p q gp hx hy hz
  have b := key q p gq hx.symm hy.symm hz.symm
  have := Nat.dvd_antisymm a b
  omega
theorem ptEq_iff {p q : Pt} : ptEq p q = true ↔ p = q := by
  obtain ⟨a, b, c, d⟩ := p
  obtain ⟨x, y, z, w⟩ := q
  unfold ptEq
  simp only [Bool.and_eq_true, decide_eq_true_eq, Pt.mk.injEq, and_assoc]
/-- The middle is neither end. -/
theorem mid_ne {p q m : Pt} {k a b : Int} (hp : ptErr p = 0) (hq : ptErr q = 0) (hb : Btw p q m k a b) (hne : ptEq p q = false) : ptEq p m = false := by
  rw [Bool.eq_false_iff] at hne ⊢
  intro h
  apply hne
  rw [ptEq_iff] at h ⊢
  subst h
  obtain ⟨p1, _, p2, _⟩ := ptErr_zero hp
  obtain ⟨q1, _, q2, _⟩ := ptErr_zero hq
  have b0 := hb.b0
  have dd := hb.d
  have cr : ∀ u v : Int, k * u = a * u + b * v → u * q.d = v * p.d := by
    intro u v hu
    have : b * (u * q.d - v * p.d) = 0 := by
      have h1 : b * v = (k - a) * u := by grind
      have h2 : b * q.d = (k - a) * p.d := by grind
      have : b * (u * q.d - v * p.d) = u * (b * q.d) - p.d * (b * v) := by grind
      rw [this, h1, h2]; grind
    rcases Int.mul_eq_zero.1 this with h | h <;> omega
  have hx := cr _ _ hb.x
  have hy := cr _ _ hb.y
  have hz := cr _ _ hb.z
  have hd := pt_low p1 q1 p2 q2 hx hy hz
  have can : ∀ u v : Int, u * q.d = v * p.d → u = v := by
    intro u v h
    rw [hd] at h
    exact Int.eq_of_mul_eq_mul_right (by omega) h
  obtain ⟨px, py, pz, pd⟩ := p
  obtain ⟨qx, qy, qz, qd⟩ := q
  rw [Pt.mk.injEq]
  exact ⟨can _ _ hx, can _ _ hy, can _ _ hz, hd⟩
set_option maxRecDepth 100000 in
set_option maxHeartbeats 8000000 in
theorem c53 {p q : Pt} (hp : PtH p) (hq : PtH q) (dp : p.d ≤ 200) (dq : q.d ≤ 200) : PCall Tryz.prog 53 [wayA p q] ⟨(midP p q).av, []⟩ := by
  obtain ⟨hb, hd⟩ := rawM_big hp hq dp dq
  obtain ⟨e1, e2, e3⟩ := mid_eq hp.r hq.r
  have ez : IntKind.i64.wrap (IntKind.i64.wrap (p.z * q.d) + IntKind.i64.wrap (q.z * p.d)) = p.z * q.d + q.z * p.d := by
    obtain ⟨⟨a1, a2, a3, a4⟩, a5⟩ := hp
    obtain ⟨⟨b1, b2, b3, b4⟩, b5⟩ := hq
    have m5 := mul_bd (a := p.z) (b := q.d) (A := 1000000) (B := 200) (by omega) (by omega)
    have m6 := mul_bd (a := q.z) (b := p.d) (A := 1000000) (B := 200) (by omega) (by omega)
    rw [W_eq (n := p.z * q.d) (by omega) (by omega), W_eq (n := q.z * p.d) (by omega) (by omega), W_eq (by omega) (by omega)]
  obtain ⟨k1, k2, k3, k4, k5, k6, k7, k8⟩ := cr_raw hb (X := midX p q) (Y := midY p q) (Z := IntKind.i64.wrap (IntKind.i64.wrap (p.z * q.d) + IntKind.i64.wrap (q.z * p.d))) (D := midD p q) e1 e2 ez e3
  unfold midX at k1 k4
  unfold midY at k1 k5
  unfold midD at k2 k7
  unfold midP
  generalize (g4 (rawM p q) : Int) = G at *
  generalize redP (rawM p q) = R at *
  clear e1 e2 e3 ez hb hd
  refine bs.pv (sx := nos) kGc_ok Tryz.func53 (by kernel_rfl) (by kernel_rfl) rfl ?_
  repeat' (first | refine wk3 ?_ | (refine wk2 ?_ ?_ <;> intro _) | refine wk4 ?_ | fail); all_goals (conv => whnf)
  exact ret_of (by rw [k4, k5, k6, k7]) rfl
end Go.Proofs.YtjpmeaagnhojgaaGreat
