/- A part of the proof: lemmas. -/
import Derived.Test.YtmbgehpcjihfpaaAL3
set_option linter.unusedVariables false
set_option linter.unusedSimpArgs false
namespace Go.Proofs.Ytmbgehpcjihfpaa
open Go Go.Sx
/-! ### Ways -/
def Pl.ok (p : Pl) : Prop := (-5000 ≤ p.x ∧ p.x ≤ 5000) ∧ (-5000 ≤ p.y ∧ p.y ≤ 5000) ∧ -5000 ≤ p.z ∧ p.z ≤ 5000
theorem Pl.ok_iff {p : Pl} : p.bo = true ↔ p.ok := by
  unfold Pl.bo Pl.ok
  simp only [Bool.and_eq_true, within_iff]
  omega
abbrev wav (a b : Pl) : AV := .agg [I a.x, I a.y, I a.z, I b.x, I b.y, I b.z]
def sqd (a b : Pl) : Int := (a.x - b.x) * (a.x - b.x) + (a.y - b.y) * (a.y - b.y) + (a.z - b.z) * (a.z - b.z)
theorem sq_abs {d : Int} (h1 : -10000 ≤ d) (h2 : d ≤ 10000) : 0 ≤ d * d ∧ d * d ≤ 100000000 := by
  constructor
  · rcases Int.le_total 0 d with h | h
    · exact Int.mul_nonneg h h
    · exact Int.mul_nonneg_of_nonpos_of_nonpos h h
  · rcases Int.le_total 0 d with h | h
    · exact (sq_bd h h2).2
    · have := (sq_bd (r := -d) (B := 10000) (by omega) (by omega)).2
      rw [Int.neg_mul_neg] at this
      exact this
theorem sqd_bd {a b : Pl} (ha : a.ok) (hb : b.ok) : 0 ≤ sqd a b ∧ sqd a b ≤ 300000000 := by
  obtain ⟨a1, a2, a3, a4⟩ := ha
  obtain ⟨b1, b2, b3, b4⟩ := hb
  have h1 := sq_abs (d := a.x - b.x) (by omega) (by omega)
  have h2 := sq_abs (d := a.y - b.y) (by omega) (by omega)
  have h3 := sq_abs (d := a.z - b.z) (by omega) (by omega)
  unfold sqd
  omega
/-- The square as the machine reckons it. -/
def sqW (a b : Pl) : Int := IntKind.i64.wrap (IntKind.i64.wrap (IntKind.i64.wrap (IntKind.i64.wrap (a.x - b.x) * IntKind.i64.wrap (a.x - b.x)) + IntKind.i64.wrap (IntKind.i64.wrap (a.y - b.y) * IntKind.i64.wrap (a.y - b.y))) + IntKind.i64.wrap (IntKind.i64.wrap (a.z - b.z) * IntKind.i64.wrap (a.z - b.z)))
theorem e39 (a b : Pl) : PCall Try.prog 39 [wav a b] ⟨I (sqW a b), []⟩ := by
  obtain ⟨ax, ay, az⟩ := a
  obtain ⟨bx, hby, bz⟩ := b
  unfold sqW
  refine bs.pv (sx := nos) kA3_ok Try.func39 (by kernel_rfl) (by kernel_rfl) rfl ?_
  repeat' (first | refine wk3 ?_ | (refine wk2 ?_ ?_ <;> intro _) | refine wk4 ?_ | fail); all_goals (conv => whnf)
  exact ret_int rfl
theorem sqW_eq {a b : Pl} (ha : a.ok) (hb : b.ok) : sqW a b = sqd a b := by
  obtain ⟨ax, ay, az⟩ := a
  obtain ⟨bx, hby, bz⟩ := b
  obtain ⟨a1, a2, a3, a4⟩ := ha
  obtain ⟨b1, b2, b3, b4⟩ := hb
  unfold sqd sqW
  dsimp only at *
  have w1 : IntKind.i64.wrap (ax - bx) = ax - bx := W_eq (by omega) (by omega)
  have w2 : IntKind.i64.wrap (ay - hby) = ay - hby := W_eq (by omega) (by omega)
  have w3 : IntKind.i64.wrap (az - bz) = az - bz := W_eq (by omega) (by omega)
  have h1 := sq_abs (d := ax - bx) (by omega) (by omega)
  have h2 := sq_abs (d := ay - hby) (by omega) (by omega)
  have h3 := sq_abs (d := az - bz) (by omega) (by omega)
  rw [w1, w2, w3]
  clear w1 w2 w3
  generalize (ax - bx) * (ax - bx) = p at *
  generalize (ay - hby) * (ay - hby) = q at *
  generalize (az - bz) * (az - bz) = r at *
  rw [W_eq (n := p) (by omega) (by omega), W_eq (n := q) (by omega) (by omega), W_eq (n := r) (by omega) (by omega), W_eq (n := p + q) (by omega) (by omega), W_eq (by omega) (by omega)]
/-- Two right places. -/
structure Wp (q : Pl × Pl) : Prop where
  a : q.1.ok
  b : q.2.ok
theorem wav_inj {q q' : Pl × Pl} (h : [wav q.1 q.2] = [wav q'.1 q'.2]) : q = q' := by
  obtain ⟨⟨a, b, c⟩, d, e, f⟩ := q
  obtain ⟨⟨a', b', c'⟩, d', e', f'⟩ := q'
  simp only [List.cons.injEq, AV.agg.injEq, AV.int.injEq, true_and, and_true] at h
  obtain ⟨rfl, rfl, rfl, rfl, rfl, rfl⟩ := h
  rfl
noncomputable abbrev famW (p : Pl × Pl → Prop) (r : Pl × Pl → PRes) : List AV → Option PRes := famA p (fun q => [wav q.1 q.2]) r
theorem famW_hit {p : Pl × Pl → Prop} (r : Pl × Pl → PRes) {a b : Pl} (h : p (a, b)) : famW p r [wav a b] = some (r (a, b)) :=
  famA_hit (p := p) (g := fun q => [wav q.1 q.2]) (r := r) (k := (a, b)) (fun j hj => by rw [wav_inj hj]) h
noncomputable def kA4 : PC := ins 39 (famW (fun _ => True) fun q => ⟨I (sqW q.1 q.2), []⟩) kA3
theorem kA4_ok : PCOK Try.prog kA4 := famA_ok (fun q h => e39 q.1 q.2) kA3_ok
theorem e30 (a b : Pl) : PCall Try.prog 30 [wav a b] ⟨Bo (decide (sqW a b < 100)), []⟩ := by
  have g := famW_hit (p := fun _ => True) (fun q => ⟨I (sqW q.1 q.2), []⟩) (a := a) (b := b) trivial
  obtain ⟨ax, ay, az⟩ := a
  obtain ⟨bx, hby, bz⟩ := b
  dsimp only at g
  generalize sqW _ _ = S at *
  refine bs.pv (sx := nos) kA4_ok Try.func30 (by kernel_rfl) (by kernel_rfl) rfl ?_
  repeat' (first | refine wk3 ?_ | (refine wk2 ?_ ?_ <;> intro _) | refine wk4 ?_ | fail); all_goals (conv => whnf)
  all_goals exact ret_bool rfl
/-- The distance times 1000, rounded down and up. -/
noncomputable def lo (a b : Pl) : Int := isq (sqd a b * 1000000)
noncomputable def hi (a b : Pl) : Int := if lo a b * lo a b < sqd a b * 1000000 then lo a b + 1 else lo a b
theorem lo_bd {a b : Pl} (ha : a.ok) (hb : b.ok) : 0 ≤ lo a b ∧ lo a b ≤ 17320509 ∧ lo a b ≤ hi a b ∧ hi a b ≤ lo a b + 1 := by
  have hs := sqd_bd ha hb
  obtain ⟨g1, g2, g3⟩ := isq_spec (n := sqd a b * 1000000) (by omega)
  have := sq_lt (a := lo a b) (b := 17320509) (by omega) (by unfold lo; omega) g1
  unfold hi
  refine ⟨g1, by omega, ?_⟩
  split <;> omega
theorem lo_far {a b : Pl} (h : 100 ≤ sqd a b) : 10000 ≤ lo a b := by
  obtain ⟨g1, g2, g3⟩ := isq_spec (n := sqd a b * 1000000) (by omega)
  have := sq_lt (a := 10000) (b := lo a b + 1) (by unfold lo; omega) (by unfold lo; omega) (by omega)
  omega
noncomputable def kA5 : PC := ins 41 (famA (fun n : Int => 0 ≤ n ∧ n < 9007199254740992) (fun n => [I n]) (fun n => ⟨I (isq n), []⟩)) (ins 42 (famA (fun n : Int => 0 ≤ n ∧ n < 9007199254740992) (fun n => [I n]) (fun n => ⟨I (if isq n * isq n < n then isq n + 1 else isq n), []⟩)) kA4)
theorem kA5_ok : PCOK Try.prog kA5 := famA_ok (fun n h => e41 h.1 h.2) (famA_ok (fun n h => e42 h.1 h.2) kA4_ok)
theorem famI_hit {p : Int → Prop} (r : Int → PRes) {n : Int} (h : p n) : famA p (fun n => [I n]) r [I n] = some (r n) :=
  famA_hit (p := p) (g := fun n => [I n]) (r := r) (fun j hj => by
    simp only [List.cons.injEq, AV.int.injEq, true_and, and_true] at hj
    rw [hj]) h
theorem e34 {a b : Pl} (ha : a.ok) (hb : b.ok) : PCall Try.prog 34 [wav a b] ⟨P2 (lo a b) (hi a b), []⟩ := by
  have g := famW_hit (p := fun _ => True) (fun q => ⟨I (sqW q.1 q.2), []⟩) (a := a) (b := b) trivial
  dsimp only at g
  rw [sqW_eq ha hb] at g
  have hs := sqd_bd ha hb
  have w : IntKind.i64.wrap (IntKind.i64.wrap (sqd a b * 1000) * 1000) = sqd a b * 1000000 := by
    rw [W_eq (n := sqd a b * 1000) (by omega) (by omega), W_eq (by omega) (by omega)]; omega
  have g1 := famI_hit (p := fun n : Int => 0 ≤ n ∧ n < 9007199254740992) (fun n => ⟨I (isq n), []⟩) (n := IntKind.i64.wrap (IntKind.i64.wrap (sqd a b * 1000) * 1000)) ⟨by omega, by omega⟩
  have g2 := famI_hit (p := fun n : Int => 0 ≤ n ∧ n < 9007199254740992) (fun n => ⟨I (if isq n * isq n < n then isq n + 1 else isq n), []⟩) (n := IntKind.i64.wrap (IntKind.i64.wrap (sqd a b * 1000) * 1000)) ⟨by omega, by omega⟩
  have e1 : isq (IntKind.i64.wrap (IntKind.i64.wrap (sqd a b * 1000) * 1000)) = lo a b := by rw [w]; rfl
  rw [e1] at g1 g2
  have e2 : (if lo a b * lo a b < IntKind.i64.wrap (IntKind.i64.wrap (sqd a b * 1000) * 1000) then lo a b + 1 else lo a b) = hi a b := by rw [w]; rfl
  rw [e2] at g2
  generalize lo a b = L at *
  generalize hi a b = H at *
  generalize sqd a b = S at *
  obtain ⟨ax, ay, az⟩ := a
  obtain ⟨bx, hby, bz⟩ := b
  refine bs.pv (sx := nos) kA5_ok Try.func34 (by kernel_rfl) (by kernel_rfl) rfl ?_
  repeat' (first | refine wk3 ?_ | (refine wk2 ?_ ?_ <;> intro _) | refine wk4 ?_ | fail); all_goals (conv => whnf)
  exact ret_of rfl rfl
end Go.Proofs.Ytmbgehpcjihfpaa
