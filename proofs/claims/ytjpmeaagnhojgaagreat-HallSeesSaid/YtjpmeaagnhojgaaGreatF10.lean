/- A part of the proof: lemmas. -/
import Derived.Test.YtjpmeaagnhojgaaGreatF9
set_option linter.unusedVariables false
set_option linter.unusedSimpArgs false
namespace Go.Proofs.YtjpmeaagnhojgaaGreat
open Go Go.Sx

/-! ### The reference: a way in the plane of a canopy -/
def okQ (n d m k : Int) : Prop := (0 < d ∧ d ≤ 9223372036854775807) ∧ (0 < k ∧ k ≤ 9223372036854775807) ∧ (-9223372036854775807 ≤ n ∧ n ≤ 9223372036854775807) ∧ (-9223372036854775807 ≤ m ∧ m ≤ 9223372036854775807)
noncomputable abbrev cmps : List AV → Option PRes := famA (fun p : Int × Int × Int × Int => okQ p.1 p.2.1 p.2.2.1 p.2.2.2) (fun p => [I p.1, I p.2.1, I p.2.2.1, I p.2.2.2]) (fun p => ⟨I (cmpQ p.1 p.2.1 p.2.2.1 p.2.2.2), []⟩)
theorem cmps_hit {n d m k : Int} (h : okQ n d m k) : cmps [I n, I d, I m, I k] = some ⟨I (cmpQ n d m k), []⟩ :=
  famA_hit (p := fun p : Int × Int × Int × Int => okQ p.1 p.2.1 p.2.2.1 p.2.2.2) (g := fun p => [I p.1, I p.2.1, I p.2.2.1, I p.2.2.2]) (r := fun p => ⟨I (cmpQ p.1 p.2.1 p.2.2.1 p.2.2.2), []⟩) (k := (n, d, m, k)) (fun j hj => by
    simp only [List.cons.injEq, AV.int.injEq, true_and, and_true] at hj
    obtain ⟨h1, h2, h3, h4⟩ := hj
    dsimp only
    rw [h1, h2, h3, h4]) h
theorem cmps_ok {pt : PC} (h : PCOK Tryz.prog pt) : PCOK Tryz.prog (ins 187 cmps pt) := famA_ok (fun p hp => c187 hp.1.1 hp.2.1.1 hp.1.2 hp.2.1.2 hp.2.2.1 hp.2.2.2) h
noncomputable def kC2 : PC := ins 187 cmps kR4
theorem kC2_ok : PCOK Tryz.prog kC2 := cmps_ok kR4_ok
/-- Bounds of the shares. -/
def bdQ (n d m k : Int) : Prop := (0 < d ∧ d ≤ 200000000000000) ∧ (0 < k ∧ k ≤ 200000000000000) ∧ (-200000000000000 ≤ n ∧ n ≤ 200000000000000) ∧ (-200000000000000 ≤ m ∧ m ≤ 200000000000000)
theorem bdQ.ok {n d m k : Int} (h : bdQ n d m k) : okQ n d m k := by obtain ⟨h1, h2, h3, h4⟩ := h; exact ⟨by omega, by omega, by omega, by omega⟩
theorem clip_zero {a n d m k : Int} {l : List (Int × Int)} (h : a < 0) : clipR ((a, 0) :: l) n d m k = false := by rw [clipR, if_pos ⟨rfl, h⟩]
theorem clip_free {a n d m k : Int} {l : List (Int × Int)} (h : ¬ a < 0) : clipR ((a, 0) :: l) n d m k = clipR l n d m k := by rw [clipR, if_neg (by omega), if_neg (by omega), if_neg (by omega)]
theorem clip_lo {a v n d m k : Int} {l : List (Int × Int)} (h : 0 < v) (hc : 0 < cmpQ (-a) v n d) : clipR ((a, v) :: l) n d m k = clipR l (-a) v m k := by rw [clipR, if_neg (by omega), if_pos ⟨h, hc⟩]
theorem clip_lo' {a v n d m k : Int} {l : List (Int × Int)} (h : 0 < v) (hc : ¬ 0 < cmpQ (-a) v n d) : clipR ((a, v) :: l) n d m k = clipR l n d m k := by rw [clipR, if_neg (by omega), if_neg (fun h => hc h.2), if_neg (by omega)]
theorem clip_hi {a v n d m k : Int} {l : List (Int × Int)} (h : v < 0) (hc : cmpQ a (-v) m k < 0) : clipR ((a, v) :: l) n d m k = clipR l n d a (-v) := by rw [clipR, if_neg (by omega), if_neg (by omega), if_pos ⟨h, hc⟩]
theorem clip_hi' {a v n d m k : Int} {l : List (Int × Int)} (h : v < 0) (hc : ¬ cmpQ a (-v) m k < 0) : clipR ((a, v) :: l) n d m k = clipR l n d m k := by rw [clipR, if_neg (by omega), if_neg (by omega), if_neg (fun h => hc h.2)]
theorem cmp_le {a v m k : Int} (hc : cmpQ a v m k < 0) (hk : 0 < k) (hm : m ≤ k) (hv : 0 < v) : a ≤ v := by
  unfold cmpQ at hc
  rw [sgn_neg_iff] at hc
  have q := Int.mul_le_mul_of_nonneg_right hm (Int.le_of_lt hv)
  have e : k * (a - v) = a * k - k * v := by grind
  have := (neg_l hk).1 (show k * (a - v) < 0 by omega)
  omega
theorem cmp_ge {a v n d : Int} (hc : 0 < cmpQ a v n d) (hd : 0 < d) (hn : 0 ≤ n) (hv : 0 < v) : 0 ≤ a := by
  unfold cmpQ at hc
  rw [sgn_pos_iff] at hc
  have q := Int.mul_nonneg hn (Int.le_of_lt hv)
  have e : d * a = a * d := Int.mul_comm _ _
  have := (pos_l hd).1 (show 0 < d * a by omega)
  omega
/-- One axis: both sides. -/
structure AxOk (x y lo hi aD bD : Int) : Prop where
  a0 : 0 < aD ∧ aD ≤ 100000
  b0 : 0 < bD ∧ bD ≤ 100000
  x : -(5000 * aD) ≤ x ∧ x ≤ 5000 * aD
  y : -(5000 * bD) ≤ y ∧ y ≤ 5000 * bD
  lo : -5000 ≤ lo ∧ lo ≤ 5000
  hi : -5000 ≤ hi ∧ hi ≤ 5000
theorem ax_eq {x y lo hi aD bD : Int} (h : AxOk x y lo hi aD bD) : (IntKind.i64.wrap (IntKind.i64.wrap (y * aD) - IntKind.i64.wrap (x * bD)) = y * aD - x * bD ∧ IntKind.i64.wrap (0 - IntKind.i64.wrap (IntKind.i64.wrap (y * aD) - IntKind.i64.wrap (x * bD))) = -(y * aD - x * bD) ∧ -100000000000000 ≤ y * aD - x * bD ∧ y * aD - x * bD ≤ 100000000000000) ∧
    (IntKind.i64.wrap (IntKind.i64.wrap (x - IntKind.i64.wrap (lo * aD)) * bD) = (x - lo * aD) * bD ∧ IntKind.i64.wrap (0 - IntKind.i64.wrap (IntKind.i64.wrap (x - IntKind.i64.wrap (lo * aD)) * bD)) = -((x - lo * aD) * bD) ∧ -100000000000000 ≤ (x - lo * aD) * bD ∧ (x - lo * aD) * bD ≤ 100000000000000) ∧
    (IntKind.i64.wrap (IntKind.i64.wrap (IntKind.i64.wrap (hi * aD) - x) * bD) = (hi * aD - x) * bD ∧ IntKind.i64.wrap (0 - IntKind.i64.wrap (IntKind.i64.wrap (IntKind.i64.wrap (hi * aD) - x) * bD)) = -((hi * aD - x) * bD) ∧ -100000000000000 ≤ (hi * aD - x) * bD ∧ (hi * aD - x) * bD ≤ 100000000000000) := by
  obtain ⟨h1, h2, h3, h4, h5, h6⟩ := h
  have m1 := mul_bd (a := y) (b := aD) (A := 500000000) (B := 100000) (by omega) (by omega)
  have m2 := mul_bd (a := x) (b := bD) (A := 500000000) (B := 100000) (by omega) (by omega)
  have m3 := coord_bd h5 h1.1
  have m4 := coord_bd h6 h1.1
  have m5 := mul_bd (a := x - lo * aD) (b := bD) (A := 1000000000) (B := 100000) (by omega) (by omega)
  have m6 := mul_bd (a := hi * aD - x) (b := bD) (A := 1000000000) (B := 100000) (by omega) (by omega)
  rw [W_eq (n := y * aD) (by omega) (by omega), W_eq (n := x * bD) (by omega) (by omega), W_eq (n := lo * aD) (by omega) (by omega), W_eq (n := hi * aD) (by omega) (by omega)]
  rw [W_eq (n := x - lo * aD) (by omega) (by omega), W_eq (n := hi * aD - x) (by omega) (by omega), W_eq (n := (x - lo * aD) * bD) (by omega) (by omega), W_eq (n := (hi * aD - x) * bD) (by omega) (by omega), W_eq (n := y * aD - x * bD) (by omega) (by omega)]
  rw [W_eq (n := 0 - (y * aD - x * bD)) (by omega) (by omega), W_eq (n := 0 - (x - lo * aD) * bD) (by omega) (by omega), W_eq (n := 0 - (hi * aD - x) * bD) (by omega) (by omega)]
  refine ⟨⟨rfl, by omega, by omega, by omega⟩, ⟨rfl, by omega, by omega, by omega⟩, rfl, by omega, by omega, by omega⟩
set_option maxRecDepth 100000 in
set_option maxHeartbeats 32000000 in
theorem c190 {c : Can} (hr : CanOk c) {a b : Pt} (ha : PtR a) (hb : PtR b) : PCall Tryz.prog 190 [.agg c.av, a.av, b.av] ⟨Bo (flatR c.rc a.pl b.pl), []⟩ := by
  obtain ⟨⟨v1, v2⟩, v3, v4⟩ := rc_vals c
  have aX : AxOk a.x b.x (imin c.fx c.tx) (imax c.fx c.tx) a.d b.d := ⟨⟨ha.d0, ha.d1⟩, ⟨hb.d0, hb.d1⟩, ha.x, hb.x, by rw [imin_eq]; have := hr.b1; have := hr.b3; omega, by rw [imax_eq]; have := hr.b1; have := hr.b3; omega⟩
  have aY : AxOk a.y b.y (imin c.fy c.ty) (imax c.fy c.ty) a.d b.d := ⟨⟨ha.d0, ha.d1⟩, ⟨hb.d0, hb.d1⟩, ha.y, hb.y, by rw [imin_eq]; have := hr.b2; have := hr.b4; omega, by rw [imax_eq]; have := hr.b2; have := hr.b4; omega⟩
  have hT : flatR c.rc a.pl b.pl = clipR [((a.x - imin c.fx c.tx * a.d) * b.d, b.x * a.d - a.x * b.d), ((imax c.fx c.tx * a.d - a.x) * b.d, -(b.x * a.d - a.x * b.d)), ((a.y - imin c.fy c.ty * a.d) * b.d, b.y * a.d - a.y * b.d), ((imax c.fy c.ty * a.d - a.y) * b.d, -(b.y * a.d - a.y * b.d))] 0 1 1 1 := by
    unfold flatR rcN Pt.pl
    rw [v1, v2, v3, v4, ← imin_eq, ← imin_eq, ← imax_eq, ← imax_eq]
    simp only [List.map_cons, List.map_nil]
    congr 2
    · congr 1; grind
    · congr 1
      · congr 1; grind
      · congr 1
        · congr 1; grind
        · congr 2; grind
  rw [hT]
  clear hT v1 v2 v3 v4
  refine bs.pv (sx := nos) kC2_ok Tryz.func190 (by kernel_rfl) (by kernel_rfl) rfl ?_
  repeat' (first | refine wk3 ?_ | (refine wk2 ?_ ?_ <;> intro _) | refine wk4 ?_ | fail); all_goals (conv => whnf)
  refine LpM.start 3 ?_
  refine LpM.succ (bs.av (sx := nos) kC2_ok ?_)
  repeat' (first | refine wk3 ?_ | (refine wk2 ?_ ?_ <;> intro _) | refine wk4 ?_ | fail); all_goals (conv => whnf)
  have eY : (imin c.fy c.ty = imin c.fy c.ty) ∧ (imax c.fy c.ty = imax c.fy c.ty) := ⟨rfl, rfl⟩
  have hbd : bdQ 0 1 1 1 := ⟨by omega, by omega, by omega, by omega⟩
  have hnm : (0 : Int) ≤ 0 ∧ (1 : Int) ≤ 1 := ⟨by omega, by omega⟩
  generalize hRR : clipR _ 0 1 1 1 = R
  have hR := hRR
  clear hRR
  refine loopV (S := Int × Int × Int × Int × Int) (fun t => (2 - t.1).toNat) (fun t => [(3, .ptr 0 0 0), (4, .ptr 1 0 0), (5, .ptr 2 0 0), (7, I t.2.1), (8, I t.2.2.1), (9, I t.2.2.2.1), (10, I t.2.2.2.2), (11, I 0), (12, I (a.x)), (13, I (b.x)), (14, I (imin c.fx c.tx)), (15, I (imax c.fx c.tx)), (16, I (IntKind.i64.wrap (IntKind.i64.wrap (b.x * a.d) - IntKind.i64.wrap (a.x * b.d)))), (17, I t.1)]) (fun _ => [(2, .row 4 [[I b.x, I b.y, I b.z, I b.d]] true false), (1, .row 4 [[I a.x, I a.y, I a.z, I a.d]] true false), (0, .row 7 [c.av] true false)]) 40 40 (fun t => bdQ t.2.1 t.2.2.1 t.2.2.2.1 t.2.2.2.2 ∧ (0 ≤ t.2.1 ∧ t.2.2.2.1 ≤ t.2.2.2.2) ∧ ((t.1 = 0 ∧ clipR (((a.x - imin c.fx c.tx * a.d) * b.d, (b.x * a.d - a.x * b.d)) :: (((imax c.fx c.tx * a.d - a.x) * b.d, -(b.x * a.d - a.x * b.d)) :: [((a.y - imin c.fy c.ty * a.d) * b.d, b.y * a.d - a.y * b.d), ((imax c.fy c.ty * a.d - a.y) * b.d, -(b.y * a.d - a.y * b.d))])) t.2.1 t.2.2.1 t.2.2.2.1 t.2.2.2.2 = R) ∨ (t.1 = 1 ∧ clipR (((imax c.fx c.tx * a.d - a.x) * b.d, -(b.x * a.d - a.x * b.d)) :: [((a.y - imin c.fy c.ty * a.d) * b.d, b.y * a.d - a.y * b.d), ((imax c.fy c.ty * a.d - a.y) * b.d, -(b.y * a.d - a.y * b.d))]) t.2.1 t.2.2.1 t.2.2.2.1 t.2.2.2.2 = R) ∨ (t.1 = 2 ∧ clipR [((a.y - imin c.fy c.ty * a.d) * b.d, b.y * a.d - a.y * b.d), ((imax c.fy c.ty * a.d - a.y) * b.d, -(b.y * a.d - a.y * b.d))] t.2.1 t.2.2.1 t.2.2.2.1 t.2.2.2.2 = R))) (0, 0, 1, 1, 1) ⟨hbd, hnm, .inl ⟨rfl, hR⟩⟩ (Nat.le_of_ble_eq_true rfl) [] rfl (kps) (kps) ?_
  clear hR hbd hnm
  rintro ⟨e, n, d, m, k⟩ ⟨hbd, hnm, hcase⟩
  dsimp only at hbd hnm hcase ⊢
  obtain ⟨⟨y1, y2, y3⟩, h2, h3⟩ := ax_eq aX
  rw [← y1] at hcase y3
  clear y2
  generalize IntKind.i64.wrap (IntKind.i64.wrap (b.x * a.d) - IntKind.i64.wrap (a.x * b.d)) = BY at *
  rcases hcase with ⟨rfl, hR⟩ | ⟨rfl, hR⟩ | ⟨rfl, hR⟩
  · have ra : IntKind.i64.wrap (IntKind.i64.wrap (a.x - IntKind.i64.wrap (imin c.fx c.tx * a.d)) * b.d) = (a.x - imin c.fx c.tx * a.d) * b.d := h2.1
    have ra' : IntKind.i64.wrap (0 - IntKind.i64.wrap (IntKind.i64.wrap (a.x - IntKind.i64.wrap (imin c.fx c.tx * a.d)) * b.d)) = -((a.x - imin c.fx c.tx * a.d) * b.d) := h2.2.1
    have rb := h2.2.2
    have rm1 : IntKind.i64.wrap (0 - BY) = -BY := W_eq (by omega) (by omega) |>.trans (by omega)
    have rm2 : IntKind.i64.wrap (0 - IntKind.i64.wrap (0 - BY)) = BY := by rw [rm1]; exact (W_eq (by omega) (by omega)).trans (by omega)
    clear h2 h3
    generalize (a.x - imin c.fx c.tx * a.d) * b.d = A at *
    have fin : ∀ n' d' m' k' : Int, bdQ n' d' m' k' → (0 ≤ n' ∧ m' ≤ k') → clipR (((imax c.fx c.tx * a.d - a.x) * b.d, -BY) :: [((a.y - imin c.fy c.ty * a.d) * b.d, b.y * a.d - a.y * b.d), ((imax c.fy c.ty * a.d - a.y) * b.d, -(b.y * a.d - a.y * b.d))]) n' d' m' k' = R → (bdQ n' d' m' k' ∧ (0 ≤ n' ∧ m' ≤ k') ∧ (((1 : Int) = 0 ∧ clipR ((A, (b.x * a.d - a.x * b.d)) :: (((imax c.fx c.tx * a.d - a.x) * b.d, -(b.x * a.d - a.x * b.d)) :: [((a.y - imin c.fy c.ty * a.d) * b.d, b.y * a.d - a.y * b.d), ((imax c.fy c.ty * a.d - a.y) * b.d, -(b.y * a.d - a.y * b.d))])) n' d' m' k' = R) ∨ ((1 : Int) = 1 ∧ clipR (((imax c.fx c.tx * a.d - a.x) * b.d, -(b.x * a.d - a.x * b.d)) :: [((a.y - imin c.fy c.ty * a.d) * b.d, b.y * a.d - a.y * b.d), ((imax c.fy c.ty * a.d - a.y) * b.d, -(b.y * a.d - a.y * b.d))]) n' d' m' k' = R) ∨ ((1 : Int) = 2 ∧ clipR [((a.y - imin c.fy c.ty * a.d) * b.d, b.y * a.d - a.y * b.d), ((imax c.fy c.ty * a.d - a.y) * b.d, -(b.y * a.d - a.y * b.d))] n' d' m' k' = R))) := fun n' d' m' k' g1 g2 g3 => ⟨g1, g2, by rw [← y1]; exact .inr (.inl ⟨rfl, g3⟩)⟩
    rcases Int.lt_trichotomy BY 0 with hv | hv | hv
    · skip
      have ht : cmps [I (IntKind.i64.wrap (IntKind.i64.wrap (a.x - IntKind.i64.wrap (imin c.fx c.tx * a.d)) * b.d)), I (IntKind.i64.wrap (0 - BY)), I m, I k] = some ⟨I (cmpQ A (-(BY)) m k), []⟩ := by rw [ra, rm1]; exact cmps_hit (d := _) ⟨by omega, ⟨hbd.2.1.1, by have := hbd.2.1.2; omega⟩, by omega, by have := hbd.2.2.2; omega⟩
      by_cases hc : cmpQ A (-(BY)) m k < 0
      · rw [clip_hi (by omega) hc] at hR
        have hA : A ≤ -(BY) := cmp_le hc hbd.2.1.1 hnm.2 (by omega)
        generalize cmpQ A (-(BY)) m k = Q at *
        refine bs.av (sx := nos) kC2_ok ?_
        repeat' (first | refine wk3 ?_ | (refine wk2 ?_ ?_ <;> intro _) | refine wk4 ?_ | fail); all_goals (conv => whnf)
        exact Done.mk ⟨(1, n, d, IntKind.i64.wrap (IntKind.i64.wrap (a.x - IntKind.i64.wrap (imin c.fx c.tx * a.d)) * b.d), (IntKind.i64.wrap (0 - BY))), [], rfl, kps, kps, fin n d (IntKind.i64.wrap (IntKind.i64.wrap (a.x - IntKind.i64.wrap (imin c.fx c.tx * a.d)) * b.d)) ((IntKind.i64.wrap (0 - BY))) (by rw [ra, rm1]; exact ⟨hbd.1, by omega, hbd.2.2.1, by omega⟩) (by rw [ra, rm1]; omega) (by rw [ra, rm1]; exact hR), by dsimp only; omega⟩
      · rw [clip_hi' (by omega) hc] at hR
        generalize cmpQ A (-(BY)) m k = Q at *
        refine bs.av (sx := nos) kC2_ok ?_
        repeat' (first | refine wk3 ?_ | (refine wk2 ?_ ?_ <;> intro _) | refine wk4 ?_ | fail); all_goals (conv => whnf)
        exact Done.mk ⟨(1, n, d, m, k), [], rfl, kps, kps, fin _ _ _ _ hbd hnm hR, by dsimp only; omega⟩
    · subst hv
      skip
      by_cases hneg : A < 0
      · rw [clip_zero hneg] at hR
        rw [← hR]
        refine bs.av (sx := nos) kC2_ok ?_
        repeat' (first | refine wk3 ?_ | (refine wk2 ?_ ?_ <;> intro _) | refine wk4 ?_ | fail); all_goals (conv => whnf)
        exact ret_bool rfl
      · rw [clip_free hneg] at hR
        refine bs.av (sx := nos) kC2_ok ?_
        repeat' (first | refine wk3 ?_ | (refine wk2 ?_ ?_ <;> intro _) | refine wk4 ?_ | fail); all_goals (conv => whnf)
        exact Done.mk ⟨(1, n, d, m, k), [], rfl, kps, kps, fin _ _ _ _ hbd hnm hR, by dsimp only; omega⟩
    · skip
      have ht : cmps [I (IntKind.i64.wrap (0 - IntKind.i64.wrap (IntKind.i64.wrap (a.x - IntKind.i64.wrap (imin c.fx c.tx * a.d)) * b.d))), I BY, I n, I d] = some ⟨I (cmpQ (-A) (BY) n d), []⟩ := by rw [ra']; exact cmps_hit ⟨by omega, ⟨hbd.1.1, by have := hbd.1.2; omega⟩, by omega, by have := hbd.2.2.1; omega⟩
      by_cases hc : 0 < cmpQ (-A) (BY) n d
      · rw [clip_lo (by omega) hc] at hR
        have hA : 0 ≤ -A := cmp_ge hc hbd.1.1 hnm.1 (by omega)
        generalize cmpQ (-A) (BY) n d = Q at *
        refine bs.av (sx := nos) kC2_ok ?_
        repeat' (first | refine wk3 ?_ | (refine wk2 ?_ ?_ <;> intro _) | refine wk4 ?_ | fail); all_goals (conv => whnf)
        exact Done.mk ⟨(1, IntKind.i64.wrap (0 - IntKind.i64.wrap (IntKind.i64.wrap (a.x - IntKind.i64.wrap (imin c.fx c.tx * a.d)) * b.d)), BY, m, k), [], rfl, kps, kps, fin (IntKind.i64.wrap (0 - IntKind.i64.wrap (IntKind.i64.wrap (a.x - IntKind.i64.wrap (imin c.fx c.tx * a.d)) * b.d))) (BY) m k (by rw [ra']; exact ⟨by omega, hbd.2.1, by omega, hbd.2.2.2⟩) (by rw [ra']; omega) (by rw [ra']; exact hR), by dsimp only; omega⟩
      · rw [clip_lo' (by omega) hc] at hR
        generalize cmpQ (-A) (BY) n d = Q at *
        refine bs.av (sx := nos) kC2_ok ?_
        repeat' (first | refine wk3 ?_ | (refine wk2 ?_ ?_ <;> intro _) | refine wk4 ?_ | fail); all_goals (conv => whnf)
        exact Done.mk ⟨(1, n, d, m, k), [], rfl, kps, kps, fin _ _ _ _ hbd hnm hR, by dsimp only; omega⟩
  · have ra : IntKind.i64.wrap (IntKind.i64.wrap (IntKind.i64.wrap (imax c.fx c.tx * a.d) - a.x) * b.d) = (imax c.fx c.tx * a.d - a.x) * b.d := h3.1
    have ra' : IntKind.i64.wrap (0 - IntKind.i64.wrap (IntKind.i64.wrap (IntKind.i64.wrap (imax c.fx c.tx * a.d) - a.x) * b.d)) = -((imax c.fx c.tx * a.d - a.x) * b.d) := h3.2.1
    have rb := h3.2.2
    have rm1 : IntKind.i64.wrap (0 - BY) = -BY := W_eq (by omega) (by omega) |>.trans (by omega)
    have rm2 : IntKind.i64.wrap (0 - IntKind.i64.wrap (0 - BY)) = BY := by rw [rm1]; exact (W_eq (by omega) (by omega)).trans (by omega)
    clear h2 h3
    generalize (imax c.fx c.tx * a.d - a.x) * b.d = A at *
    have fin : ∀ n' d' m' k' : Int, bdQ n' d' m' k' → (0 ≤ n' ∧ m' ≤ k') → clipR [((a.y - imin c.fy c.ty * a.d) * b.d, b.y * a.d - a.y * b.d), ((imax c.fy c.ty * a.d - a.y) * b.d, -(b.y * a.d - a.y * b.d))] n' d' m' k' = R → (bdQ n' d' m' k' ∧ (0 ≤ n' ∧ m' ≤ k') ∧ (((2 : Int) = 0 ∧ clipR (((a.x - imin c.fx c.tx * a.d) * b.d, (b.x * a.d - a.x * b.d)) :: ((A, -(b.x * a.d - a.x * b.d)) :: [((a.y - imin c.fy c.ty * a.d) * b.d, b.y * a.d - a.y * b.d), ((imax c.fy c.ty * a.d - a.y) * b.d, -(b.y * a.d - a.y * b.d))])) n' d' m' k' = R) ∨ ((2 : Int) = 1 ∧ clipR ((A, -(b.x * a.d - a.x * b.d)) :: [((a.y - imin c.fy c.ty * a.d) * b.d, b.y * a.d - a.y * b.d), ((imax c.fy c.ty * a.d - a.y) * b.d, -(b.y * a.d - a.y * b.d))]) n' d' m' k' = R) ∨ ((2 : Int) = 2 ∧ clipR [((a.y - imin c.fy c.ty * a.d) * b.d, b.y * a.d - a.y * b.d), ((imax c.fy c.ty * a.d - a.y) * b.d, -(b.y * a.d - a.y * b.d))] n' d' m' k' = R))) := fun n' d' m' k' g1 g2 g3 => ⟨g1, g2, by rw [← y1]; exact .inr (.inr ⟨rfl, g3⟩)⟩
    rcases Int.lt_trichotomy BY 0 with hv | hv | hv
    · skip
      have ht : cmps [I (IntKind.i64.wrap (0 - IntKind.i64.wrap (IntKind.i64.wrap (IntKind.i64.wrap (imax c.fx c.tx * a.d) - a.x) * b.d))), I (IntKind.i64.wrap (0 - BY)), I n, I d] = some ⟨I (cmpQ (-A) (-BY) n d), []⟩ := by rw [ra', rm1]; exact cmps_hit ⟨by omega, ⟨hbd.1.1, by have := hbd.1.2; omega⟩, by omega, by have := hbd.2.2.1; omega⟩
      by_cases hc : 0 < cmpQ (-A) (-BY) n d
      · rw [clip_lo (by omega) hc] at hR
        have hA : 0 ≤ -A := cmp_ge hc hbd.1.1 hnm.1 (by omega)
        generalize cmpQ (-A) (-BY) n d = Q at *
        refine bs.av (sx := nos) kC2_ok ?_
        repeat' (first | refine wk3 ?_ | (refine wk2 ?_ ?_ <;> intro _) | refine wk4 ?_ | fail); all_goals (conv => whnf)
        exact Done.mk ⟨(2, IntKind.i64.wrap (0 - IntKind.i64.wrap (IntKind.i64.wrap (IntKind.i64.wrap (imax c.fx c.tx * a.d) - a.x) * b.d)), (IntKind.i64.wrap (0 - BY)), m, k), [], rfl, kps, kps, fin (IntKind.i64.wrap (0 - IntKind.i64.wrap (IntKind.i64.wrap (IntKind.i64.wrap (imax c.fx c.tx * a.d) - a.x) * b.d))) ((IntKind.i64.wrap (0 - BY))) m k (by rw [ra', rm1]; exact ⟨by omega, hbd.2.1, by omega, hbd.2.2.2⟩) (by rw [ra']; omega) (by rw [ra', rm1]; exact hR), by dsimp only; omega⟩
      · rw [clip_lo' (by omega) hc] at hR
        generalize cmpQ (-A) (-BY) n d = Q at *
        refine bs.av (sx := nos) kC2_ok ?_
        repeat' (first | refine wk3 ?_ | (refine wk2 ?_ ?_ <;> intro _) | refine wk4 ?_ | fail); all_goals (conv => whnf)
        exact Done.mk ⟨(2, n, d, m, k), [], rfl, kps, kps, fin _ _ _ _ hbd hnm hR, by dsimp only; omega⟩
    · subst hv
      rw [show (-0 : Int) = 0 by decide] at hR
      by_cases hneg : A < 0
      · rw [clip_zero hneg] at hR
        rw [← hR]
        refine bs.av (sx := nos) kC2_ok ?_
        repeat' (first | refine wk3 ?_ | (refine wk2 ?_ ?_ <;> intro _) | refine wk4 ?_ | fail); all_goals (conv => whnf)
        exact ret_bool rfl
      · rw [clip_free hneg] at hR
        refine bs.av (sx := nos) kC2_ok ?_
        repeat' (first | refine wk3 ?_ | (refine wk2 ?_ ?_ <;> intro _) | refine wk4 ?_ | fail); all_goals (conv => whnf)
        exact Done.mk ⟨(2, n, d, m, k), [], rfl, kps, kps, fin _ _ _ _ hbd hnm hR, by dsimp only; omega⟩
    · skip
      have ht : cmps [I (IntKind.i64.wrap (IntKind.i64.wrap (IntKind.i64.wrap (imax c.fx c.tx * a.d) - a.x) * b.d)), I (IntKind.i64.wrap (0 - IntKind.i64.wrap (0 - BY))), I m, I k] = some ⟨I (cmpQ A (-(-BY)) m k), []⟩ := by rw [ra, rm2, Int.neg_neg]; exact cmps_hit (d := _) ⟨by omega, ⟨hbd.2.1.1, by have := hbd.2.1.2; omega⟩, by omega, by have := hbd.2.2.2; omega⟩
      by_cases hc : cmpQ A (-(-BY)) m k < 0
      · rw [clip_hi (by omega) hc] at hR
        have hA : A ≤ -(-BY) := cmp_le hc hbd.2.1.1 hnm.2 (by omega)
        generalize cmpQ A (-(-BY)) m k = Q at *
        refine bs.av (sx := nos) kC2_ok ?_
        repeat' (first | refine wk3 ?_ | (refine wk2 ?_ ?_ <;> intro _) | refine wk4 ?_ | fail); all_goals (conv => whnf)
        exact Done.mk ⟨(2, n, d, IntKind.i64.wrap (IntKind.i64.wrap (IntKind.i64.wrap (imax c.fx c.tx * a.d) - a.x) * b.d), (IntKind.i64.wrap (0 - IntKind.i64.wrap (0 - BY)))), [], rfl, kps, kps, fin n d (IntKind.i64.wrap (IntKind.i64.wrap (IntKind.i64.wrap (imax c.fx c.tx * a.d) - a.x) * b.d)) ((IntKind.i64.wrap (0 - IntKind.i64.wrap (0 - BY)))) (by rw [ra, rm2]; exact ⟨hbd.1, by omega, hbd.2.2.1, by omega⟩) (by rw [ra, rm2]; omega) (by rw [ra, rm2, ← Int.neg_neg BY]; exact hR), by dsimp only; omega⟩
      · rw [clip_hi' (by omega) hc] at hR
        generalize cmpQ A (-(-BY)) m k = Q at *
        refine bs.av (sx := nos) kC2_ok ?_
        repeat' (first | refine wk3 ?_ | (refine wk2 ?_ ?_ <;> intro _) | refine wk4 ?_ | fail); all_goals (conv => whnf)
        exact Done.mk ⟨(2, n, d, m, k), [], rfl, kps, kps, fin _ _ _ _ hbd hnm hR, by dsimp only; omega⟩
  · refine bs.av (sx := nos) kC2_ok ?_
    repeat' (first | refine wk3 ?_ | (refine wk2 ?_ ?_ <;> intro _) | refine wk4 ?_ | fail); all_goals (conv => whnf)
    refine LpM.succ (bs.av (sx := nos) kC2_ok ?_)
    repeat' (first | refine wk3 ?_ | (refine wk2 ?_ ?_ <;> intro _) | refine wk4 ?_ | fail); all_goals (conv => whnf)
    refine loopV (S := Int × Int × Int × Int × Int) (fun t => (2 - t.1).toNat) (fun t => [(3, .ptr 0 0 0), (4, .ptr 1 0 0), (5, .ptr 2 0 0), (7, I t.2.1), (8, I t.2.2.1), (9, I t.2.2.2.1), (10, I t.2.2.2.2), (11, I 1), (12, I (a.y)), (13, I (b.y)), (14, I (imin c.fy c.ty)), (15, I (imax c.fy c.ty)), (16, I (IntKind.i64.wrap (IntKind.i64.wrap (b.y * a.d) - IntKind.i64.wrap (a.y * b.d)))), (17, I t.1)]) (fun _ => [(2, .row 4 [[I b.x, I b.y, I b.z, I b.d]] true false), (1, .row 4 [[I a.x, I a.y, I a.z, I a.d]] true false), (0, .row 7 [c.av] true false)]) 100 100 (fun t => bdQ t.2.1 t.2.2.1 t.2.2.2.1 t.2.2.2.2 ∧ (0 ≤ t.2.1 ∧ t.2.2.2.1 ≤ t.2.2.2.2) ∧ ((t.1 = 0 ∧ clipR (((a.y - imin c.fy c.ty * a.d) * b.d, (b.y * a.d - a.y * b.d)) :: (((imax c.fy c.ty * a.d - a.y) * b.d, -(b.y * a.d - a.y * b.d)) :: [])) t.2.1 t.2.2.1 t.2.2.2.1 t.2.2.2.2 = R) ∨ (t.1 = 1 ∧ clipR (((imax c.fy c.ty * a.d - a.y) * b.d, -(b.y * a.d - a.y * b.d)) :: []) t.2.1 t.2.2.1 t.2.2.2.1 t.2.2.2.2 = R) ∨ (t.1 = 2 ∧ clipR [] t.2.1 t.2.2.1 t.2.2.2.1 t.2.2.2.2 = R))) (0, n, d, m, k) ⟨hbd, hnm, .inl ⟨rfl, hR⟩⟩ (Nat.le_of_ble_eq_true rfl) [] rfl (kps) (kps) ?_
    clear hR hbd hnm
    rintro ⟨e, n, d, m, k⟩ ⟨hbd, hnm, hcase⟩
    dsimp only at hbd hnm hcase ⊢
    obtain ⟨⟨y1, y2, y3⟩, h2, h3⟩ := ax_eq aY
    rw [← y1] at hcase y3
    clear y2
    generalize IntKind.i64.wrap (IntKind.i64.wrap (b.y * a.d) - IntKind.i64.wrap (a.y * b.d)) = BY at *
    rcases hcase with ⟨rfl, hR⟩ | ⟨rfl, hR⟩ | ⟨rfl, hR⟩
    · have ra : IntKind.i64.wrap (IntKind.i64.wrap (a.y - IntKind.i64.wrap (imin c.fy c.ty * a.d)) * b.d) = (a.y - imin c.fy c.ty * a.d) * b.d := h2.1
      have ra' : IntKind.i64.wrap (0 - IntKind.i64.wrap (IntKind.i64.wrap (a.y - IntKind.i64.wrap (imin c.fy c.ty * a.d)) * b.d)) = -((a.y - imin c.fy c.ty * a.d) * b.d) := h2.2.1
      have rb := h2.2.2
      have rm1 : IntKind.i64.wrap (0 - BY) = -BY := W_eq (by omega) (by omega) |>.trans (by omega)
      have rm2 : IntKind.i64.wrap (0 - IntKind.i64.wrap (0 - BY)) = BY := by rw [rm1]; exact (W_eq (by omega) (by omega)).trans (by omega)
      clear h2 h3
      generalize (a.y - imin c.fy c.ty * a.d) * b.d = A at *
      have fin : ∀ n' d' m' k' : Int, bdQ n' d' m' k' → (0 ≤ n' ∧ m' ≤ k') → clipR (((imax c.fy c.ty * a.d - a.y) * b.d, -BY) :: []) n' d' m' k' = R → (bdQ n' d' m' k' ∧ (0 ≤ n' ∧ m' ≤ k') ∧ (((1 : Int) = 0 ∧ clipR ((A, (b.y * a.d - a.y * b.d)) :: (((imax c.fy c.ty * a.d - a.y) * b.d, -(b.y * a.d - a.y * b.d)) :: [])) n' d' m' k' = R) ∨ ((1 : Int) = 1 ∧ clipR (((imax c.fy c.ty * a.d - a.y) * b.d, -(b.y * a.d - a.y * b.d)) :: []) n' d' m' k' = R) ∨ ((1 : Int) = 2 ∧ clipR [] n' d' m' k' = R))) := fun n' d' m' k' g1 g2 g3 => ⟨g1, g2, by rw [← y1]; exact .inr (.inl ⟨rfl, g3⟩)⟩
      rcases Int.lt_trichotomy BY 0 with hv | hv | hv
      · skip
        have ht : cmps [I (IntKind.i64.wrap (IntKind.i64.wrap (a.y - IntKind.i64.wrap (imin c.fy c.ty * a.d)) * b.d)), I (IntKind.i64.wrap (0 - BY)), I m, I k] = some ⟨I (cmpQ A (-(BY)) m k), []⟩ := by rw [ra, rm1]; exact cmps_hit (d := _) ⟨by omega, ⟨hbd.2.1.1, by have := hbd.2.1.2; omega⟩, by omega, by have := hbd.2.2.2; omega⟩
        by_cases hc : cmpQ A (-(BY)) m k < 0
        · rw [clip_hi (by omega) hc] at hR
          have hA : A ≤ -(BY) := cmp_le hc hbd.2.1.1 hnm.2 (by omega)
          generalize cmpQ A (-(BY)) m k = Q at *
          refine bs.av (sx := nos) kC2_ok ?_
          repeat' (first | refine wk3 ?_ | (refine wk2 ?_ ?_ <;> intro _) | refine wk4 ?_ | fail); all_goals (conv => whnf)
          exact Done.mk ⟨(1, n, d, IntKind.i64.wrap (IntKind.i64.wrap (a.y - IntKind.i64.wrap (imin c.fy c.ty * a.d)) * b.d), (IntKind.i64.wrap (0 - BY))), [], rfl, kps, kps, fin n d (IntKind.i64.wrap (IntKind.i64.wrap (a.y - IntKind.i64.wrap (imin c.fy c.ty * a.d)) * b.d)) ((IntKind.i64.wrap (0 - BY))) (by rw [ra, rm1]; exact ⟨hbd.1, by omega, hbd.2.2.1, by omega⟩) (by rw [ra, rm1]; omega) (by rw [ra, rm1]; exact hR), by dsimp only; omega⟩
        · rw [clip_hi' (by omega) hc] at hR
          generalize cmpQ A (-(BY)) m k = Q at *
          refine bs.av (sx := nos) kC2_ok ?_
          repeat' (first | refine wk3 ?_ | (refine wk2 ?_ ?_ <;> intro _) | refine wk4 ?_ | fail); all_goals (conv => whnf)
          exact Done.mk ⟨(1, n, d, m, k), [], rfl, kps, kps, fin _ _ _ _ hbd hnm hR, by dsimp only; omega⟩
      · subst hv
        skip
        by_cases hneg : A < 0
        · rw [clip_zero hneg] at hR
          rw [← hR]
          refine bs.av (sx := nos) kC2_ok ?_
          repeat' (first | refine wk3 ?_ | (refine wk2 ?_ ?_ <;> intro _) | refine wk4 ?_ | fail); all_goals (conv => whnf)
          exact ret_bool rfl
        · rw [clip_free hneg] at hR
          refine bs.av (sx := nos) kC2_ok ?_
          repeat' (first | refine wk3 ?_ | (refine wk2 ?_ ?_ <;> intro _) | refine wk4 ?_ | fail); all_goals (conv => whnf)
          exact Done.mk ⟨(1, n, d, m, k), [], rfl, kps, kps, fin _ _ _ _ hbd hnm hR, by dsimp only; omega⟩
      · skip
        have ht : cmps [I (IntKind.i64.wrap (0 - IntKind.i64.wrap (IntKind.i64.wrap (a.y - IntKind.i64.wrap (imin c.fy c.ty * a.d)) * b.d))), I BY, I n, I d] = some ⟨I (cmpQ (-A) (BY) n d), []⟩ := by rw [ra']; exact cmps_hit ⟨by omega, ⟨hbd.1.1, by have := hbd.1.2; omega⟩, by omega, by have := hbd.2.2.1; omega⟩
        by_cases hc : 0 < cmpQ (-A) (BY) n d
        · rw [clip_lo (by omega) hc] at hR
          have hA : 0 ≤ -A := cmp_ge hc hbd.1.1 hnm.1 (by omega)
          generalize cmpQ (-A) (BY) n d = Q at *
          refine bs.av (sx := nos) kC2_ok ?_
          repeat' (first | refine wk3 ?_ | (refine wk2 ?_ ?_ <;> intro _) | refine wk4 ?_ | fail); all_goals (conv => whnf)
          exact Done.mk ⟨(1, IntKind.i64.wrap (0 - IntKind.i64.wrap (IntKind.i64.wrap (a.y - IntKind.i64.wrap (imin c.fy c.ty * a.d)) * b.d)), BY, m, k), [], rfl, kps, kps, fin (IntKind.i64.wrap (0 - IntKind.i64.wrap (IntKind.i64.wrap (a.y - IntKind.i64.wrap (imin c.fy c.ty * a.d)) * b.d))) (BY) m k (by rw [ra']; exact ⟨by omega, hbd.2.1, by omega, hbd.2.2.2⟩) (by rw [ra']; omega) (by rw [ra']; exact hR), by dsimp only; omega⟩
        · rw [clip_lo' (by omega) hc] at hR
          generalize cmpQ (-A) (BY) n d = Q at *
          refine bs.av (sx := nos) kC2_ok ?_
          repeat' (first | refine wk3 ?_ | (refine wk2 ?_ ?_ <;> intro _) | refine wk4 ?_ | fail); all_goals (conv => whnf)
          exact Done.mk ⟨(1, n, d, m, k), [], rfl, kps, kps, fin _ _ _ _ hbd hnm hR, by dsimp only; omega⟩
    · have ra : IntKind.i64.wrap (IntKind.i64.wrap (IntKind.i64.wrap (imax c.fy c.ty * a.d) - a.y) * b.d) = (imax c.fy c.ty * a.d - a.y) * b.d := h3.1
      have ra' : IntKind.i64.wrap (0 - IntKind.i64.wrap (IntKind.i64.wrap (IntKind.i64.wrap (imax c.fy c.ty * a.d) - a.y) * b.d)) = -((imax c.fy c.ty * a.d - a.y) * b.d) := h3.2.1
      have rb := h3.2.2
      have rm1 : IntKind.i64.wrap (0 - BY) = -BY := W_eq (by omega) (by omega) |>.trans (by omega)
      have rm2 : IntKind.i64.wrap (0 - IntKind.i64.wrap (0 - BY)) = BY := by rw [rm1]; exact (W_eq (by omega) (by omega)).trans (by omega)
      clear h2 h3
      generalize (imax c.fy c.ty * a.d - a.y) * b.d = A at *
      have fin : ∀ n' d' m' k' : Int, bdQ n' d' m' k' → (0 ≤ n' ∧ m' ≤ k') → clipR [] n' d' m' k' = R → (bdQ n' d' m' k' ∧ (0 ≤ n' ∧ m' ≤ k') ∧ (((2 : Int) = 0 ∧ clipR (((a.y - imin c.fy c.ty * a.d) * b.d, (b.y * a.d - a.y * b.d)) :: ((A, -(b.y * a.d - a.y * b.d)) :: [])) n' d' m' k' = R) ∨ ((2 : Int) = 1 ∧ clipR ((A, -(b.y * a.d - a.y * b.d)) :: []) n' d' m' k' = R) ∨ ((2 : Int) = 2 ∧ clipR [] n' d' m' k' = R))) := fun n' d' m' k' g1 g2 g3 => ⟨g1, g2, by rw [← y1]; exact .inr (.inr ⟨rfl, g3⟩)⟩
      rcases Int.lt_trichotomy BY 0 with hv | hv | hv
      · skip
        have ht : cmps [I (IntKind.i64.wrap (0 - IntKind.i64.wrap (IntKind.i64.wrap (IntKind.i64.wrap (imax c.fy c.ty * a.d) - a.y) * b.d))), I (IntKind.i64.wrap (0 - BY)), I n, I d] = some ⟨I (cmpQ (-A) (-BY) n d), []⟩ := by rw [ra', rm1]; exact cmps_hit ⟨by omega, ⟨hbd.1.1, by have := hbd.1.2; omega⟩, by omega, by have := hbd.2.2.1; omega⟩
        by_cases hc : 0 < cmpQ (-A) (-BY) n d
        · rw [clip_lo (by omega) hc] at hR
          have hA : 0 ≤ -A := cmp_ge hc hbd.1.1 hnm.1 (by omega)
          generalize cmpQ (-A) (-BY) n d = Q at *
          refine bs.av (sx := nos) kC2_ok ?_
          repeat' (first | refine wk3 ?_ | (refine wk2 ?_ ?_ <;> intro _) | refine wk4 ?_ | fail); all_goals (conv => whnf)
          exact Done.mk ⟨(2, IntKind.i64.wrap (0 - IntKind.i64.wrap (IntKind.i64.wrap (IntKind.i64.wrap (imax c.fy c.ty * a.d) - a.y) * b.d)), (IntKind.i64.wrap (0 - BY)), m, k), [], rfl, kps, kps, fin (IntKind.i64.wrap (0 - IntKind.i64.wrap (IntKind.i64.wrap (IntKind.i64.wrap (imax c.fy c.ty * a.d) - a.y) * b.d))) ((IntKind.i64.wrap (0 - BY))) m k (by rw [ra', rm1]; exact ⟨by omega, hbd.2.1, by omega, hbd.2.2.2⟩) (by rw [ra']; omega) (by rw [ra', rm1]; exact hR), by dsimp only; omega⟩
        · rw [clip_lo' (by omega) hc] at hR
          generalize cmpQ (-A) (-BY) n d = Q at *
          refine bs.av (sx := nos) kC2_ok ?_
          repeat' (first | refine wk3 ?_ | (refine wk2 ?_ ?_ <;> intro _) | refine wk4 ?_ | fail); all_goals (conv => whnf)
          exact Done.mk ⟨(2, n, d, m, k), [], rfl, kps, kps, fin _ _ _ _ hbd hnm hR, by dsimp only; omega⟩
      · subst hv
        rw [show (-0 : Int) = 0 by decide] at hR
        by_cases hneg : A < 0
        · rw [clip_zero hneg] at hR
          rw [← hR]
          refine bs.av (sx := nos) kC2_ok ?_
          repeat' (first | refine wk3 ?_ | (refine wk2 ?_ ?_ <;> intro _) | refine wk4 ?_ | fail); all_goals (conv => whnf)
          exact ret_bool rfl
        · rw [clip_free hneg] at hR
          refine bs.av (sx := nos) kC2_ok ?_
          repeat' (first | refine wk3 ?_ | (refine wk2 ?_ ?_ <;> intro _) | refine wk4 ?_ | fail); all_goals (conv => whnf)
          exact Done.mk ⟨(2, n, d, m, k), [], rfl, kps, kps, fin _ _ _ _ hbd hnm hR, by dsimp only; omega⟩
      · skip
        have ht : cmps [I (IntKind.i64.wrap (IntKind.i64.wrap (IntKind.i64.wrap (imax c.fy c.ty * a.d) - a.y) * b.d)), I (IntKind.i64.wrap (0 - IntKind.i64.wrap (0 - BY))), I m, I k] = some ⟨I (cmpQ A (-(-BY)) m k), []⟩ := by rw [ra, rm2, Int.neg_neg]; exact cmps_hit (d := _) ⟨by omega, ⟨hbd.2.1.1, by have := hbd.2.1.2; omega⟩, by omega, by have := hbd.2.2.2; omega⟩
        by_cases hc : cmpQ A (-(-BY)) m k < 0
        · rw [clip_hi (by omega) hc] at hR
          have hA : A ≤ -(-BY) := cmp_le hc hbd.2.1.1 hnm.2 (by omega)
          generalize cmpQ A (-(-BY)) m k = Q at *
          refine bs.av (sx := nos) kC2_ok ?_
          repeat' (first | refine wk3 ?_ | (refine wk2 ?_ ?_ <;> intro _) | refine wk4 ?_ | fail); all_goals (conv => whnf)
          exact Done.mk ⟨(2, n, d, IntKind.i64.wrap (IntKind.i64.wrap (IntKind.i64.wrap (imax c.fy c.ty * a.d) - a.y) * b.d), (IntKind.i64.wrap (0 - IntKind.i64.wrap (0 - BY)))), [], rfl, kps, kps, fin n d (IntKind.i64.wrap (IntKind.i64.wrap (IntKind.i64.wrap (imax c.fy c.ty * a.d) - a.y) * b.d)) ((IntKind.i64.wrap (0 - IntKind.i64.wrap (0 - BY)))) (by rw [ra, rm2]; exact ⟨hbd.1, by omega, hbd.2.2.1, by omega⟩) (by rw [ra, rm2]; omega) (by rw [ra, rm2, ← Int.neg_neg BY]; exact hR), by dsimp only; omega⟩
        · rw [clip_hi' (by omega) hc] at hR
          generalize cmpQ A (-(-BY)) m k = Q at *
          refine bs.av (sx := nos) kC2_ok ?_
          repeat' (first | refine wk3 ?_ | (refine wk2 ?_ ?_ <;> intro _) | refine wk4 ?_ | fail); all_goals (conv => whnf)
          exact Done.mk ⟨(2, n, d, m, k), [], rfl, kps, kps, fin _ _ _ _ hbd hnm hR, by dsimp only; omega⟩
    · refine bs.av (sx := nos) kC2_ok ?_
      repeat' (first | refine wk3 ?_ | (refine wk2 ?_ ?_ <;> intro _) | refine wk4 ?_ | fail); all_goals (conv => whnf)
      refine LpM.succ (bs.av (sx := nos) kC2_ok ?_)
      have t1 := cmps_hit hbd.ok
      have t2 := cmps_hit (n := n) (d := d) (m := 1) (k := 1) ⟨hbd.ok.1, by omega, hbd.ok.2.2.1, by omega⟩
      have t3 := cmps_hit (n := m) (d := k) (m := 0) (k := 1) ⟨hbd.ok.2.1, by omega, hbd.ok.2.2.2, by omega⟩
      rw [clipR] at hR
      subst hR
      generalize cmpQ n d m k = q1 at *
      generalize cmpQ n d 1 1 = q2 at *
      generalize cmpQ m k 0 1 = q3 at *
      repeat' (first | refine wk0 ?_ | (refine wk2 ?_ ?_ <;> intro _) | refine wk4 ?_ | fail); all_goals (conv => whnf)
      all_goals exact ret_bool (by clear t1 t2 t3 h2 h3 y1 y3 hbd hnm; simp_all <;> (try (intros; omega)))
end Go.Proofs.YtjpmeaagnhojgaaGreat
