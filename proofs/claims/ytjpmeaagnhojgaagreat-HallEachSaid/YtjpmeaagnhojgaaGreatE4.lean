/- A part of the proof: lemmas. -/
import Derived.Test.YtjpmeaagnhojgaaGreatE3
set_option linter.unusedVariables false
set_option linter.unusedSimpArgs false
namespace Go.Proofs.YtjpmeaagnhojgaaGreat
open Go Go.Sx

theorem hgs_of {h : Hal} (g : h.fine) : ∀ c ∈ h.ks, 1 ≤ c.hs.length ∧ c.hs.length ≤ 4 := by
  intro c hc
  obtain ⟨k, hk, rfl⟩ := List.mem_iff_getElem.1 hc
  have := g.can k hk
  unfold cErrR at this
  split at this
  · split at this
    · cases this
    · split at this
      · cases this
      · split at this
        · cases this
        · split at this
          · cases this
          · split at this
            · rename_i hw
              have := within_iff.1 hw
              omega
            · cases this
  · cases this
theorem pos_hgs {h : Hal} (g : h.fine) : ∀ c ∈ h.ks, 0 < c.hs.length := fun c hc => (hgs_of g c hc).1
theorem hrad_bd {h : Hal} (g : h.fine) : ∀ r ∈ hrad h, 0 < r ∧ r ≤ 4 := by
  intro r hr
  obtain ⟨c, hc, rfl⟩ := List.mem_map.1 hr
  have := hgs_of g c hc
  omega
theorem prd_take_bd {h : Hal} (g : h.fine) (i : Nat) : 0 < prd ((hrad h).take i) ∧ prd ((hrad h).take i) ≤ 256 := by
  have hb : ∀ r ∈ (hrad h).take i, 0 < r ∧ r ≤ 4 := fun r hr => hrad_bd g r (List.mem_of_mem_take hr)
  refine ⟨prd_pos fun r hr => (hb r hr).1, Int.le_trans (prd_le (by decide) hb) ?_⟩
  have hl : ((hrad h).take i).length ≤ 4 := by
    rw [List.length_take]; unfold hrad; rw [List.length_map]
    have := g.le.2.2.2.2.1
    omega
  generalize ((hrad h).take i).length = n at hl
  have : n = 0 ∨ n = 1 ∨ n = 2 ∨ n = 3 ∨ n = 4 := by omega
  rcases this with rfl | rfl | rfl | rfl | rfl <;> decide
theorem pow2_bd {n : Nat} (hn : n ≤ 12) : (0 : Int) < 2 ^ n ∧ (2 : Int) ^ n ≤ 4096 := by
  have : n = 0 ∨ n = 1 ∨ n = 2 ∨ n = 3 ∨ n = 4 ∨ n = 5 ∨ n = 6 ∨ n = 7 ∨ n = 8 ∨ n = 9 ∨ n = 10 ∨ n = 11 ∨ n = 12 := by omega
  rcases this with rfl | rfl | rfl | rfl | rfl | rfl | rfl | rfl | rfl | rfl | rfl | rfl | rfl <;> decide
set_option maxRecDepth 100000 in
set_option maxHeartbeats 4000000 in
theorem c77 {h : Hal} (hk : h.ok) (g : h.fine) : PCall Tryz.prog 77 [h.av] ⟨I (nset h), []⟩ := by
  have l4 := ca_length h.ks
  obtain ⟨f1, f2, f3, f4, f5, f6⟩ := hk.f
  have hcl := curG_len h.ws 0
  have hle := g.le
  have h0 : PCOK Tryz.prog (ins 80 (one [h.av] ⟨.isl 1 (nl (curG 0 h.ws)), []⟩) pt0) := one_ok (c80 hk.f) pt0_ok
  have hn : nset h = prd (hrad h) * 2 ^ (curG 0 h.ws).length := by unfold nset; rw [prd_wrad h.ws 0]
  have hp := pow2_bd (n := (curG 0 h.ws).length) (by omega)
  have hlr : (hrad h).length = h.ks.length := by unfold hrad; rw [List.length_map]
  have hW : IntKind.i64.wrap (1 * 2 ^ min (((nl (curG 0 h.ws)).length : Nat) : Int).toNat IntKind.i64.bits) = 2 ^ (curG 0 h.ws).length := by
    rw [nl_length, Int.toNat_natCast, Nat.min_eq_left (by show _ ≤ 64; omega), Int.one_mul, W_eq (by omega) (by omega)]
  have hb := prd_take_bd g
  generalize curG 0 h.ws = L at *
  generalize (2 : Int) ^ L.length = P at *
  refine bs.pv (sx := nos) h0 Tryz.func77 (by kernel_rfl) (by kernel_rfl) rfl ?_
  repeat' (first | refine wk3 ?_ | (refine wk2 ?_ ?_ <;> intro _) | refine wk4 ?_ | fail); all_goals (conv => whnf)
  refine loopV (S := Nat × Int × Int) (fun t => h.ks.length - t.1) (fun t => [(3, I t.2.2), (12, .isl 7 (h.ks.map Can.av)), (13, I (h.ks.map Can.av).length), (14, I t.2.1)]) (fun _ => []) 1 1
    (fun t => t.2.1 = t.1 ∧ t.1 ≤ h.ks.length ∧ t.2.2 = prd ((hrad h).take t.1) * P) (0, 0, IntKind.i64.wrap (1 * 2 ^ min (((nl L).length : Nat) : Int).toNat IntKind.i64.bits)) ⟨rfl, Nat.zero_le _, by rw [hW]; simp [prd]⟩ (Nat.le_refl _) [] rfl (kps) (kps) ?_
  rintro ⟨k, i, t⟩ ⟨hi, hkk, ht⟩
  dsimp only at hi hkk ht ⊢
  subst hi
  subst ht
  refine bs.av (sx := nos) h0 ?_
  by_cases hlt : k < h.ks.length
  · have e1 := ca_get hlt
    have e2 := prd_take (rs := hrad h) (i := k) (by omega)
    have e3 : (hrad h)[k]'(by omega) = (h.ks[k].hs.length : Int) := by simp [hrad]
    have e5 : ((nl h.ks[k].hs).length : Int) = h.ks[k].hs.length := by rw [nl_length]
    have e6 := hgs_of g _ (List.getElem_mem hlt)
    have b1 := hb k
    have b2 := hb (k + 1)
    rw [e3] at e2
    generalize h.ks[k] = c at *
    repeat' (first | refine wk3 ?_ | (refine wk2 ?_ ?_ <;> intro _) | refine wk4 ?_ | fail); all_goals (conv => whnf)
    refine Done.mk ⟨(k + 1, _, _), [], rfl, kps, kps, ⟨W_succ (by omega), hlt, ?_⟩, by dsimp only; omega⟩
    show IntKind.i64.wrap (prd ((hrad h).take k) * P * ((nl c.hs).length : Int)) = _
    rw [e5, e2, Int.mul_right_comm, W_eq]
    · rw [← e2]
      have : 0 ≤ prd ((hrad h).take (k + 1)) * P := Int.mul_nonneg (by omega) (by omega)
      omega
    · rw [← e2]
      have : prd ((hrad h).take (k + 1)) * P ≤ 256 * 4096 := Int.mul_le_mul b2.2 hp.2 (by omega) (by omega)
      omega
  · have e1 : (hrad h).take k = hrad h := List.take_of_length_le (by omega)
    repeat' (first | refine wk3 ?_ | (refine wk2 ?_ ?_ <;> intro _) | refine wk4 ?_ | fail); all_goals (conv => whnf)
    exact ret_int (by rw [e1, hn])

/-- How many settings a hall has, or the error. -/
def cntE (h : Hal) : Int := if h.err = 0 then (if 1000 < nset h then 8 else 0) else h.err
def cntV (h : Hal) : Int := if h.err = 0 then (if 1000 < nset h then 0 else nset h) else 0
set_option maxHeartbeats 4000000 in
theorem c21 {h : Hal} (hk : h.ok) : PCall Tryz.prog 21 [h.av] ⟨.tup [I (cntV h), I (cntE h)], []⟩ := by
  by_cases he : h.err = 0
  · have g := fine_of hk he
    have c76' := c76 hk
    rw [he] at c76'
    have h0 : PCOK Tryz.prog (ins 76 (one [h.av] ⟨.tup [h.av, I 0], []⟩) (ins 77 (one [h.av] ⟨I (nset h), []⟩) pt0)) := one_ok c76' (one_ok (c77 hk g) pt0_ok)
    unfold cntV cntE
    rw [if_pos he, if_pos he]
    refine bs.pv (sx := nos) h0 Tryz.func21 (by kernel_rfl) (by kernel_rfl) rfl ?_
    repeat' (first | refine wk3 ?_ | (refine wk2 ?_ ?_ <;> intro _) | refine wk4 ?_ | fail); all_goals (conv => whnf)
    · rename_i hx
      rw [if_pos (of_decide_eq_true hx), if_pos (of_decide_eq_true hx)]
      exact ret_of rfl rfl
    · rename_i hx
      rw [if_neg (of_decide_eq_false hx), if_neg (of_decide_eq_false hx)]
      exact ret_of rfl rfl
  · have h0 : PCOK Tryz.prog (ins 76 (one [h.av] ⟨.tup [h.av, I h.err], []⟩) pt0) := one_ok (c76 hk) pt0_ok
    unfold cntV cntE
    rw [if_neg he, if_neg he]
    refine bs.pv (sx := nos) h0 Tryz.func21 (by kernel_rfl) (by kernel_rfl) rfl ?_
    repeat' (first | refine wk3 ?_ | (refine wk2 ?_ ?_ <;> intro _) | refine wk4 ?_ | fail); all_goals (conv => whnf)
    exact ret_of rfl rfl

/-! ### How many settings: the reference -/
theorem wrad_take_bd {h : Hal} (g : h.fine) (i : Nat) : 0 < prd ((wrad h.ws).take i) ∧ prd ((wrad h.ws).take i) ≤ 4096 := by
  have hb : ∀ r ∈ (wrad h.ws).take i, 0 < r ∧ r ≤ 2 := fun r hr => by
    obtain ⟨w, _, rfl⟩ := List.mem_map.1 (List.mem_of_mem_take hr)
    constructor <;> split <;> omega
  refine ⟨prd_pos fun r hr => (hb r hr).1, Int.le_trans (prd_le (by decide) hb) ?_⟩
  have hl : ((wrad h.ws).take i).length ≤ 12 := by
    rw [List.length_take]; unfold wrad; rw [List.length_map]
    have := g.le.2.2.2.1
    omega
  exact (pow2_bd hl).2
set_option maxRecDepth 100000 in
set_option maxHeartbeats 4000000 in
theorem c48 {h : Hal} (hk : h.ok) (g : h.fine) : PCall Tryz.prog 48 [h.av] ⟨.tup [I (if 1000 < nset h then 0 else nset h), I (if 1000 < nset h then 8 else 0)], []⟩ := by
  have l4 := ca_length h.ks
  have l5 := wa_length h.ws
  obtain ⟨f1, f2, f3, f4, f5, f6⟩ := hk.f
  have hle := g.le
  have hlr : (hrad h).length = h.ks.length := by unfold hrad; rw [List.length_map]
  have hlw : (wrad h.ws).length = h.ws.length := by unfold wrad; rw [List.length_map]
  have hb := prd_take_bd g
  have hbw := wrad_take_bd g
  have hn : nset h = prd (hrad h) * prd (wrad h.ws) := rfl
  refine bs.pv (sx := nos) pt0_ok Tryz.func48 (by kernel_rfl) (by kernel_rfl) rfl ?_
  repeat' (first | refine wk3 ?_ | (refine wk2 ?_ ?_ <;> intro _) | refine wk4 ?_ | fail); all_goals (conv => whnf)
  refine loopV (S := Nat × Int × Int) (fun t => h.ks.length - t.1) (fun t => [(1, .ptr 0 0 0), (4, I t.2.2), (5, I t.2.1)]) (fun _ => [(0, .row 9 [h.cells] true false)]) 1 1
    (fun t => t.2.1 = t.1 ∧ t.1 ≤ h.ks.length ∧ t.2.2 = prd ((hrad h).take t.1)) (0, 0, 1) ⟨rfl, Nat.zero_le _, rfl⟩ (Nat.le_refl _) [] rfl (kps) (kps) ?_
  rintro ⟨k, i, t⟩ ⟨hi, hkk, ht⟩
  dsimp only at hi hkk ht ⊢
  subst hi
  subst ht
  refine bs.av (sx := nos) pt0_ok ?_
  by_cases hlt : k < h.ks.length
  · have e1 := ca_get hlt
    have e2 := prd_take (rs := hrad h) (i := k) (by omega)
    have e3 : (hrad h)[k]'(by omega) = (h.ks[k].hs.length : Int) := by simp [hrad]
    have e5 : ((nl h.ks[k].hs).length : Int) = h.ks[k].hs.length := by rw [nl_length]
    have b2 := hb (k + 1)
    rw [e3] at e2
    generalize h.ks[k] = c at *
    repeat' (first | refine wk3 ?_ | (refine wk2 ?_ ?_ <;> intro _) | refine wk4 ?_ | fail); all_goals (conv => whnf)
    refine Done.mk ⟨(k + 1, _, _), [], rfl, kps, kps, ⟨W_succ (by omega), hlt, ?_⟩, by dsimp only; omega⟩
    show IntKind.i64.wrap (prd ((hrad h).take k) * ((nl c.hs).length : Int)) = _
    rw [e5, ← e2, W_eq (by omega) (by omega)]
  have e0 : (hrad h).take k = hrad h := List.take_of_length_le (by omega)
  have b0 := hb k
  rw [e0] at b0 ⊢
  repeat' (first | refine wk3 ?_ | (refine wk2 ?_ ?_ <;> intro _) | refine wk4 ?_ | fail); all_goals (conv => whnf)
  clear hlt hkk e0
  generalize prd (hrad h) = P at *
  refine loopV (S := Nat × Int × Int) (fun t => h.ws.length - t.1) (fun t => [(1, .ptr 0 0 0), (4, I t.2.2), (6, I t.2.1)]) (fun _ => [(0, .row 9 [h.cells] true false)]) 1 1
    (fun t => t.2.1 = t.1 ∧ t.1 ≤ h.ws.length ∧ t.2.2 = P * prd ((wrad h.ws).take t.1)) (0, 0, P) ⟨rfl, Nat.zero_le _, by simp [prd]⟩ (Nat.le_refl _) [] rfl (kps) (kps) ?_
  rintro ⟨k2, i, t⟩ ⟨hi, hkk, ht⟩
  dsimp only at hi hkk ht ⊢
  subst hi
  subst ht
  refine bs.av (sx := nos) pt0_ok ?_
  by_cases hlt : k2 < h.ws.length
  · have e1 := wa_get hlt
    have e2 := prd_take (rs := wrad h.ws) (i := k2) (by omega)
    have e3 : (wrad h.ws)[k2]'(by omega) = if noCu h.ws[k2] then 1 else 2 := by simp [wrad]
    have b2 := hbw (k2 + 1)
    rw [e3] at e2
    generalize h.ws[k2] = c at *
    have hc : (c.cu == ⟨#[]⟩) = noCu c := rfl
    cases hx : noCu c with
    | true =>
      rw [hx] at e2 hc
      rw [if_pos rfl, Int.mul_one] at e2
      repeat' (first | refine wk3 ?_ | (refine wk2 ?_ ?_ <;> intro _) | refine wk4 ?_ | fail); all_goals (conv => whnf)
      · exfalso; rename_i hy; rw [hc] at hy; cases hy
      · exact Done.mk ⟨(k2 + 1, _, _), [], rfl, kps, kps, ⟨W_succ (by omega), hlt, by rw [e2]⟩, by dsimp only; omega⟩
    | false =>
      rw [hx] at e2 hc
      simp only [Bool.false_eq_true, if_false] at e2
      repeat' (first | refine wk3 ?_ | (refine wk2 ?_ ?_ <;> intro _) | refine wk4 ?_ | fail); all_goals (conv => whnf)
      · refine Done.mk ⟨(k2 + 1, _, _), [], rfl, kps, kps, ⟨W_succ (by omega), hlt, ?_⟩, by dsimp only; omega⟩
        show IntKind.i64.wrap (2 * (P * prd ((wrad h.ws).take k2))) = _
        have e4 : 2 * (P * prd ((wrad h.ws).take k2)) = P * prd ((wrad h.ws).take (k2 + 1)) := by rw [e2, Int.mul_comm 2, Int.mul_assoc]
        have b3 : P * prd ((wrad h.ws).take (k2 + 1)) ≤ 256 * 4096 := Int.mul_le_mul b0.2 b2.2 (by omega) (by omega)
        have b4 : 0 ≤ P * prd ((wrad h.ws).take (k2 + 1)) := Int.mul_nonneg (by omega) (by omega)
        rw [e4, W_eq (by omega) (by omega)]
      · exfalso; rename_i hy; rw [hc] at hy; cases hy
  · have e1 : (wrad h.ws).take k2 = wrad h.ws := List.take_of_length_le (by omega)
    rw [e1, ← hn]
    repeat' (first | refine wk3 ?_ | (refine wk2 ?_ ?_ <;> intro _) | refine wk4 ?_ | fail); all_goals (conv => whnf)
    · rename_i hx
      rw [if_pos (of_decide_eq_true hx), if_pos (of_decide_eq_true hx)]
      exact ret_of rfl rfl
    · rename_i hx
      rw [if_neg (of_decide_eq_false hx), if_neg (of_decide_eq_false hx)]
      exact ret_of rfl rfl
end Go.Proofs.YtjpmeaagnhojgaaGreat
