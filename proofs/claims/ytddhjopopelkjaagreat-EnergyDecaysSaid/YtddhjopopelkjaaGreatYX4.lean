/- A part of the proof: lemmas. -/
import Derived.Test.YtddhjopopelkjaaGreatYX3
set_option linter.unusedVariables false
set_option linter.unusedSimpArgs false
namespace Go.Proofs.YtddhjopopelkjaaGreat
open Go Go.Sx Go.En
/-! ### One step of an exchange -/
theorem part_bd {kept s : Int} (hk : 0 ≤ kept) (h0 : 0 ≤ s) (h1 : s ≤ 1000) : 0 ≤ kept * s ∧ kept * s ≤ kept * 1000 := ⟨Int.mul_nonneg hk h0, Int.mul_le_mul_of_nonneg_left h1 hk⟩
def pE (kept s : Int) : Int := IntKind.i64.wrap ((IntKind.i64.wrap (kept * s)).tdiv 1000)
def pR (kept s : Int) : Int := IntKind.i64.wrap (kept * s) / 1000
theorem pE_eq {kept s : Int} (hk : 0 ≤ kept ∧ kept ≤ 13000000000000) (hs : 0 ≤ s ∧ s ≤ 1000) : pE kept s = kept * s / 1000 := by
  obtain ⟨a, b⟩ := part_bd hk.1 hs.1 hs.2
  unfold pE
  generalize kept * s = q at *
  rw [W_eq (n := q) (by omega) (by omega), Int.tdiv_eq_ediv_of_nonneg (by omega), W_eq (by omega) (by omega)]
theorem pR_eq {kept s : Int} (hk : 0 ≤ kept ∧ kept ≤ 13000000000000) (hs : 0 ≤ s ∧ s ≤ 1000) : pR kept s = kept * s / 1000 := by
  obtain ⟨a, b⟩ := part_bd hk.1 hs.1 hs.2
  unfold pR
  generalize kept * s = q at *
  rw [W_eq (n := q) (by omega) (by omega)]
abbrev RowOk (n : Nat) (r : List Int) : Prop := r.length = n ∧ (∀ s ∈ r, 0 ≤ s ∧ s ≤ 1000) ∧ tot r = 1000
structure RowSt (n : Nat) (r out : List Int) (kept B : Int) (p : Int → Int) : Prop where
  add : addQ IntKind.i64.wrap p r out = addP kept r out
  sum : sumQ IntKind.i64.wrap p kept r = kept - gsum kept r
  lo : 0 ≤ kept - gsum kept r
  hi : kept - gsum kept r ≤ kept
  bd : ∀ o ∈ addP kept r out, 0 ≤ o ∧ o ≤ B + kept
  len : (addP kept r out).length = n
theorem row_ok {n : Nat} {r out : List Int} {kept B : Int} {p : Int → Int} (hr : RowOk n r) (hk : 0 ≤ kept ∧ kept ≤ 13000000000000) (hp : ∀ s, 0 ≤ s ∧ s ≤ 1000 → p s = kept * s / 1000) (ho : out.length = n) (hB : B ≤ 1000000000000000000) (hb : ∀ o ∈ out, 0 ≤ o ∧ o ≤ B) (hn : n ≤ 12) : RowSt n r out kept B p := by
  obtain ⟨r1, r2, r3⟩ := hr
  obtain ⟨k1, k2⟩ := hk
  have q1 : ∀ s ∈ r, p s = kept * s / 1000 ∧ 0 ≤ p s ∧ p s ≤ kept := fun s hs => by
    have := r2 s hs
    obtain ⟨a, b⟩ := part_bd k1 this.1 this.2
    rw [hp s this]
    generalize kept * s = q at *
    exact ⟨rfl, by omega, by omega⟩
  have q2 : ∀ s ∈ r, 0 ≤ kept * s / 1000 ∧ kept * s / 1000 ≤ kept := fun s hs => by
    have := q1 s hs
    rw [this.1] at this
    exact this.2
  obtain ⟨g1, g2, g3⟩ := gsum_bd k1 r2
  rw [r3] at g2 g3
  have hm : kept * (r.length : Int) ≤ kept * 12 := Int.mul_le_mul_of_nonneg_left (by omega) k1
  refine ⟨addQ_eq (M := kept) q1 (fun o h => by have := hb o h; omega) (fun m h0 h1 => W_eq (by omega) (by omega)), sumQ_eq (M := kept) q1 (by omega) (by omega) (fun m h0 h1 => W_eq (by omega) (by omega)), by omega, by omega, addP_bd q2 k1 B hb, by rw [addP_len, ho]⟩
theorem addQ_nil (w p : Int → Int) (out : List Int) : addQ w p [] out = out := by simp [addQ]
theorem nl_zer (n : Nat) : List.replicate n [I 0] = nl (zer n) := by unfold nl zer; rw [List.map_replicate]
theorem zer_len (n : Nat) : (zer n).length = n := by unfold zer; rw [List.length_replicate]
theorem zer_bd {n : Nat} {B : Int} (hB : 0 ≤ B) : ∀ o ∈ zer n, 0 ≤ o ∧ o ≤ B := by
  intro o ho
  unfold zer at ho
  have := List.eq_of_mem_replicate ho
  omega
theorem setEl_nl (l : List Int) (i : Nat) (v : Int) : setEl (nl l) i [I v] = nl (l.set i v) := by
  rw [setEl_eq]; unfold nl; rw [List.map_set]
theorem setEl_nl0 (l : List Int) (j : Nat) (v : Int) : setEl (nl l) (0 + ((j : Nat) : Int).toNat) [I v] = nl (l.set j v) := by
  rw [Nat.zero_add]; exact setEl_nl l j v
theorem nl_get0 {l : List Int} {j : Nat} (h : j < l.length) : (nl l)[0 + ((j : Nat) : Int).toNat]? = some [I l[j]] := by rw [Nat.zero_add]; exact nl_get h
/-- A right exchange with energies. -/
structure StH (rows : List (List Int)) (ls e : List Int) : Prop where
  x : ExOk rows.length rows ls
  n : rows.length ≤ 12
  l : e.length = rows.length
  nn : Nn e
  t : tot e ≤ 13000000000000
theorem StH.step {rows : List (List Int)} {ls e : List Int} (h : StH rows ls e) : StH rows ls (En.step rows ls e).1 := by
  have s := step_ok h.x h.l h.nn
  have t := step_nn h.x h.l h.nn
  have u := h.t
  exact ⟨h.x, h.n, s.len, s.nn, by omega⟩
theorem addAt_at {l : List Int} {m : Nat} (hm : m < l.length) {x B : Int} (hb : ∀ o ∈ l, 0 ≤ o ∧ o ≤ B) (hB : B ≤ 2000000000000000000) (hx : 0 ≤ x ∧ x ≤ 13000000000000) : l.set m (IntKind.i64.wrap (l[m] + x)) = addAt l m x := by
  have := hb _ (List.getElem_mem hm)
  rw [addAt_set hm, W_eq (by omega) (by omega)]
set_option maxRecDepth 100000 in
set_option maxHeartbeats 16000000 in
theorem d114 {rows : List (List Int)} {ls e : List Int} (h : StH rows ls e) : PCall Tryz.prog 114 [exA rows ls, .isl 1 (nl e)] ⟨.tup [.isl 1 (nl (En.step rows ls e).1), I (En.step rows ls e).2], []⟩ := by
  refine PCall.freeze (res := ⟨.tup [.asl 0 0 (nl (En.step rows ls e).1).length, I (En.step rows ls e).2], [(1, nl (En.step rows ls e).1)]⟩) ?_ ⟨⟨rfl, rfl, rfl⟩, ⟨rfl, rfl⟩, trivial⟩
  have l1 := rv_length rows
  have l2 := nl_length ls
  have l3 := nl_length e
  have hn := h.n
  have hl := h.l
  have hll := h.x.ll
  have hst := (step_ok h.x h.l h.nn).len
  refine bs.pv (sx := nos) kX1_ok Tryz.func114 (by kernel_rfl) (by kernel_rfl) rfl ?_
  repeat' (first | refine wk3 ?_ | (refine wk2 ?_ ?_ <;> intro _) | refine wk4 ?_ | fail); all_goals (conv => whnf)
  refine loopV (S := Nat × Int × List (List AV) × List Int × Int) (fun t => e.length - t.1) (fun t => [(2, .ptr 0 0 0), (6, .asl 1 0 (nl e).length), (7, I t.2.2.2.2), (19, .isl 1 (nl e)), (20, I (nl e).length), (21, I t.2.1)]) (fun t => [(1, .row 1 t.2.2.1 true true), (0, .row 2 [[.isl 1 (rows.map rv), .isl 1 (nl ls)]] true false)]) 2 2 (fun t => t.2.1 = t.1 ∧ t.1 ≤ e.length ∧ t.2.2.1 = nl t.2.2.2.1 ∧ t.2.2.2.1.length = rows.length ∧ (∀ o ∈ t.2.2.2.1, 0 ≤ o ∧ o ≤ 30000000000000 * t.1) ∧ (0 ≤ t.2.2.2.2 ∧ t.2.2.2.2 ≤ 13000000000000 * t.1) ∧ En.stepG (rows.drop t.1) (ls.drop t.1) (e.drop t.1) t.2.2.2.1 t.2.2.2.2 = En.step rows ls e) (0, 0, List.replicate (nl e).length [I 0], zer e.length, 0) ⟨rfl, Nat.zero_le _, by rw [l3]; exact nl_zer _, by rw [zer_len, hl], zer_bd (by omega), ⟨Int.le_refl _, by simp⟩, rfl⟩ (Nat.le_refl _) [] rfl (kps) (kps) ?_
  rintro ⟨k, i, els, out, all⟩ ⟨hi, hk, hels, hlen, hb, hall, hh⟩
  dsimp only at hi hk hels hlen hb hall hh ⊢
  subst hi hels
  generalize En.step rows ls e = R at *
  refine bs.av (sx := nos) kX1_ok ?_
  by_cases hlt : k < e.length
  · have e1 := nl_get hlt
    have e2 := nl_get (ns := ls) (k := k) (by omega)
    have e3 := rv_get (rows := rows) (k := k) (by omega)
    have hr : RowOk rows.length (rows[k]'(by omega)) := h.x.row _ (List.getElem_mem _)
    have hL := h.x.lost _ (List.getElem_mem (show k < ls.length by omega))
    have hx := h.nn _ (List.getElem_mem hlt)
    have hx2 := le_tot h.nn _ (List.getElem_mem hlt)
    have ht := h.t
    rw [List.drop_eq_getElem_cons hlt, List.drop_eq_getElem_cons (show k < ls.length by omega), List.drop_eq_getElem_cons (show k < rows.length by omega), En.stepG] at hh
    obtain ⟨r, er⟩ : ∃ r, r = rows[k]'(by omega) := ⟨_, rfl⟩
    obtain ⟨L, eL⟩ : ∃ L, L = ls[k]'(by omega) := ⟨_, rfl⟩
    obtain ⟨x, ex⟩ : ∃ x, x = e[k] := ⟨_, rfl⟩
    rw [← er] at e3 hr
    rw [← eL] at e2 hL
    rw [← ex] at e1 hx hx2
    simp only [← er, ← eL, ← ex] at hh
    clear er eL ex
    obtain ⟨b1, b2⟩ := part_bd hx hL.1 hL.2
    have w1 : IntKind.i64.wrap (x * L) = x * L := W_eq (by omega) (by omega)
    have ha : abv (IntKind.i64.wrap (x * L)) 1000 = above (x * L) := by rw [w1, abv_eq b1 (by omega)]
    obtain ⟨c1, c2⟩ := above_bd hx hL.1 hL.2
    generalize above (x * L) = lost at *
    have w2 : IntKind.i64.wrap (x - lost) = x - lost := W_eq (by omega) (by omega)
    have l4 := nl_length r
    have hr0 := hr.1
    repeat' (first | refine wk3 ?_ | (refine wk2 ?_ ?_ <;> intro _) | refine wk4 ?_ | fail); all_goals (conv => whnf)
    rw [ha]
    refine loopV (S := Nat × Int × List (List AV) × List Int × Int) (fun t => r.length - t.1) (fun t => [(2, .ptr 0 0 0), (6, .asl 1 0 (nl e).length), (7, I all), (8, I (k : Int)), (10, I lost), (11, I (IntKind.i64.wrap (x - lost))), (12, I t.2.2.2.2), (19, .isl 1 (nl e)), (20, I (nl e).length), (21, I (k : Int)), (44, .isl 1 (nl r)), (45, I (nl r).length), (46, I t.2.1)]) (fun t => [(1, .row 1 t.2.2.1 true true), (0, .row 2 [[.isl 1 (rows.map rv), .isl 1 (nl ls)]] true false)]) 2 2 (fun t => t.2.1 = t.1 ∧ t.1 ≤ r.length ∧ t.2.2.1 = nl t.2.2.2.1 ∧ t.2.2.2.1.length = rows.length ∧ t.2.2.2.1.take t.1 ++ addQ IntKind.i64.wrap (pE (IntKind.i64.wrap (x - lost))) (r.drop t.1) (t.2.2.2.1.drop t.1) = addQ IntKind.i64.wrap (pE (IntKind.i64.wrap (x - lost))) r out ∧ sumQ IntKind.i64.wrap (pE (IntKind.i64.wrap (x - lost))) t.2.2.2.2 (r.drop t.1) = sumQ IntKind.i64.wrap (pE (IntKind.i64.wrap (x - lost))) (IntKind.i64.wrap (x - lost)) r) (0, 0, nl out, out, IntKind.i64.wrap (x - lost)) ⟨rfl, Nat.zero_le _, rfl, hlen, by simp, rfl⟩ (Nat.le_refl _) [] rfl (kps) (kps) ?_
    rintro ⟨j, ij, els, out2, left⟩ ⟨hij, hj, hels, hlen2, hq, hs⟩
    dsimp only at hij hj hels hlen2 hq hs ⊢
    subst hij hels
    refine bs.av (sx := nos) kX1_ok ?_
    by_cases hlj : j < r.length
    · have e4 := nl_get hlj
      have e5 := nl_get0 (l := out2) (j := j) (by omega)
      rw [addQ_step IntKind.i64.wrap _ hlj (by omega)] at hq
      rw [List.drop_eq_getElem_cons hlj, sumQ] at hs
      repeat' (first | refine wk3 ?_ | (refine wk2 ?_ ?_ <;> intro _) | refine wk4 ?_ | fail); all_goals (conv => whnf)
      exact Done.mk ⟨(j + 1, IntKind.i64.wrap ((j : Int) + 1), setEl (nl out2) (0 + ((j : Nat) : Int).toNat) [I (IntKind.i64.wrap (out2[j] + pE (IntKind.i64.wrap (x - lost)) r[j]))], out2.set j (IntKind.i64.wrap (out2[j] + pE (IntKind.i64.wrap (x - lost)) r[j])), IntKind.i64.wrap (left - pE (IntKind.i64.wrap (x - lost)) r[j])), [], rfl, kps, kps, ⟨W_succ (by omega), hlj, setEl_nl0 _ _ _, by rw [List.length_set]; exact hlen2, hq, hs⟩, by dsimp only; omega⟩
    · rw [List.drop_of_length_le (by omega), List.drop_of_length_le (by omega), List.take_of_length_le (by omega), addQ_nil, List.append_nil] at hq
      rw [List.drop_of_length_le (by omega), sumQ] at hs
      rw [w2] at hq hs
      have hR := row_ok (B := 30000000000000 * k) hr ⟨show 0 ≤ x - lost by omega, by omega⟩ (fun s hs => pE_eq ⟨by omega, by omega⟩ hs) hlen (by omega) hb hn
      rw [hR.add] at hq
      rw [hR.sum] at hs
      subst hq hs
      have hm : En.imax r < (addP (x - lost) r out).length := by rw [hR.len, ← hr.1]; exact imax_lt (by have := h.x.pos; omega)
      have m1 := famN_hit (p := Len6p) (fun ns => ⟨I (mxl ns), []⟩) (ns := r) ⟨by omega, by omega⟩
      have m2 := famNI_hit (fun ns n => ⟨I (idxI n 0 ns), []⟩) (ns := r) (by omega) (mxl r)
      rw [idx_max (by omega)] at m2
      have e6 := nl_get0 hm
      have hl2 := hR.len
      have hm0 := hm
      have hs1 := hR.lo
      have hs2 := hR.hi
      rw [← addAt_at hm hR.bd (by omega) ⟨hR.lo, by omega⟩] at hh
      have hbd := addAt_bd (M := x - lost) ⟨hR.lo, hR.hi⟩ (i := En.imax r) hR.bd
      rw [← addAt_at hm hR.bd (by omega) ⟨hR.lo, by omega⟩] at hbd
      have w3 : IntKind.i64.wrap (all + lost) = all + lost := W_eq (by omega) (by omega)
      rw [← w3] at hh
      have hls : ((addP (x - lost) r out).set (En.imax r) (IntKind.i64.wrap ((addP (x - lost) r out)[En.imax r] + (x - lost - gsum (x - lost) r)))).length = rows.length := by rw [List.length_set]; exact hl2
      clear hR
      repeat' (first | refine wk3 ?_ | (refine wk2 ?_ ?_ <;> intro _) | refine wk4 ?_ | fail); all_goals (conv => whnf)
      exact Done.mk ⟨(k + 1, IntKind.i64.wrap ((k : Int) + 1), setEl (nl (addP (x - lost) r out)) (0 + ((En.imax r : Nat) : Int).toNat) [I (IntKind.i64.wrap ((addP (x - lost) r out)[En.imax r] + (x - lost - gsum (x - lost) r)))], (addP (x - lost) r out).set (En.imax r) (IntKind.i64.wrap ((addP (x - lost) r out)[En.imax r] + (x - lost - gsum (x - lost) r))), IntKind.i64.wrap (all + lost)), [], rfl, kps, kps, ⟨W_succ (by omega), hlt, setEl_nl0 _ _ _, hls, fun o ho => by have := hbd o ho; omega, ⟨by show (0 : Int) ≤ IntKind.i64.wrap (all + lost); rw [w3]; omega, by show IntKind.i64.wrap (all + lost) ≤ 13000000000000 * ((k + 1 : Nat) : Int); rw [w3]; omega⟩, hh⟩, by dsimp only; omega⟩
  · rw [List.drop_of_length_le (by omega), List.drop_of_length_le (by omega), List.drop_of_length_le (by omega), En.stepG] at hh
    · subst hh
      repeat' (first | refine wk3 ?_ | (refine wk2 ?_ ?_ <;> intro _) | refine wk4 ?_ | fail); all_goals (conv => whnf)
      refine ret_rows [1] rfl ?_ rfl
      show AV.tup [AV.asl 1 0 (nl e).length, I all] = AV.tup [AV.asl 1 0 (nl out).length, I all]
      rw [l3, nl_length, hlen, hl]
    · intro a b c d f g h1 h2 h3; cases h1
theorem imaxG_zero {r : List Int} (h : 0 < r.length) : En.imaxG 0 (nth r 0) 0 (r.drop 0) = En.imax r := by
  obtain ⟨x, l, rfl⟩ := List.exists_cons_of_length_pos h
  rw [List.drop_zero, En.imaxG, nth_cons_zero, if_neg (by omega)]; rfl
set_option maxRecDepth 100000 in
set_option maxHeartbeats 16000000 in
theorem d34 {rows : List (List Int)} {ls e : List Int} (h : StH rows ls e) : PCall Tryz.prog 34 [exA rows ls, .isl 1 (nl e)] ⟨.tup [.isl 1 (nl (En.step rows ls e).1), I (En.step rows ls e).2], []⟩ := by
  refine PCall.freeze (res := ⟨.tup [.asl 0 0 (nl (En.step rows ls e).1).length, I (En.step rows ls e).2], [(1, nl (En.step rows ls e).1)]⟩) ?_ ⟨⟨rfl, rfl, rfl⟩, ⟨rfl, rfl⟩, trivial⟩
  have l1 := rv_length rows
  have l2 := nl_length ls
  have l3 := nl_length e
  have hn := h.n
  have hl := h.l
  have hll := h.x.ll
  have hst := (step_ok h.x h.l h.nn).len
  refine bs.pv (sx := nos) kX1_ok Tryz.func34 (by kernel_rfl) (by kernel_rfl) rfl ?_
  repeat' (first | refine wk3 ?_ | (refine wk2 ?_ ?_ <;> intro _) | refine wk4 ?_ | fail); all_goals (conv => whnf)
  refine loopV (S := Nat × Int × List (List AV) × List Int × Int) (fun t => e.length - t.1) (fun t => [(1, .isl 1 (nl e)), (2, .ptr 0 0 0), (6, I (nl e).length), (7, I t.2.2.2.2), (8, .asl 1 0 (nl e).length), (9, I t.2.1)]) (fun t => [(1, .row 1 t.2.2.1 true true), (0, .row 2 [[.isl 1 (rows.map rv), .isl 1 (nl ls)]] true false)]) 2 2 (fun t => t.2.1 = t.1 ∧ t.1 ≤ e.length ∧ t.2.2.1 = nl t.2.2.2.1 ∧ t.2.2.2.1.length = rows.length ∧ (∀ o ∈ t.2.2.2.1, 0 ≤ o ∧ o ≤ 30000000000000 * t.1) ∧ (0 ≤ t.2.2.2.2 ∧ t.2.2.2.2 ≤ 13000000000000 * t.1) ∧ En.stepG (rows.drop t.1) (ls.drop t.1) (e.drop t.1) t.2.2.2.1 t.2.2.2.2 = En.step rows ls e) (0, 0, List.replicate (nl e).length [I 0], zer e.length, 0) ⟨rfl, Nat.zero_le _, by rw [l3]; exact nl_zer _, by rw [zer_len, hl], zer_bd (by omega), ⟨Int.le_refl _, by simp⟩, rfl⟩ (Nat.le_refl _) [] rfl (kps) (kps) ?_
  rintro ⟨k, i, els, out, all⟩ ⟨hi, hk, hels, hlen, hb, hall, hh⟩
  dsimp only at hi hk hels hlen hb hall hh ⊢
  subst hi hels
  generalize En.step rows ls e = R at *
  refine bs.av (sx := nos) kX1_ok ?_
  by_cases hlt : k < e.length
  · have e1 := nl_get hlt
    have e2 := nl_get (ns := ls) (k := k) (by omega)
    have e3 := rv_get (rows := rows) (k := k) (by omega)
    have hr : RowOk rows.length (rows[k]'(by omega)) := h.x.row _ (List.getElem_mem _)
    have hL := h.x.lost _ (List.getElem_mem (show k < ls.length by omega))
    have hx := h.nn _ (List.getElem_mem hlt)
    have hx2 := le_tot h.nn _ (List.getElem_mem hlt)
    have ht := h.t
    rw [List.drop_eq_getElem_cons hlt, List.drop_eq_getElem_cons (show k < ls.length by omega), List.drop_eq_getElem_cons (show k < rows.length by omega), En.stepG] at hh
    obtain ⟨r, er⟩ : ∃ r, r = rows[k]'(by omega) := ⟨_, rfl⟩
    obtain ⟨L, eL⟩ : ∃ L, L = ls[k]'(by omega) := ⟨_, rfl⟩
    obtain ⟨x, ex⟩ : ∃ x, x = e[k] := ⟨_, rfl⟩
    rw [← er] at e3 hr
    rw [← eL] at e2 hL
    rw [← ex] at e1 hx hx2
    simp only [← er, ← eL, ← ex] at hh
    clear er eL ex
    obtain ⟨b1, b2⟩ := part_bd hx hL.1 hL.2
    have w1 : IntKind.i64.wrap (x * L) = x * L := W_eq (by omega) (by omega)
    have ha : -((-(IntKind.i64.wrap (x * L))) / 1000) = above (x * L) := by rw [w1]; unfold above; omega
    have hc := cl_hit (n := IntKind.i64.wrap (x * L)) (b := 1000) ⟨by omega, by omega, by omega⟩
    rw [ha] at hc
    obtain ⟨c1, c2⟩ := above_bd hx hL.1 hL.2
    generalize above (x * L) = lost at *
    have w2 : IntKind.i64.wrap (x - lost) = x - lost := W_eq (by omega) (by omega)
    have l4 := nl_length r
    have hr0 := hr.1
    have hrp : 0 < r.length := by have := h.x.pos; omega
    repeat' (first | refine wk3 ?_ | (refine wk2 ?_ ?_ <;> intro _) | refine wk4 ?_ | fail); all_goals (conv => whnf)
    refine loopV (S := Nat × Int × List (List AV) × List Int × Int × Nat) (fun t => r.length - t.1) (fun t => [(1, .isl 1 (nl e)), (2, .ptr 0 0 0), (6, I (nl e).length), (7, I all), (8, .asl 1 0 (nl e).length), (9, I (k : Int)), (10, I lost), (11, I (IntKind.i64.wrap (x - lost))), (12, I t.2.2.2.2.1), (13, I (t.2.2.2.2.2 : Int)), (14, I t.2.1)]) (fun t => [(1, .row 1 t.2.2.1 true true), (0, .row 2 [[.isl 1 (rows.map rv), .isl 1 (nl ls)]] true false)]) 14 14 (fun t => t.2.1 = t.1 ∧ t.1 ≤ r.length ∧ t.2.2.1 = nl t.2.2.2.1 ∧ t.2.2.2.1.length = rows.length ∧ t.2.2.2.1.take t.1 ++ addQ IntKind.i64.wrap (pR (IntKind.i64.wrap (x - lost))) (r.drop t.1) (t.2.2.2.1.drop t.1) = addQ IntKind.i64.wrap (pR (IntKind.i64.wrap (x - lost))) r out ∧ sumQ IntKind.i64.wrap (pR (IntKind.i64.wrap (x - lost))) t.2.2.2.2.1 (r.drop t.1) = sumQ IntKind.i64.wrap (pR (IntKind.i64.wrap (x - lost))) (IntKind.i64.wrap (x - lost)) r ∧ t.2.2.2.2.2 < r.length ∧ En.imaxG t.2.2.2.2.2 (nth r t.2.2.2.2.2) t.1 (r.drop t.1) = En.imax r) (0, 0, nl out, out, IntKind.i64.wrap (x - lost), 0) ⟨rfl, Nat.zero_le _, rfl, hlen, by simp, rfl, hrp, imaxG_zero hrp⟩ (Nat.le_refl _) [] rfl (kps) (kps) ?_
    rintro ⟨j, ij, els, out2, left, m⟩ ⟨hij, hj, hels, hlen2, hq, hs, hm1, hm2⟩
    dsimp only at hij hj hels hlen2 hq hs hm1 hm2 ⊢
    subst hij hels
    refine bs.av (sx := nos) kX1_ok ?_
    by_cases hlj : j < r.length
    · have e4 := nl_get hlj
      have e5 := nl_get0 (l := out2) (j := j) (by omega)
      rw [addQ_step IntKind.i64.wrap _ hlj (by omega)] at hq
      rw [List.drop_eq_getElem_cons hlj, sumQ] at hs
      rw [List.drop_eq_getElem_cons hlj, En.imaxG, nth_get hm1] at hm2
      have e6 := nl_get (ns := r) hm1
      have hsj := hr.2.1 _ (List.getElem_mem hlj)
      obtain ⟨p1, p2⟩ := part_bd (kept := x - lost) (by omega) hsj.1 hsj.2
      have hf := fl_hit (n := IntKind.i64.wrap (IntKind.i64.wrap (x - lost) * r[j])) (b := 1000) (by rw [w2, W_eq (n := (x - lost) * r[j]) (by omega) (by omega)]; exact ⟨by omega, by omega, by omega⟩)
      by_cases c : r[m] < r[j]
      · rw [if_pos c] at hm2
        repeat' (first | refine wk3 ?_ | (refine wk2 ?_ ?_ <;> intro _) | refine wk4 ?_ | fail); all_goals (conv => whnf)
        exact Done.mk ⟨(j + 1, IntKind.i64.wrap ((j : Int) + 1), setEl (nl out2) (0 + ((j : Nat) : Int).toNat) [I (IntKind.i64.wrap (out2[j] + pR (IntKind.i64.wrap (x - lost)) r[j]))], out2.set j (IntKind.i64.wrap (out2[j] + pR (IntKind.i64.wrap (x - lost)) r[j])), IntKind.i64.wrap (left - pR (IntKind.i64.wrap (x - lost)) r[j]), j), [], rfl, kps, kps, ⟨W_succ (by omega), hlj, setEl_nl0 _ _ _, by rw [List.length_set]; exact hlen2, hq, hs, hlj, by show En.imaxG j (nth r j) _ _ = _; rw [nth_get hlj]; exact hm2⟩, by dsimp only; omega⟩
      · rw [if_neg c] at hm2
        repeat' (first | refine wk3 ?_ | (refine wk2 ?_ ?_ <;> intro _) | refine wk4 ?_ | fail); all_goals (conv => whnf)
        exact Done.mk ⟨(j + 1, IntKind.i64.wrap ((j : Int) + 1), setEl (nl out2) (0 + ((j : Nat) : Int).toNat) [I (IntKind.i64.wrap (out2[j] + pR (IntKind.i64.wrap (x - lost)) r[j]))], out2.set j (IntKind.i64.wrap (out2[j] + pR (IntKind.i64.wrap (x - lost)) r[j])), IntKind.i64.wrap (left - pR (IntKind.i64.wrap (x - lost)) r[j]), m), [], rfl, kps, kps, ⟨W_succ (by omega), hlj, setEl_nl0 _ _ _, by rw [List.length_set]; exact hlen2, hq, hs, hm1, by show En.imaxG m (nth r m) _ _ = _; rw [nth_get hm1]; exact hm2⟩, by dsimp only; omega⟩
    · rw [List.drop_of_length_le (by omega), List.drop_of_length_le (by omega), List.take_of_length_le (by omega), addQ_nil, List.append_nil] at hq
      rw [List.drop_of_length_le (by omega), sumQ] at hs
      rw [List.drop_of_length_le (by omega), En.imaxG] at hm2
      subst hm2
      rw [w2] at hq hs
      have hR := row_ok (B := 30000000000000 * k) hr ⟨show 0 ≤ x - lost by omega, by omega⟩ (fun s hs => pR_eq ⟨by omega, by omega⟩ hs) hlen (by omega) hb hn
      rw [hR.add] at hq
      rw [hR.sum] at hs
      subst hq hs
      have hm : En.imax r < (addP (x - lost) r out).length := by rw [hR.len, ← hr.1]; exact imax_lt (by have := h.x.pos; omega)
      have e6 := nl_get0 hm
      have hl2 := hR.len
      have hm0 := hm
      have hs1 := hR.lo
      have hs2 := hR.hi
      rw [← addAt_at hm hR.bd (by omega) ⟨hR.lo, by omega⟩] at hh
      have hbd := addAt_bd (M := x - lost) ⟨hR.lo, hR.hi⟩ (i := En.imax r) hR.bd
      rw [← addAt_at hm hR.bd (by omega) ⟨hR.lo, by omega⟩] at hbd
      have w3 : IntKind.i64.wrap (all + lost) = all + lost := W_eq (by omega) (by omega)
      rw [← w3] at hh
      have hls : ((addP (x - lost) r out).set (En.imax r) (IntKind.i64.wrap ((addP (x - lost) r out)[En.imax r] + (x - lost - gsum (x - lost) r)))).length = rows.length := by rw [List.length_set]; exact hl2
      clear hR
      repeat' (first | refine wk3 ?_ | (refine wk2 ?_ ?_ <;> intro _) | refine wk4 ?_ | fail); all_goals (conv => whnf)
      exact Done.mk ⟨(k + 1, IntKind.i64.wrap ((k : Int) + 1), setEl (nl (addP (x - lost) r out)) (0 + ((En.imax r : Nat) : Int).toNat) [I (IntKind.i64.wrap ((addP (x - lost) r out)[En.imax r] + (x - lost - gsum (x - lost) r)))], (addP (x - lost) r out).set (En.imax r) (IntKind.i64.wrap ((addP (x - lost) r out)[En.imax r] + (x - lost - gsum (x - lost) r))), IntKind.i64.wrap (all + lost)), [], rfl, kps, kps, ⟨W_succ (by omega), hlt, setEl_nl0 _ _ _, hls, fun o ho => by have := hbd o ho; omega, ⟨by show (0 : Int) ≤ IntKind.i64.wrap (all + lost); rw [w3]; omega, by show IntKind.i64.wrap (all + lost) ≤ 13000000000000 * ((k + 1 : Nat) : Int); rw [w3]; omega⟩, hh⟩, by dsimp only; omega⟩
  · rw [List.drop_of_length_le (by omega), List.drop_of_length_le (by omega), List.drop_of_length_le (by omega), En.stepG] at hh
    · subst hh
      repeat' (first | refine wk3 ?_ | (refine wk2 ?_ ?_ <;> intro _) | refine wk4 ?_ | fail); all_goals (conv => whnf)
      refine ret_rows [1] rfl ?_ rfl
      show AV.tup [AV.asl 1 0 (nl e).length, I all] = AV.tup [AV.asl 1 0 (nl out).length, I all]
      rw [l3, nl_length, hlen, hl]
    · intro a b c d f g h1 h2 h3; cases h1
end Go.Proofs.YtddhjopopelkjaaGreat
