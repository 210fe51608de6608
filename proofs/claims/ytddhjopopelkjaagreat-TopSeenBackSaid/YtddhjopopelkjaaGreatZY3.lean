/- A part of the proof: lemmas. -/
import Derived.Test.YtddhjopopelkjaaGreatZY2
set_option linter.unusedVariables false
set_option linter.unusedSimpArgs false
namespace Go.Proofs.YtddhjopopelkjaaGreat
open Go Go.Sx
/-! ### The walk of moved -/
theorem frz_cpy (h : Hal) : Frz (cpyB h) (cpyV h) h.av := by
  unfold cpyV cpyB
  cases hq : h.ks with
  | nil =>
    exact ⟨⟨rfl, rfl⟩, ⟨rfl, rfl⟩, ⟨rfl, rfl⟩, ⟨rfl, rfl⟩, ⟨rfl, rfl, rfl⟩, ⟨rfl, rfl, rfl⟩, ⟨rfl, rfl, rfl⟩, by rw [hq]; rfl, ⟨rfl, rfl, rfl⟩, trivial⟩
  | cons c l =>
    exact ⟨⟨rfl, rfl⟩, ⟨rfl, rfl⟩, ⟨rfl, rfl⟩, ⟨rfl, rfl⟩, ⟨rfl, rfl, rfl⟩, ⟨rfl, rfl, rfl⟩, ⟨rfl, rfl, rfl⟩, ⟨by rw [hq]; rfl, rfl, by rw [hq]⟩, ⟨rfl, rfl, rfl⟩, trivial⟩
/-- The first k are changed. -/
def mixL {α : Type} (f : α → α) (l : List α) (k : Nat) : List α := (l.map f).take k ++ l.drop k
theorem mixL_0 {α : Type} (f : α → α) (l : List α) : mixL f l 0 = l := by simp [mixL]
theorem mixL_len {α : Type} (f : α → α) (l : List α) (k : Nat) : (mixL f l k).length = l.length := by
  unfold mixL
  rw [List.length_append, List.length_take, List.length_drop, List.length_map]; omega
theorem mixL_all {α : Type} (f : α → α) (l : List α) {k : Nat} (h : l.length ≤ k) : mixL f l k = l.map f := by
  unfold mixL
  rw [List.take_of_length_le (by simpa using h), List.drop_of_length_le h, List.append_nil]
theorem mixL_get {α : Type} (f : α → α) {l : List α} {k : Nat} (h : k < l.length) : (mixL f l k)[k]? = some l[k] := by
  unfold mixL
  rw [List.getElem?_append_right (by simp; omega), List.length_take, List.length_map, Nat.min_eq_left (by omega), Nat.sub_self, List.getElem?_drop]
  simp [h]
theorem mixL_set {α : Type} (f : α → α) {l : List α} {k : Nat} (h : k < l.length) : (mixL f l k).set k (f l[k]) = mixL f l (k + 1) := by
  unfold mixL
  have hl : ((l.map f).take k).length = k := by simp; omega
  rw [List.set_append_right k _ (by omega), hl, Nat.sub_self, List.drop_eq_getElem_cons h, List.set_cons_zero, List.take_succ_eq_append_getElem (by simpa using h), List.append_assoc, List.getElem_map]
  rfl
theorem mix_get {α : Type} (f : α → α) (g : α → List AV) {l : List α} {k : Nat} (h : k < l.length) : ((mixL f l k).map g)[0 + ((k : Nat) : Int).toNat]? = some (g l[k]) := by
  rw [Nat.zero_add, Int.toNat_natCast, List.getElem?_map, mixL_get f h]; rfl
theorem mix_set {α : Type} (f : α → α) (g : α → List AV) {l : List α} {k : Nat} (h : k < l.length) : setEl ((mixL f l k).map g) (0 + ((k : Nat) : Int).toNat) (g (f l[k])) = (mixL f l (k + 1)).map g := by
  rw [Nat.zero_add, Int.toNat_natCast, setEl_eq, ← List.map_set, mixL_set f h]
theorem setEl_get (l : List (List AV)) (i : Nat) (c : List AV) (h : i < l.length) : (setEl l i c)[i]? = some c := by
  rw [setEl_eq]; simp [h]
theorem setEl_twice (l : List (List AV)) (i : Nat) (c d : List AV) : setEl (setEl l i c) i d = setEl l i d := by
  rw [setEl_eq, setEl_eq, setEl_eq, List.set_set]
set_option maxRecDepth 100000 in
set_option maxHeartbeats 16000000 in
theorem d75 {h : Hal} (hf : h.few) (g : h.fine) {a b : Int} (ha : -1000 ≤ a ∧ a ≤ 1000) (hb : -1000 ≤ b ∧ b ≤ 1000) : PCall Tryz.prog 75 [h.av, P2 a b] ⟨cpyV (h.mv a b), cpyB (h.mv a b)⟩ := by
  have hc := c22 hf
  obtain ⟨f1, f2, f3, f4, f5, f6⟩ := hf
  have lc : (h.cs.map pt).length = h.cs.length := by simp
  have lk := ca_length h.ks
  have ls := se_length h.ss
  have mc : ((h.cs.map (mvC a b)).map pt).length = (h.cs.map pt).length := by simp
  have mk : ((h.ks.map fun c => c.mv a b).map Can.av).length = (h.ks.map Can.av).length := by simp
  have ms : ((h.ss.map fun c => c.mv a b).map Sea.av).length = (h.ss.map Sea.av).length := by simp
  by_cases hq : h.ks = []
  · have v1 : cpyV h = .agg [.str h.nm, I h.ht, .str h.fl, .str h.ce, .asl 0 0 (h.ms.map Mat.av).length, .asl 1 0 (h.cs.map pt).length, .asl 2 0 (h.ws.map Wal.av).length, .nils, .asl 3 0 (h.ss.map Sea.av).length] := by unfold cpyV; rw [hq]
    have v2 : cpyB h = [(6, h.ms.map Mat.av), (2, h.cs.map pt), (3, h.ws.map Wal.av), (4, h.ss.map Sea.av)] := by unfold cpyB; rw [hq]; rfl
    have v3 : cpyV (h.mv a b) = .agg [.str h.nm, I h.ht, .str h.fl, .str h.ce, .asl 0 0 (h.ms.map Mat.av).length, .asl 1 0 (h.cs.map pt).length, .asl 2 0 (h.ws.map Wal.av).length, .nils, .asl 3 0 (h.ss.map Sea.av).length] := by unfold cpyV Hal.mv; rw [hq, mc, ms]; rfl
    have v4 : cpyB (h.mv a b) = [(6, h.ms.map Mat.av), (2, (h.cs.map (mvC a b)).map pt), (3, h.ws.map Wal.av), (4, (h.ss.map fun c => c.mv a b).map Sea.av)] := by unfold cpyB Hal.mv; rw [hq]; rfl
    rw [v1, v2] at hc
    rw [v3, v4]
    clear v1 v2 v3 v4
    have hk := one_ok hc pt0_ok
    refine bs.pv (sx := nos) hk Tryz.func75 (by kernel_rfl) (by kernel_rfl) rfl ?_
    repeat' (first | refine wk3 ?_ | (refine wk2 ?_ ?_ <;> intro _) | refine wk4 ?_ | fail); all_goals (conv => whnf)
    refine loopV (S := Nat × Int × List (List AV)) (fun t => h.cs.length - t.1) (fun t => [(2, .ptr 0 0 0), (3, .ptr 1 0 0), (4, .ptr 2 0 0), (5, I t.2.1)]) (fun t => [(0, .row 9 [[.str h.nm, I h.ht, .str h.fl, .str h.ce, .asl 3 0 (h.ms.map Mat.av).length, .asl 4 0 (h.cs.map pt).length, .asl 5 0 (h.ws.map Wal.av).length, .nils, .asl 6 0 (h.ss.map Sea.av).length]] true false), (6, .row 4 (h.ss.map Sea.av) true true), (5, .row 3 (h.ws.map Wal.av) true true), (4, .row 2 t.2.2 true true), (3, .row 6 (h.ms.map Mat.av) true true), (2, .row 9 [[.str ⟨#[]⟩, I 0, .str ⟨#[]⟩, .str ⟨#[]⟩, .nils, .nils, .nils, .nils, .nils]] true false), (1, .row 2 [[I a, I b]] true false)]) 7 7
      (fun t => t.2.1 = t.1 ∧ t.1 ≤ h.cs.length ∧ t.2.2 = (mixL (mvC a b) h.cs t.1).map pt) (0, 0, h.cs.map pt) ⟨rfl, Nat.zero_le _, by rw [mixL_0]⟩ (Nat.le_refl _) [] rfl (kps) (kps) ?_
    rintro ⟨k, i, els⟩ ⟨hi, hk1, hels⟩
    dsimp only at hi hk1 hels ⊢
    subst hi hels
    by_cases hlt : k < h.cs.length
    · have e5 := mix_get (mvC a b) pt hlt
      have hbd := g.bd k hlt
      rw [cor_get hlt] at hbd
      have e6 : setEl ((mixL (mvC a b) h.cs k).map pt) (0 + ((k : Nat) : Int).toNat) [I (IntKind.i64.wrap (h.cs[k].1 + a)), I (IntKind.i64.wrap (h.cs[k].2 + b))] = (mixL (mvC a b) h.cs (k + 1)).map pt := by
        rw [W_eq (n := h.cs[k].1 + a) (by omega) (by omega), W_eq (n := h.cs[k].2 + b) (by omega) (by omega)]
        exact mix_set (mvC a b) pt hlt
      clear hbd
      refine bs.av (sx := nos) hk ?_
      repeat' (first | refine wk3 ?_ | (refine wk2 ?_ ?_ <;> intro _) | refine wk4 ?_ | fail); all_goals (conv => whnf)
      exact Done.mk ⟨(k + 1, _, _), [], rfl, kps, kps, ⟨W_succ (by omega), hlt, e6⟩, by dsimp only; omega⟩
    rw [mixL_all _ _ (show h.cs.length ≤ k by omega)]
    refine bs.av (sx := nos) hk ?_
    repeat' (first | refine wk3 ?_ | (refine wk2 ?_ ?_ <;> intro _) | refine wk4 ?_ | fail); all_goals (conv => whnf)
    clear hk1 hlt
    refine LpM.start 1 ?_
    refine LpM.succ (bs.av (sx := nos) hk ?_)
    repeat' (first | refine wk3 ?_ | (refine wk2 ?_ ?_ <;> intro _) | refine wk4 ?_ | fail); all_goals (conv => whnf)
    refine loopV (S := Nat × Int × List (List AV)) (fun t => h.ss.length - t.1) (fun t => [(2, .ptr 0 0 0), (3, .ptr 1 0 0), (4, .ptr 2 0 0), (7, I t.2.1)]) (fun t => [(0, .row 9 [[.str h.nm, I h.ht, .str h.fl, .str h.ce, .asl 3 0 (h.ms.map Mat.av).length, .asl 4 0 (h.cs.map pt).length, .asl 5 0 (h.ws.map Wal.av).length, .nils, .asl 6 0 (h.ss.map Sea.av).length]] true false), (6, .row 4 t.2.2 true true), (5, .row 3 (h.ws.map Wal.av) true true), (4, .row 2 ((h.cs.map (mvC a b)).map pt) true true), (3, .row 6 (h.ms.map Mat.av) true true), (2, .row 9 [[.str ⟨#[]⟩, I 0, .str ⟨#[]⟩, .str ⟨#[]⟩, .nils, .nils, .nils, .nils, .nils]] true false), (1, .row 2 [[I a, I b]] true false)]) 7 7
      (fun t => t.2.1 = t.1 ∧ t.1 ≤ h.ss.length ∧ t.2.2 = (mixL (fun c : Sea => c.mv a b) h.ss t.1).map Sea.av) (0, 0, h.ss.map Sea.av) ⟨rfl, Nat.zero_le _, by rw [mixL_0]⟩ (Nat.le_refl _) [] rfl (kps) (kps) ?_
    rintro ⟨k, i, els⟩ ⟨hi, hk1, hels⟩
    dsimp only at hi hk1 hels ⊢
    subst hi hels
    by_cases hlt : k < h.ss.length
    · have e5 := mix_get (fun c : Sea => c.mv a b) Sea.av hlt
      have hbd := (sea_pt g hlt).r
      have e6 := mix_set (fun c : Sea => c.mv a b) Sea.av hlt
      have hln : 0 + ((k : Nat) : Int).toNat < ((mixL (fun c : Sea => c.mv a b) h.ss k).map Sea.av).length := by rw [List.length_map, mixL_len]; omega
      generalize (mixL (fun c : Sea => c.mv a b) h.ss k).map Sea.av = EL at *
      generalize hc0 : h.ss[k] = c at *
      obtain ⟨cn, x, y, zz⟩ := c
      obtain ⟨_, _, b1, b2⟩ := hbd
      dsimp only at b1 b2
      have e7 := setEl_get EL (0 + ((k : Nat) : Int).toNat) [.str cn, I (IntKind.i64.wrap (x + a)), I y, I zz] hln
      have e8 : setEl (setEl EL (0 + ((k : Nat) : Int).toNat) [.str cn, I (IntKind.i64.wrap (x + a)), I y, I zz]) (0 + ((k : Nat) : Int).toNat) [.str cn, I (IntKind.i64.wrap (x + a)), I (IntKind.i64.wrap (y + b)), I zz] = (mixL (fun c : Sea => c.mv a b) h.ss (k + 1)).map Sea.av := by
        rw [setEl_twice, W_eq (n := x + a) (by omega) (by omega), W_eq (n := y + b) (by omega) (by omega)]
        exact e6
      clear e6 b1 b2 hc0
      refine bs.av (sx := nos) hk ?_
      repeat' (first | refine wk3 ?_ | (refine wk2 ?_ ?_ <;> intro _) | refine wk4 ?_ | fail); all_goals (conv => whnf)
      exact Done.mk ⟨(k + 1, _, _), [], rfl, kps, kps, ⟨W_succ (by omega), hlt, e8⟩, by dsimp only; omega⟩
    rw [mixL_all _ _ (show h.ss.length ≤ k by omega)]
    refine bs.av (sx := nos) hk ?_
    repeat' (first | refine wk3 ?_ | (refine wk2 ?_ ?_ <;> intro _) | refine wk4 ?_ | fail); all_goals (conv => whnf)
    exact ret_rows [3, 4, 5, 6] rfl rfl rfl
  · have hq : ∃ c l, h.ks = c :: l := by
      cases hq2 : h.ks with
      | nil => exact absurd hq2 hq
      | cons c l => exact ⟨c, l, rfl⟩
    have v1 : cpyV h = .agg [.str h.nm, I h.ht, .str h.fl, .str h.ce, .asl 0 0 (h.ms.map Mat.av).length, .asl 1 0 (h.cs.map pt).length, .asl 2 0 (h.ws.map Wal.av).length, .asl 4 0 (h.ks.map Can.av).length, .asl 3 0 (h.ss.map Sea.av).length] := by obtain ⟨c, l, hq⟩ := hq; unfold cpyV; rw [hq]
    have v2 : cpyB h = [(6, h.ms.map Mat.av), (2, h.cs.map pt), (3, h.ws.map Wal.av), (4, h.ss.map Sea.av), (7, h.ks.map Can.av)] := by obtain ⟨c, l, hq⟩ := hq; unfold cpyB; rw [hq]; rfl
    have v3 : cpyV (h.mv a b) = .agg [.str h.nm, I h.ht, .str h.fl, .str h.ce, .asl 0 0 (h.ms.map Mat.av).length, .asl 1 0 (h.cs.map pt).length, .asl 2 0 (h.ws.map Wal.av).length, .asl 4 0 (h.ks.map Can.av).length, .asl 3 0 (h.ss.map Sea.av).length] := by
      rw [← mc, ← ms, ← mk]
      obtain ⟨c, l, hq⟩ := hq
      unfold cpyV Hal.mv
      rw [hq]; rfl
    have v4 : cpyB (h.mv a b) = [(6, h.ms.map Mat.av), (2, (h.cs.map (mvC a b)).map pt), (3, h.ws.map Wal.av), (4, (h.ss.map fun c => c.mv a b).map Sea.av), (7, (h.ks.map fun c => c.mv a b).map Can.av)] := by obtain ⟨c, l, hq⟩ := hq; unfold cpyB Hal.mv; rw [hq]; rfl
    rw [v1, v2] at hc
    rw [v3, v4]
    clear v1 v2 v3 v4 hq
    have hk := one_ok hc pt0_ok
    refine bs.pv (sx := nos) hk Tryz.func75 (by kernel_rfl) (by kernel_rfl) rfl ?_
    repeat' (first | refine wk3 ?_ | (refine wk2 ?_ ?_ <;> intro _) | refine wk4 ?_ | fail); all_goals (conv => whnf)
    refine loopV (S := Nat × Int × List (List AV)) (fun t => h.cs.length - t.1) (fun t => [(2, .ptr 0 0 0), (3, .ptr 1 0 0), (4, .ptr 2 0 0), (5, I t.2.1)]) (fun t => [(0, .row 9 [[.str h.nm, I h.ht, .str h.fl, .str h.ce, .asl 3 0 (h.ms.map Mat.av).length, .asl 4 0 (h.cs.map pt).length, .asl 5 0 (h.ws.map Wal.av).length, .asl 7 0 (h.ks.map Can.av).length, .asl 6 0 (h.ss.map Sea.av).length]] true false), (6, .row 4 (h.ss.map Sea.av) true true), (5, .row 3 (h.ws.map Wal.av) true true), (4, .row 2 t.2.2 true true), (3, .row 6 (h.ms.map Mat.av) true true), (7, .row 7 (h.ks.map Can.av) true true), (2, .row 9 [[.str ⟨#[]⟩, I 0, .str ⟨#[]⟩, .str ⟨#[]⟩, .nils, .nils, .nils, .nils, .nils]] true false), (1, .row 2 [[I a, I b]] true false)]) 8 8
      (fun t => t.2.1 = t.1 ∧ t.1 ≤ h.cs.length ∧ t.2.2 = (mixL (mvC a b) h.cs t.1).map pt) (0, 0, h.cs.map pt) ⟨rfl, Nat.zero_le _, by rw [mixL_0]⟩ (Nat.le_refl _) [] rfl (kps) (kps) ?_
    rintro ⟨k, i, els⟩ ⟨hi, hk1, hels⟩
    dsimp only at hi hk1 hels ⊢
    subst hi hels
    by_cases hlt : k < h.cs.length
    · have e5 := mix_get (mvC a b) pt hlt
      have hbd := g.bd k hlt
      rw [cor_get hlt] at hbd
      have e6 : setEl ((mixL (mvC a b) h.cs k).map pt) (0 + ((k : Nat) : Int).toNat) [I (IntKind.i64.wrap (h.cs[k].1 + a)), I (IntKind.i64.wrap (h.cs[k].2 + b))] = (mixL (mvC a b) h.cs (k + 1)).map pt := by
        rw [W_eq (n := h.cs[k].1 + a) (by omega) (by omega), W_eq (n := h.cs[k].2 + b) (by omega) (by omega)]
        exact mix_set (mvC a b) pt hlt
      clear hbd
      refine bs.av (sx := nos) hk ?_
      repeat' (first | refine wk3 ?_ | (refine wk2 ?_ ?_ <;> intro _) | refine wk4 ?_ | fail); all_goals (conv => whnf)
      exact Done.mk ⟨(k + 1, _, _), [], rfl, kps, kps, ⟨W_succ (by omega), hlt, e6⟩, by dsimp only; omega⟩
    rw [mixL_all _ _ (show h.cs.length ≤ k by omega)]
    refine bs.av (sx := nos) hk ?_
    repeat' (first | refine wk3 ?_ | (refine wk2 ?_ ?_ <;> intro _) | refine wk4 ?_ | fail); all_goals (conv => whnf)
    clear hk1 hlt
    refine loopV (S := Nat × Int × List (List AV)) (fun t => h.ks.length - t.1) (fun t => [(2, .ptr 0 0 0), (3, .ptr 1 0 0), (4, .ptr 2 0 0), (6, I t.2.1)]) (fun t => [(0, .row 9 [[.str h.nm, I h.ht, .str h.fl, .str h.ce, .asl 3 0 (h.ms.map Mat.av).length, .asl 4 0 (h.cs.map pt).length, .asl 5 0 (h.ws.map Wal.av).length, .asl 7 0 (h.ks.map Can.av).length, .asl 6 0 (h.ss.map Sea.av).length]] true false), (6, .row 4 (h.ss.map Sea.av) true true), (5, .row 3 (h.ws.map Wal.av) true true), (4, .row 2 ((h.cs.map (mvC a b)).map pt) true true), (3, .row 6 (h.ms.map Mat.av) true true), (7, .row 7 t.2.2 true true), (2, .row 9 [[.str ⟨#[]⟩, I 0, .str ⟨#[]⟩, .str ⟨#[]⟩, .nils, .nils, .nils, .nils, .nils]] true false), (1, .row 2 [[I a, I b]] true false)]) 8 8
      (fun t => t.2.1 = t.1 ∧ t.1 ≤ h.ks.length ∧ t.2.2 = (mixL (fun c : Can => c.mv a b) h.ks t.1).map Can.av) (0, 0, h.ks.map Can.av) ⟨rfl, Nat.zero_le _, by rw [mixL_0]⟩ (Nat.le_refl _) [] rfl (kps) (kps) ?_
    rintro ⟨k, i, els⟩ ⟨hi, hk1, hels⟩
    dsimp only at hi hk1 hels ⊢
    subst hi hels
    by_cases hlt : k < h.ks.length
    · have e5 := mix_get (fun c : Can => c.mv a b) Can.av hlt
      have hbd := can_all g hlt
      have e6 := mix_set (fun c : Can => c.mv a b) Can.av hlt
      have hln : 0 + ((k : Nat) : Int).toNat < ((mixL (fun c : Can => c.mv a b) h.ks k).map Can.av).length := by rw [List.length_map, mixL_len]; omega
      generalize (mixL (fun c : Can => c.mv a b) h.ks k).map Can.av = EL at *
      generalize hc0 : h.ks[k] = c at *
      obtain ⟨cn, cm, fx, fy, tx, ty, chs⟩ := c
      obtain ⟨⟨b1, b2, b3, b4, _, _⟩, _⟩ := hbd
      dsimp only at b1 b2 b3 b4
      have e7 := setEl_get EL (0 + ((k : Nat) : Int).toNat) [.str cn, .str cm, I (IntKind.i64.wrap (fx + a)), I (IntKind.i64.wrap (fy + b)), I tx, I ty, .isl 1 (nl chs)] hln
      have e8 : setEl (setEl EL (0 + ((k : Nat) : Int).toNat) [.str cn, .str cm, I (IntKind.i64.wrap (fx + a)), I (IntKind.i64.wrap (fy + b)), I tx, I ty, .isl 1 (nl chs)]) (0 + ((k : Nat) : Int).toNat) [.str cn, .str cm, I (IntKind.i64.wrap (fx + a)), I (IntKind.i64.wrap (fy + b)), I (IntKind.i64.wrap (tx + a)), I (IntKind.i64.wrap (ty + b)), .isl 1 (nl chs)] = (mixL (fun c : Can => c.mv a b) h.ks (k + 1)).map Can.av := by
        rw [setEl_twice, W_eq (n := fx + a) (by omega) (by omega), W_eq (n := fy + b) (by omega) (by omega), W_eq (n := tx + a) (by omega) (by omega), W_eq (n := ty + b) (by omega) (by omega)]
        exact e6
      clear e6 b1 b2 b3 b4 hc0
      refine bs.av (sx := nos) hk ?_
      repeat' (first | refine wk3 ?_ | (refine wk2 ?_ ?_ <;> intro _) | refine wk4 ?_ | fail); all_goals (conv => whnf)
      exact Done.mk ⟨(k + 1, _, _), [], rfl, kps, kps, ⟨W_succ (by omega), hlt, e8⟩, by dsimp only; omega⟩
    rw [mixL_all _ _ (show h.ks.length ≤ k by omega)]
    refine bs.av (sx := nos) hk ?_
    repeat' (first | refine wk3 ?_ | (refine wk2 ?_ ?_ <;> intro _) | refine wk4 ?_ | fail); all_goals (conv => whnf)
    clear hk1 hlt
    refine loopV (S := Nat × Int × List (List AV)) (fun t => h.ss.length - t.1) (fun t => [(2, .ptr 0 0 0), (3, .ptr 1 0 0), (4, .ptr 2 0 0), (7, I t.2.1)]) (fun t => [(0, .row 9 [[.str h.nm, I h.ht, .str h.fl, .str h.ce, .asl 3 0 (h.ms.map Mat.av).length, .asl 4 0 (h.cs.map pt).length, .asl 5 0 (h.ws.map Wal.av).length, .asl 7 0 (h.ks.map Can.av).length, .asl 6 0 (h.ss.map Sea.av).length]] true false), (6, .row 4 t.2.2 true true), (5, .row 3 (h.ws.map Wal.av) true true), (4, .row 2 ((h.cs.map (mvC a b)).map pt) true true), (3, .row 6 (h.ms.map Mat.av) true true), (7, .row 7 ((h.ks.map fun c => c.mv a b).map Can.av) true true), (2, .row 9 [[.str ⟨#[]⟩, I 0, .str ⟨#[]⟩, .str ⟨#[]⟩, .nils, .nils, .nils, .nils, .nils]] true false), (1, .row 2 [[I a, I b]] true false)]) 8 8
      (fun t => t.2.1 = t.1 ∧ t.1 ≤ h.ss.length ∧ t.2.2 = (mixL (fun c : Sea => c.mv a b) h.ss t.1).map Sea.av) (0, 0, h.ss.map Sea.av) ⟨rfl, Nat.zero_le _, by rw [mixL_0]⟩ (Nat.le_refl _) [] rfl (kps) (kps) ?_
    rintro ⟨k, i, els⟩ ⟨hi, hk1, hels⟩
    dsimp only at hi hk1 hels ⊢
    subst hi hels
    by_cases hlt : k < h.ss.length
    · have e5 := mix_get (fun c : Sea => c.mv a b) Sea.av hlt
      have hbd := (sea_pt g hlt).r
      have e6 := mix_set (fun c : Sea => c.mv a b) Sea.av hlt
      have hln : 0 + ((k : Nat) : Int).toNat < ((mixL (fun c : Sea => c.mv a b) h.ss k).map Sea.av).length := by rw [List.length_map, mixL_len]; omega
      generalize (mixL (fun c : Sea => c.mv a b) h.ss k).map Sea.av = EL at *
      generalize hc0 : h.ss[k] = c at *
      obtain ⟨cn, x, y, zz⟩ := c
      obtain ⟨_, _, b1, b2⟩ := hbd
      dsimp only at b1 b2
      have e7 := setEl_get EL (0 + ((k : Nat) : Int).toNat) [.str cn, I (IntKind.i64.wrap (x + a)), I y, I zz] hln
      have e8 : setEl (setEl EL (0 + ((k : Nat) : Int).toNat) [.str cn, I (IntKind.i64.wrap (x + a)), I y, I zz]) (0 + ((k : Nat) : Int).toNat) [.str cn, I (IntKind.i64.wrap (x + a)), I (IntKind.i64.wrap (y + b)), I zz] = (mixL (fun c : Sea => c.mv a b) h.ss (k + 1)).map Sea.av := by
        rw [setEl_twice, W_eq (n := x + a) (by omega) (by omega), W_eq (n := y + b) (by omega) (by omega)]
        exact e6
      clear e6 b1 b2 hc0
      refine bs.av (sx := nos) hk ?_
      repeat' (first | refine wk3 ?_ | (refine wk2 ?_ ?_ <;> intro _) | refine wk4 ?_ | fail); all_goals (conv => whnf)
      exact Done.mk ⟨(k + 1, _, _), [], rfl, kps, kps, ⟨W_succ (by omega), hlt, e8⟩, by dsimp only; omega⟩
    rw [mixL_all _ _ (show h.ss.length ≤ k by omega)]
    refine bs.av (sx := nos) hk ?_
    repeat' (first | refine wk3 ?_ | (refine wk2 ?_ ?_ <;> intro _) | refine wk4 ?_ | fail); all_goals (conv => whnf)
    exact ret_rows [3, 4, 5, 6, 7] rfl rfl rfl
theorem d75f {h : Hal} (hf : h.few) (g : h.fine) {a b : Int} (ha : -1000 ≤ a ∧ a ≤ 1000) (hb : -1000 ≤ b ∧ b ≤ 1000) : PCall Tryz.prog 75 [h.av, P2 a b] ⟨(h.mv a b).av, []⟩ := (d75 hf g ha hb).freeze (frz_cpy _)
end Go.Proofs.YtddhjopopelkjaaGreat
