/- A part of the proof: lemmas. -/
import Derived.Test.YtddhjopopelkjaaGreatZK4
set_option linter.unusedVariables false
set_option linter.unusedSimpArgs false
namespace Go.Proofs.YtddhjopopelkjaaGreat
open Go Go.Sx
/-! ### The law of the curtains -/
theorem hF_hit {h h' : Hal} {suf : List AV} (r : Hal → PRes) {x : Hal} (hx : x = h ∨ x = h') : famA (fun x : Hal => x = h ∨ x = h') (fun x => x.av :: suf) r (x.av :: suf) = some (r x) :=
  famA_hit (p := fun x : Hal => x = h ∨ x = h') (g := fun x => x.av :: suf) (r := r) (k := x) (fun j hj => by rw [hal_inj (List.cons.inj hj).1]) hx
noncomputable abbrev fH (h h' : Hal) (suf : List AV) (r : Hal → PRes) : List AV → Option PRes := famA (fun x : Hal => x = h ∨ x = h') (fun x => x.av :: suf) r
abbrev rCp (x : Hal) : PRes := ⟨cpyM x, [(6, x.ms.map Mat.av)]⟩
noncomputable def kCu (h h' : Hal) (s : Stg) (b a v : Int) : PC := ins 19 (fH h h' [] rCp) (ins 67 (fH h h' [s.av, P3 b a v] (R67 s b a v)) (ins 68 (fH h h' [s.av, P3 b a v] (R68 s b a v)) (ins 69 (fH h h' [s.av, P3 b a v] (R69 s b a v)) (ins 16 r16 (ins 17 (one [.agg (stgL h s)] ⟨Bo true, []⟩) (ins 22 (one [h.av, s.av] ⟨I 0, []⟩) (ins 24 rAir (ins 46 r46 (ins 38 rWu (ins 20 (one [s.av] ⟨s.av, []⟩) pt0))))))))))
theorem kCu_ok {h h' : Hal} {s : Stg} (r : few3 h s = true) (hk' : h'.ok) (z : serr h s = 0) (b a v : Int) : PCOK Tryz.prog (kCu h h' s b a v) := by
  obtain ⟨hk, hs⟩ := few3_ok r
  have h17 := d17 h s
  rw [r] at h17
  have h22 := d22 hk hs
  rw [z] at h22
  have ok : ∀ x : Hal, x = h ∨ x = h' → x.ok := fun x hx => by rcases hx with rfl | rfl <;> assumption
  refine famA_ok (fun x hx => c22m (ok x hx).f) (famA_ok (fun x hx => d67a (ok x hx) hs b a v) (famA_ok (fun x hx => d68a (ok x hx) hs b a v) (famA_ok (fun x hx => d69a (ok x hx) hs b a v) (ins_ok (fun a res h => ?_) (one_ok h17 (one_ok h22 (ins_ok (fun a res h => ?_) (ins_ok (fun a res h => ?_) (ins_ok (fun a res h => ?_) (one_ok (c29 hs) pt0_ok))))))))))
  · unfold r16 at h; split at h <;> cases h; exact awake_ok
  · unfold rAir at h; split at h <;> cases h; exact d24 _ _ _
  · unfold r46 at h; split at h
    · obtain ⟨h1, h2⟩ := asr_some h; subst h2; exact d46 (of_decide_eq_true h1)
    · cases h
  · unfold rWu at h; split at h <;> cases h; exact d38u _ _ _
theorem setEl_map {α : Type} (f : α → List AV) (l : List α) (i : Nat) (x : α) : setEl (l.map f) i (f x) = (l.set i x).map f := by rw [setEl_eq, List.map_set]
theorem setEl_ms (l : List Mat) (k : Nat) (x : Mat) : setEl (l.map Mat.av) (0 + ((k : Nat) : Int).toNat) (Mat.av x) = (l.set k x).map Mat.av := by
  rw [Nat.zero_add, Int.toNat_natCast]
  exact setEl_map Mat.av l k x
/-- A hall whose materials are seen through a live list. -/
abbrev rawH (x : Hal) (n : Nat) : AV := .agg [.str x.nm, I x.ht, .str x.fl, .str x.ce, .isl 6 (((x.ms.map Mat.av).drop 0).take n), .isl 2 (x.cs.map pt), .isl 3 (x.ws.map Wal.av), .isl 7 (x.ks.map Can.av), .isl 4 (x.ss.map Sea.av)]
theorem rawH_eq {x : Hal} {n : Nat} (h : n = x.ms.length) : rawH x n = x.av := by
  unfold rawH
  rw [List.drop_zero, List.take_of_length_le (by rw [mt_length]; omega)]
noncomputable def kTl (h h' : Hal) (s : Stg) (b a v : Int) : PC := ins 19 (fH h h' [] rCp) (ins 67 (fH h h' [s.av, P3 b a v] (R67 s b a v)) (ins 68 (fH h h' [s.av, P3 b a v] (R68 s b a v)) (ins 69 (fH h h' [s.av, P3 b a v] (R69 s b a v)) (ins 38 rWu (ins 20 (one [svA (nl s.hs) (nl s.dr)] ⟨svA (nl s.hs) (nl s.dr), []⟩) pt0)))))
theorem kTl_ok {h h' : Hal} {s : Stg} (hk : h.ok) (hk' : h'.ok) (hs : s.few) (b a v : Int) : PCOK Tryz.prog (kTl h h' s b a v) := by
  have ok : ∀ x : Hal, x = h ∨ x = h' → x.ok := fun x hx => by rcases hx with rfl | rfl <;> assumption
  refine famA_ok (fun x hx => c22m (ok x hx).f) (famA_ok (fun x hx => d67a (ok x hx) hs b a v) (famA_ok (fun x hx => d68a (ok x hx) hs b a v) (famA_ok (fun x hx => d69a (ok x hx) hs b a v) (ins_ok (fun a res h => ?_) (one_ok (c29 hs) pt0_ok)))))
  unfold rWu at h; split at h <;> cases h; exact d38u _ _ _
theorem CuF.g {R S : Int × Int} {e f : Int} {N K T U : (Int × Int) × Int} (h : CuF R S e f N K T U) : CuG R.1 R.2 S.1 S.2 e f N.1.1 N.1.2 N.2 K.1.1 K.1.2 K.2 T.1.1 T.1.2 T.2 U.1.1 U.1.2 U.2 := by
  cases h with
  | no p1 p2 p3 => exact .no p1 (by rw [p2]) (by rw [p3])
  | big p1 p2 p3 p4 p5 p6 p7 => exact .big p1 p2 p3 p4 p5 p6 p7
  | all p1 p2 p3 p4 p5 p6 p7 p8 p9 p10 p11 p12 p13 p14 p15 p16 => exact .all p1 p2 p3 p4 p5 p6 p7 p8 p9 p10 p11 p12 p13 p14 p15 p16
theorem tailH {h : Hal} (hk : h.ok) {s : Stg} (hs : s.few) {b a v : Int} (z : serr h s = 0) (y : airE b a v = 0) {L : List Mat} (hm : moreL b h.ms L) :
    Awp Tryz.prog Tryz.f15.ntmps (dropS 6 code15) [(3, .ptr 0 0 0), (4, .ptr 1 0 0), (7, .ptr 4 0 0)]
      ⟨[(4, .row 9 [[.str h.nm, I h.ht, .str h.fl, .str h.ce, .asl 3 0 (h.ms.map Mat.av).length, .isl 2 (h.cs.map pt), .isl 3 (h.ws.map Wal.av), .isl 7 (h.ks.map Can.av), .isl 4 (h.ss.map Sea.av)]] true false), (3, .row 6 (L.map Mat.av) true true), (1, .row 3 [[I b, I a, I v]] true false),
        (0, .row 11 [stgL h s] true false)], 34⟩ (retQ (tget tbl) Tryz.f15.results.toList fun v σ => fA v fun v => Ret ⟨Bo true, []⟩ v σ) := by
  have hL := moreL_len hm
  have q1 : ∀ (suf : List AV) (r : Hal → PRes), fH h (h.put L) suf r (rawH h (h.ms.map Mat.av).length :: suf) = some (r h) := fun suf r => by rw [rawH_eq (mt_length _)]; exact hF_hit r (.inl rfl)
  have q2 : ∀ (suf : List AV) (r : Hal → PRes), fH h (h.put L) suf r (rawH (h.put L) ((h.put L).ms.map Mat.av).length :: suf) = some (r (h.put L)) := fun suf r => by rw [rawH_eq (mt_length _)]; exact hF_hit r (.inr rfl)
  have q3 : ∀ (suf : List AV) (r : Hal → PRes), fH h (h.put L) suf r (rawH (h.put L) (h.ms.map Mat.av).length :: suf) = some (r (h.put L)) := fun suf r => by rw [rawH_eq (x := h.put L) (by rw [mt_length]; exact hL.symm)]; exact hF_hit r (.inr rfl)
  exact tail15 (kTl_ok hk (ok_put hm hk) hs b a v) (hF_hit (h' := h.put L) (suf := []) rCp (.inl rfl)) (q3 [] rCp) (q1 _ (R67 s b a v)) (q2 _ (R67 s b a v)) (q1 _ (R68 s b a v)) (q2 _ (R68 s b a v)) (q1 _ (R69 s b a v)) (q2 _ (R69 s b a v)) (cuF_of hk hs z y hm).g
set_option maxRecDepth 100000 in
set_option maxHeartbeats 16000000 in
theorem d15m {h : Hal} {s : Stg} {b a v : Int} (hf : few3 h s = true) (z : serr h s = 0) (y : airE b a v = 0) (y0 y1 : Int) : PCall Tryz.prog 15 [.agg (stgL h s), P3 b a v, P2 y0 y1] ⟨Bo true, []⟩ := by
  obtain ⟨hk, hs⟩ := few3_ok hf
  have g := sit_of hk hs z
  have l1 := mt_length h.ms
  have hm1 : 0 < h.ms.length := by obtain ⟨m, hm, _⟩ := g.fine.fl; exact List.length_pos_of_mem hm
  have hm2 := g.fine.le.1
  have hb := within_iff.1 (air_iff y).1
  have hb4 : b = 0 ∨ b = 1 ∨ b = 2 ∨ b = 3 := by omega
  have q1 : mdOk ((h.ms.map Mat.av).length : Int) := by rw [l1]; exact ⟨by omega, by omega⟩
  have t1 : r46 [I y0, I (h.ms.map Mat.av).length] = some ⟨I (y0 % (h.ms.map Mat.av).length), []⟩ := asr_of q1
  have t2 : r46 [I y1, I 300] = some ⟨I (y1 % 300), []⟩ := asr_of (p := mdOk 300) ⟨by omega, by omega⟩
  obtain ⟨k, hkk⟩ : ∃ k : Nat, y0 % (h.ms.map Mat.av).length = k := ⟨(y0 % (h.ms.map Mat.av).length).toNat, by have := Int.emod_nonneg y0 (b := ((h.ms.map Mat.av).length : Int)) (by omega); omega⟩
  have hkl : k < h.ms.length := by have := Int.emod_lt_of_pos y0 (b := ((h.ms.map Mat.av).length : Int)) (by omega); omega
  rw [hkk] at t1
  have e5 : (h.ms.map Mat.av)[0 + ((k : Nat) : Int).toNat]? = some (Mat.av h.ms[k]) := by rw [Nat.zero_add]; exact mt_get hkl
  have hd : 0 ≤ y1 % 300 ∧ y1 % 300 < 300 := ⟨Int.emod_nonneg _ (by omega), Int.emod_lt_of_pos _ (by omega)⟩
  have hmf := mat_fit g.fine (List.getElem_mem hkl)
  have hab : 0 ≤ absB h.ms[k] b ∧ absB h.ms[k] b ≤ 1000 := by
    unfold absB
    repeat' split
    all_goals omega
  have hv : (0 ≤ imin 1000 (IntKind.i64.wrap (absB h.ms[k] b + y1 % 300)) ∧ imin 1000 (IntKind.i64.wrap (absB h.ms[k] b + y1 % 300)) ≤ 1000) ∧ absB h.ms[k] b ≤ imin 1000 (IntKind.i64.wrap (absB h.ms[k] b + y1 % 300)) := by
    rw [W_eq (n := absB h.ms[k] b + y1 % 300) (by omega) (by omega)]
    unfold imin
    by_cases c : absB h.ms[k] b + y1 % 300 < 1000
    · rw [decide_eq_true c, cond_true]; omega
    · rw [decide_eq_false c, cond_false]; omega
  have hm : moreL b h.ms (h.ms.set k (h.ms[k].upd b (imin 1000 (IntKind.i64.wrap (absB h.ms[k] b + y1 % 300))))) := moreL_set hv.1 hkl g.fine.mats hv.2
  have h1 := kCu_ok (h' := h) hf hk z b a v
  have c1 : fH h h [] rCp [h.av] = some (rCp h) := hF_hit (suf := []) rCp (.inl rfl)
  rcases hb4 with rfl | rfl | rfl | rfl
  · have e6 := setEl_ms h.ms k (h.ms[k].upd 0 (imin 1000 (IntKind.i64.wrap (absB h.ms[k] 0 + y1 % 300))))
    have ht := tailH hk hs (s := s) (a := a) (v := v) z y hm
    clear hv hm hab hmf hb
    refine bs.pvc 6 (sx := nos) h1 Tryz.func15 (by kernel_rfl) (by kernel_rfl) rfl ?_
    repeat' (first | refine wk3 ?_ | (refine wk2 ?_ ?_ <;> intro _) | refine wk4 ?_ | fail); all_goals (conv => whnf)
    refine Cut.of (env2 := [(3, .ptr 0 0 0), (4, .ptr 1 0 0), (7, .ptr 4 0 0)]) (σ2 := ⟨[(4, .row 9 [[.str h.nm, I h.ht, .str h.fl, .str h.ce, .asl 3 0 (h.ms.map Mat.av).length, .isl 2 (h.cs.map pt), .isl 3 (h.ws.map Wal.av), .isl 7 (h.ks.map Can.av), .isl 4 (h.ss.map Sea.av)]] true false),
      (3, .row 6 (setEl (h.ms.map Mat.av) (0 + ((k : Nat) : Int).toNat) (Mat.av (h.ms[k].upd 0 (imin 1000 (IntKind.i64.wrap (absB h.ms[k] 0 + y1 % 300)))))) true true), (1, .row 3 [[I 0, I a, I v]] true false), (0, .row 11 [stgL h s] true false)], 34⟩) (Ren.of [] rfl (kps) (kps)) ?_
    rw [e6]
    exact ht
  · have e6 := setEl_ms h.ms k (h.ms[k].upd 1 (imin 1000 (IntKind.i64.wrap (absB h.ms[k] 1 + y1 % 300))))
    have ht := tailH hk hs (s := s) (a := a) (v := v) z y hm
    clear hv hm hab hmf hb
    refine bs.pvc 6 (sx := nos) h1 Tryz.func15 (by kernel_rfl) (by kernel_rfl) rfl ?_
    repeat' (first | refine wk3 ?_ | (refine wk2 ?_ ?_ <;> intro _) | refine wk4 ?_ | fail); all_goals (conv => whnf)
    refine Cut.of (env2 := [(3, .ptr 0 0 0), (4, .ptr 1 0 0), (7, .ptr 4 0 0)]) (σ2 := ⟨[(4, .row 9 [[.str h.nm, I h.ht, .str h.fl, .str h.ce, .asl 3 0 (h.ms.map Mat.av).length, .isl 2 (h.cs.map pt), .isl 3 (h.ws.map Wal.av), .isl 7 (h.ks.map Can.av), .isl 4 (h.ss.map Sea.av)]] true false),
      (3, .row 6 (setEl (h.ms.map Mat.av) (0 + ((k : Nat) : Int).toNat) (Mat.av (h.ms[k].upd 1 (imin 1000 (IntKind.i64.wrap (absB h.ms[k] 1 + y1 % 300)))))) true true), (1, .row 3 [[I 1, I a, I v]] true false), (0, .row 11 [stgL h s] true false)], 34⟩) (Ren.of [] rfl (kps) (kps)) ?_
    rw [e6]
    exact ht
  · have e6 := setEl_ms h.ms k (h.ms[k].upd 2 (imin 1000 (IntKind.i64.wrap (absB h.ms[k] 2 + y1 % 300))))
    have ht := tailH hk hs (s := s) (a := a) (v := v) z y hm
    clear hv hm hab hmf hb
    refine bs.pvc 6 (sx := nos) h1 Tryz.func15 (by kernel_rfl) (by kernel_rfl) rfl ?_
    repeat' (first | refine wk3 ?_ | (refine wk2 ?_ ?_ <;> intro _) | refine wk4 ?_ | fail); all_goals (conv => whnf)
    refine Cut.of (env2 := [(3, .ptr 0 0 0), (4, .ptr 1 0 0), (7, .ptr 4 0 0)]) (σ2 := ⟨[(4, .row 9 [[.str h.nm, I h.ht, .str h.fl, .str h.ce, .asl 3 0 (h.ms.map Mat.av).length, .isl 2 (h.cs.map pt), .isl 3 (h.ws.map Wal.av), .isl 7 (h.ks.map Can.av), .isl 4 (h.ss.map Sea.av)]] true false),
      (3, .row 6 (setEl (h.ms.map Mat.av) (0 + ((k : Nat) : Int).toNat) (Mat.av (h.ms[k].upd 2 (imin 1000 (IntKind.i64.wrap (absB h.ms[k] 2 + y1 % 300)))))) true true), (1, .row 3 [[I 2, I a, I v]] true false), (0, .row 11 [stgL h s] true false)], 34⟩) (Ren.of [] rfl (kps) (kps)) ?_
    rw [e6]
    exact ht
  · have e6 := setEl_ms h.ms k (h.ms[k].upd 3 (imin 1000 (IntKind.i64.wrap (absB h.ms[k] 3 + y1 % 300))))
    have ht := tailH hk hs (s := s) (a := a) (v := v) z y hm
    clear hv hm hab hmf hb
    refine bs.pvc 6 (sx := nos) h1 Tryz.func15 (by kernel_rfl) (by kernel_rfl) rfl ?_
    repeat' (first | refine wk3 ?_ | (refine wk2 ?_ ?_ <;> intro _) | refine wk4 ?_ | fail); all_goals (conv => whnf)
    refine Cut.of (env2 := [(3, .ptr 0 0 0), (4, .ptr 1 0 0), (7, .ptr 4 0 0)]) (σ2 := ⟨[(4, .row 9 [[.str h.nm, I h.ht, .str h.fl, .str h.ce, .asl 3 0 (h.ms.map Mat.av).length, .isl 2 (h.cs.map pt), .isl 3 (h.ws.map Wal.av), .isl 7 (h.ks.map Can.av), .isl 4 (h.ss.map Sea.av)]] true false),
      (3, .row 6 (setEl (h.ms.map Mat.av) (0 + ((k : Nat) : Int).toNat) (Mat.av (h.ms[k].upd 3 (imin 1000 (IntKind.i64.wrap (absB h.ms[k] 3 + y1 % 300)))))) true true), (1, .row 3 [[I 3, I a, I v]] true false), (0, .row 11 [stgL h s] true false)], 34⟩) (Ren.of [] rfl (kps) (kps)) ?_
    rw [e6]
    exact ht
set_option maxRecDepth 100000 in
set_option maxHeartbeats 8000000 in
theorem d15 (h : Hal) (s : Stg) (b a v y0 y1 : Int) : PCall Tryz.prog 15 [.agg (stgL h s), P3 b a v, P2 y0 y1] ⟨Bo true, []⟩ := by
  by_cases r : few3 h s = true
  rotate_left
  · have haw : PCOK Tryz.prog (ins 16 r16 (ins 17 (one [.agg (stgL h s)] ⟨Bo (few3 h s), []⟩) pt0)) := by
      refine ins_ok (fun a res h => ?_) (one_ok (d17 h s) pt0_ok)
      unfold r16 at h; split at h <;> cases h; exact awake_ok
    have r : few3 h s = false := by simpa using r
    rw [r] at haw
    refine bs.pv (sx := nos) haw Tryz.func15 (by kernel_rfl) (by kernel_rfl) rfl ?_
    repeat' (first | refine wk3 ?_ | (refine wk2 ?_ ?_ <;> intro _) | refine wk4 ?_ | fail); all_goals (conv => whnf)
    all_goals exact ret_bool rfl
  by_cases z : serr h s = 0
  rotate_left
  · have h1 := kRg_ok r
    unfold kRg at h1
    generalize serr h s = E at *
    refine bs.pv (sx := nos) h1 Tryz.func15 (by kernel_rfl) (by kernel_rfl) rfl ?_
    repeat' (first | refine wk3 ?_ | (refine wk2 ?_ ?_ <;> intro _) | refine wk4 ?_ | fail); all_goals (conv => whnf)
    all_goals exact ret_bool rfl
  by_cases y : airE b a v = 0
  rotate_left
  · have h1 := kRg_ok r
    unfold kRg at h1
    rw [z] at h1
    refine bs.pv (sx := nos) h1 Tryz.func15 (by kernel_rfl) (by kernel_rfl) rfl ?_
    repeat' (first | refine wk3 ?_ | (refine wk2 ?_ ?_ <;> intro _) | refine wk4 ?_ | fail); all_goals (conv => whnf)
    all_goals first
      | exact ret_bool rfl
      | (exfalso; simp_all; done)
  exact d15m r z y y0 y1
end Go.Proofs.YtddhjopopelkjaaGreat
