/- A part of the proof: lemmas. -/
import Derived.Test.YtddhjopopelkjaaGreatZw10
import Derived.Test.YtddhjopopelkjaaGreatZx7
import Derived.Test.YtddhjopopelkjaaGreatZw9
set_option linter.unusedVariables false
set_option linter.unusedSimpArgs false
namespace Go.Proofs.YtddhjopopelkjaaGreat
open Go Go.Sx

/-! ### Planes -/
def plW (w : Wl) : Int × Int := if w.dx = 0 then (0, w.fx) else if w.dy = 0 then (1, w.fy) else if w.dx = w.dy then (4, IntKind.i64.wrap (w.fx - w.fy)) else (3, IntKind.i64.wrap (w.fx + w.fy))
def planeV (h : Hal) (s : Stg) (i : Int) : Int × Int := if i < h.ws.length then plW (wlOf h.cs i.toNat) else if i = h.ws.length then (2, 0) else if i = (h.ws.length : Int) + 1 then (2, h.ht) else (2, hgtAt h s (kix h i))
theorem planeV_wall {h : Hal} {s : Stg} {k : Nat} (hk : k < h.ws.length) : planeV h s k = plW (wlOf h.cs k) := by unfold planeV; rw [if_pos (by omega)]; rfl
theorem planeV_floor {h : Hal} {s : Stg} : planeV h s h.ws.length = (2, 0) := by unfold planeV; rw [if_neg (by omega), if_pos rfl]
theorem planeV_ceil {h : Hal} {s : Stg} : planeV h s ((h.ws.length : Int) + 1) = (2, h.ht) := by unfold planeV; rw [if_neg (by omega), if_neg (by omega), if_pos rfl]
theorem planeV_can {h : Hal} {s : Stg} {j : Nat} : planeV h s ((h.ws.length : Int) + 2 + j) = (2, hgtAt h s j) := by
  unfold planeV kix
  rw [if_neg (by omega), if_neg (by omega), if_neg (by omega), show ((h.ws.length : Int) + 2 + j - h.ws.length - 2).toNat = j by omega]
noncomputable def kP (h : Hal) (s : Stg) : PC := ins 180 (one [.agg (stgL h s)] ⟨I (h.ws.length : Int), []⟩) (ins 181 (one [.agg (stgL h s)] ⟨I ((h.ws.length : Int) + 1), []⟩) kG4)
theorem kP_ok {h : Hal} {s : Stg} (g : Sit h s) : PCOK Tryz.prog (kP h s) := one_ok (c172 s) (one_ok (c173 g.ok.f s) kG4_ok)
set_option maxRecDepth 100000 in
set_option maxHeartbeats 8000000 in
theorem c112 {h : Hal} {s : Stg} (g : Sit h s) {i : Int} (hi : SK h i) : PCall Tryz.prog 121 [.agg (stgL h s), I i] ⟨P2 (planeV h s i).1 (planeV h s i).2, []⟩ := by
  have hk0 := kP_ok g
  have f3 := g.ok.f.2.2.1
  have f4 := g.ok.f.2.2.2.1
  cases hi with
  | wall k hk =>
    have hk2 : k < h.cs.length := by have := g.fine.le; omega
    rw [planeV_wall hk]
    have hk1 := one_ok (c145w g.ok.f hk2) hk0
    refine bs.pv (sx := nos) hk1 Tryz.func121 (by kernel_rfl) (by kernel_rfl) rfl ?_
    generalize wlOf h.cs k = w at *
    repeat' (first | refine wk1 ?_ | (refine wk2 ?_ ?_ <;> intro _) | refine wk4 ?_ | fail); all_goals (conv => whnf)
    all_goals exact ret_of (by clear hk0 hk1; simp_all [plW]) rfl
  | floor =>
    rw [planeV_floor]
    refine bs.pv (sx := nos) hk0 Tryz.func121 (by kernel_rfl) (by kernel_rfl) rfl ?_
    repeat' (first | refine wk1 ?_ | (refine wk2 ?_ ?_ <;> intro _) | refine wk4 ?_ | fail); all_goals (conv => whnf)
    exact ret_of rfl rfl
  | ceil =>
    rw [planeV_ceil]
    refine bs.pv (sx := nos) hk0 Tryz.func121 (by kernel_rfl) (by kernel_rfl) rfl ?_
    repeat' (first | refine wk1 ?_ | (refine wk2 ?_ ?_ <;> intro _) | refine wk4 ?_ | fail); all_goals (conv => whnf)
    exact ret_of rfl rfl
  | can j hj =>
    rw [planeV_can]
    have hv : IntKind.i64.wrap (IntKind.i64.wrap ((h.ws.length : Int) + 2 + j - ((h.ws.length : Int) + 1)) - 1) = j := by rw [W_eq (n := (h.ws.length : Int) + 2 + j - ((h.ws.length : Int) + 1)) (by omega) (by omega), W_eq (by omega) (by omega)]; omega
    have hc := c192 g hj
    rw [← hv] at hc
    have hk1 := one_ok hc hk0
    refine bs.pv (sx := nos) hk1 Tryz.func121 (by kernel_rfl) (by kernel_rfl) rfl ?_
    repeat' (first | refine wk1 ?_ | (refine wk2 ?_ ?_ <;> intro _) | refine wk4 ?_ | fail); all_goals (conv => whnf)
    exact ret_of rfl rfl
/-- The plane that the program answers. -/
def planeA (h : Hal) (s : Stg) (i : Int) : Int × Int := if surE h s i = 0 then planeV h s i else (0, 0)
set_option maxRecDepth 100000 in
set_option maxHeartbeats 8000000 in
theorem c54 {h : Hal} (hk : h.ok) {s : Stg} (hs : s.few) (i : Int) : PCall Tryz.prog 47 [h.av, s.av, I i] ⟨.tup [P2 (planeA h s i).1 (planeA h s i).2, I (surE h s i)], []⟩ := by
  have hk0 := one_ok (c109 hk hs i) pt0_ok
  by_cases he : surE h s i = 0
  · have e := surE_zero he
    have g := sit_of hk hs e.1
    have hk1 := one_ok (c112 g (sk_of e.2.1 e.2.2)) hk0
    have e2 : planeA h s i = planeV h s i := by unfold planeA; rw [if_pos he]
    rw [e2]
    rw [he] at hk1 ⊢
    refine bs.pv (sx := nos) hk1 Tryz.func47 (by kernel_rfl) (by kernel_rfl) rfl ?_
    repeat' (first | refine wk1 ?_ | (refine wk2 ?_ ?_ <;> intro _) | refine wk4 ?_ | fail); all_goals (conv => whnf)
    exact ret_of rfl rfl
  · have e2 : planeA h s i = (0, 0) := by unfold planeA; rw [if_neg he]
    rw [e2]
    refine bs.pv (sx := nos) hk0 Tryz.func47 (by kernel_rfl) (by kernel_rfl) rfl ?_
    repeat' (first | refine wk1 ?_ | (refine wk2 ?_ ?_ <;> intro _) | refine wk4 ?_ | fail); all_goals (conv => whnf)
    exact ret_of rfl rfl

/-! ### Materials -/
def idxN (n : Int) : Nat → List Int → Int
  | _, [] => -1
  | i, m :: l => if n = m then i else idxN n (i + 1) l
theorem idxN_has (n : Int) : ∀ (l : List Int) (i : Nat), decide (0 ≤ idxN n i l) = hasN l n
  | [], i => rfl
  | m :: l, i => by
    rw [idxN, hasN_cons]
    by_cases h : n = m
    · rw [if_pos h, decide_eq_true (show m = n from h.symm), decide_eq_true (by omega)]; rfl
    · rw [if_neg h, decide_eq_false (show ¬ m = n from fun e => h e.symm), Bool.false_or]; exact idxN_has n l _
set_option maxHeartbeats 4000000 in
theorem c203 {ns : List Int} (hl : ns.length < 1000000) (n : Int) : PCall Tryz.prog 176 [.isl 1 (nl ns), I n] ⟨I (idxN n 0 ns), []⟩ := by
  have e3 := nl_length ns
  refine bs.pv (sx := nos) pt0_ok Tryz.func176 (by kernel_rfl) (by kernel_rfl) rfl ?_
  repeat' (first | refine wk1 ?_ | (refine wk2 ?_ ?_ <;> intro _) | refine wk4 ?_ | fail); all_goals (conv => whnf)
  refine loopV (S := Nat × Int) (fun t => ns.length - t.1) (fun t => [(0, .isl 1 (nl ns)), (1, I n), (7, I (nl ns).length), (8, I t.2)]) (fun _ => []) 0 0 (fun t => t.2 = t.1 ∧ t.1 ≤ ns.length ∧ idxN n t.1 (ns.drop t.1) = idxN n 0 ns) (0, 0) ⟨rfl, Nat.zero_le _, rfl⟩ (Nat.le_refl _) [] rfl (kps) (kps) ?_
  rintro ⟨k, i⟩ ⟨hi, hk, hh⟩
  dsimp only at hi hk hh ⊢
  subst hi
  refine bs.av (sx := nos) pt0_ok ?_
  by_cases hlt : k < ns.length
  · have e1 := nl_get hlt
    rw [List.drop_eq_getElem_cons hlt, idxN] at hh
    repeat' (first | refine wk1 ?_ | (refine wk2 ?_ ?_ <;> intro _) | refine wk4 ?_ | fail); all_goals (conv => whnf)
    · rename_i hx; exact ret_int (by rw [← hh, if_pos (of_decide_eq_true hx)])
    · rename_i hx; exact Done.mk ⟨(k + 1, _), [], rfl, kps, kps, ⟨W_succ (by omega), hlt, by rw [← hh, if_neg (of_decide_eq_false hx)]⟩, by dsimp only; omega⟩
  rw [List.drop_of_length_le (by omega)] at hh
  repeat' (first | refine wk1 ?_ | (refine wk2 ?_ ?_ <;> intro _) | refine wk4 ?_ | fail); all_goals (conv => whnf)
  exact ret_int hh
set_option maxHeartbeats 4000000 in
theorem c176 {ns : List Int} (hl : ns.length < 1000000) (n : Int) : PCall Tryz.prog 267 [.isl 1 (nl ns), I n] ⟨Bo (hasN ns n), []⟩ := by
  refine bs.pv (sx := nos) (one_ok (c203 hl n) pt0_ok) Tryz.func267 (by kernel_rfl) (by kernel_rfl) rfl ?_
  repeat' (first | refine wk0 ?_ | (refine wk2 ?_ ?_ <;> intro _) | refine wk4 ?_ | fail); all_goals (conv => whnf)
  exact ret_bool (idxN_has n ns 0)
set_option maxHeartbeats 4000000 in
theorem c178 (m : Mat) (nm : ByteArray) : PCall Tryz.prog 269 [.agg m.av, .ipt [.str nm]] ⟨Bo (m.nm == nm), []⟩ := by
  refine bs.pv (sx := nos) pt0_ok Tryz.func269 (by kernel_rfl) (by kernel_rfl) rfl ?_
  repeat' (first | refine wk0 ?_ | (refine wk2 ?_ ?_ <;> intro _) | refine wk4 ?_ | fail); all_goals (conv => whnf)
  exact ret_bool (by simp)
def r178 (nm : ByteArray) : List AV → Option PRes
  | [.agg [.str a, .int .i64 x, .int .i64 y, .int .i64 z, .int .i64 u, .int .i64 v], .ipt [.str _]] => some ⟨Bo (a == nm), []⟩
  | _ => none
set_option maxRecDepth 100000 in
set_option maxHeartbeats 4000000 in
theorem c177 {ms : List Mat} (hl : ms.length < 1000) (nm : ByteArray) : PCall Tryz.prog 268 [.isl 6 (ms.map Mat.av), .func 269 [] [.ipt [.str nm]]] ⟨I (matIx nm 0 ms), []⟩ := by
  have e3 := mt_length ms
  refine bs.pv (sx := nos) pt0_ok Tryz.func268 (by kernel_rfl) (by kernel_rfl) rfl ?_
  repeat' (first | refine wk1 ?_ | (refine wk2 ?_ ?_ <;> intro _) | refine wk4 ?_ | fail); all_goals (conv => whnf)
  refine loopV (S := Nat × Int) (fun t => ms.length - t.1) (fun t => [(0, .isl 6 (ms.map Mat.av)), (1, .func 269 [] [.ipt [.str nm]]), (7, I (ms.map Mat.av).length), (8, I t.2)]) (fun _ => []) 0 0 (fun t => t.2 = t.1 ∧ t.1 ≤ ms.length ∧ matIx nm t.1 (ms.drop t.1) = matIx nm 0 ms) (0, 0) ⟨rfl, Nat.zero_le _, rfl⟩ (Nat.le_refl _) [] rfl (kps) (kps) ?_
  rintro ⟨k, i⟩ ⟨hi, hk, hh⟩
  dsimp only at hi hk hh ⊢
  subst hi
  by_cases hlt : k < ms.length
  · have e1 := mt_get hlt
    rw [List.drop_eq_getElem_cons hlt, matIx] at hh
    refine bs.av (sx := nos) (one_ok (c178 ms[k] nm) pt0_ok) ?_
    repeat' (first | refine wk1 ?_ | (refine wk2 ?_ ?_ <;> intro _) | refine wk4 ?_ | fail); all_goals (conv => whnf)
    · rename_i hx; exact ret_int (by rw [← hh, if_pos hx])
    · rename_i hx; exact Done.mk ⟨(k + 1, _), [], rfl, kps, kps, ⟨W_succ (by omega), hlt, by rw [← hh, hx]; rfl⟩, by dsimp only; omega⟩
  rw [List.drop_of_length_le (by omega)] at hh
  refine bs.av (sx := nos) pt0_ok ?_
  repeat' (first | refine wk1 ?_ | (refine wk2 ?_ ?_ <;> intro _) | refine wk4 ?_ | fail); all_goals (conv => whnf)
  exact ret_int hh
/-- The material of a name. -/
def mat0 : Mat := ⟨⟨#[]⟩, 0, 0, 0, 0, 0⟩
def matG (h : Hal) (nm : ByteArray) : Mat := (h.ms[(matIx nm 0 h.ms).toNat]?).getD mat0
theorem matIx_lt_len (s : ByteArray) : ∀ (l : List Mat) (i : Nat), matIx s i l < ((i + l.length : Nat) : Int)
  | [], i => by simp [matIx]; omega
  | m :: l, i => by
    rw [matIx]
    have := matIx_lt_len s l (i + 1)
    split
    · simp; omega
    · simp only [List.length_cons]; omega
theorem matG_get {h : Hal} {nm : ByteArray} (h0 : 0 ≤ matIx nm 0 h.ms) : (h.ms.map Mat.av)[(matIx nm 0 h.ms).toNat]? = some (matG h nm).av := by
  have h1 := matIx_lt_len nm h.ms 0
  have hi : (matIx nm 0 h.ms).toNat < h.ms.length := by omega
  unfold matG
  rw [List.getElem?_map, List.getElem?_eq_getElem hi]; rfl
def mName (h : Hal) (s : Stg) (i : Int) : ByteArray := if i < h.ws.length then (if hasN s.dr i then curt h i else ((h.ws[i.toNat]?).map Wal.mt).getD ⟨#[]⟩) else if i = h.ws.length then h.fl else if i = (h.ws.length : Int) + 1 then h.ce else (kat h i).mt
theorem ix_of_mem {h : Hal} {nm : ByteArray} (hm : ∃ m ∈ h.ms, m.nm = nm) : 0 ≤ matIx nm 0 h.ms := by
  have := mt (matIx_neg nm h.ms 0).1 (by simpa using hm)
  omega
theorem wal_names {h : Hal} (g : h.fine) {k : Nat} (hk : k < h.ws.length) : 0 ≤ matIx h.ws[k].mt 0 h.ms ∧ (h.ws[k].cu ≠ ⟨#[]⟩ → 0 ≤ matIx h.ws[k].cu 0 h.ms) := by
  have := g.wal k hk
  unfold wErrR at this
  split at this
  · split at this
    · cases this
    · split at this
      · cases this
      · split at this
        · cases this
        · rename_i hx
          simp only [Bool.or_eq_true, Bool.and_eq_true, decide_eq_true_eq, Bool.not_eq_true', beq_ba, decide_eq_false_iff_not, not_or, not_and] at hx
          exact ⟨by omega, fun hc => by have := hx.2 hc; omega⟩
  · cases this
theorem can_names {h : Hal} (g : h.fine) {k : Nat} (hk : k < h.ks.length) : 0 ≤ matIx h.ks[k].mt 0 h.ms := by
  have := g.can k hk
  unfold cErrR at this
  split at this
  · split at this
    · cases this
    · split at this
      · cases this
      · split at this
        · cases this
        · split at this
          · cases this
          · rename_i hx
            simp only [decide_eq_true_eq] at hx
            omega
  · cases this
theorem mName_ix {h : Hal} {s : Stg} (g : Sit h s) {i : Int} (hi : SK h i) : 0 ≤ matIx (mName h s i) 0 h.ms := by
  unfold mName
  cases hi with
  | wall k hk =>
    rw [if_pos (by omega), Int.toNat_natCast, List.getElem?_eq_getElem hk]
    have hc : curt h k = h.ws[k].cu := by unfold curt; rw [Int.toNat_natCast, List.getElem?_eq_getElem hk]
    split
    · rename_i hd
      have hd : ∃ d ∈ s.dr, d = (k : Int) := by unfold hasN at hd; rw [List.any_eq_true] at hd; simpa using hd
      obtain ⟨d, hd, rfl⟩ := hd
      rw [hc]
      exact (wal_names g.fine hk).2 (by rw [← hc]; exact (g.set.dr _ hd).2.2)
    · exact (wal_names g.fine hk).1
  | floor => rw [if_neg (by omega), if_pos rfl]; exact ix_of_mem g.fine.fl
  | ceil => rw [if_neg (by omega), if_neg (by omega), if_pos rfl]; exact ix_of_mem g.fine.ce
  | can j hj => rw [if_neg (by omega), if_neg (by omega), if_neg (by omega), kat_eq hj]; exact can_names g.fine hj
def matS (h : Hal) (s : Stg) (i : Int) : Mat := matG h (mName h s i)
end Go.Proofs.YtddhjopopelkjaaGreat
namespace Go.Proofs.YtddhjopopelkjaaGreat
open Go Go.Sx

theorem canV_low {h : Hal} {i : Int} (hi : i < (h.ws.length : Int) + 2) : canV h i = .agg canZ ∧ isK h i = false := by
  have e1 : isK h i = false := decide_eq_false (by omega)
  unfold canV; rw [e1]; exact ⟨rfl, rfl⟩
theorem canV_can {h : Hal} {j : Nat} (hj : j < h.ks.length) : canV h ((h.ws.length : Int) + 2 + j) = .agg (Can.av h.ks[j]) ∧ isK h ((h.ws.length : Int) + 2 + j) = true := by
  have e1 : isK h ((h.ws.length : Int) + 2 + j) = true := decide_eq_true (by omega)
  unfold canV; rw [e1, ← kat_eq hj]; exact ⟨rfl, rfl⟩
theorem mName_wall {h : Hal} {s : Stg} {k : Nat} (hk : k < h.ws.length) : mName h s k = if hasN s.dr k then h.ws[k].cu else h.ws[k].mt := by
  unfold mName
  rw [if_pos (by omega), Int.toNat_natCast, List.getElem?_eq_getElem hk]
  rw [show curt h k = h.ws[k].cu by unfold curt; rw [Int.toNat_natCast, List.getElem?_eq_getElem hk]]
  rfl
theorem mName_floor {h : Hal} {s : Stg} : mName h s h.ws.length = h.fl := by unfold mName; rw [if_neg (by omega), if_pos rfl]
theorem mName_ceil {h : Hal} {s : Stg} : mName h s ((h.ws.length : Int) + 1) = h.ce := by unfold mName; rw [if_neg (by omega), if_neg (by omega), if_pos rfl]
theorem mName_can {h : Hal} {s : Stg} {j : Nat} (hj : j < h.ks.length) : mName h s ((h.ws.length : Int) + 2 + j) = h.ks[j].mt := by
  unfold mName
  rw [if_neg (by omega), if_neg (by omega), if_neg (by omega), kat_eq hj]
set_option maxRecDepth 100000 in
set_option maxHeartbeats 16000000 in
theorem c86 {h : Hal} {s : Stg} (g : Sit h s) {i : Int} (hi : SK h i) : PCall Tryz.prog 215 [.agg (stgL h s), I i] ⟨.agg (matS h s i).av, []⟩ := by
  have f3 := g.ok.f.2.2.1
  have f4 := g.ok.f.2.2.2.1
  have h0 := mName_ix g hi
  have hG := matG_get h0
  have hk0 := one_ok (c87 g.ok.f s hi) (one_ok (c172 (h := h) s) (one_ok (c173 g.ok.f s) (one_ok (c176 (ns := s.dr) (by have := g.sf.2; omega) i) (one_ok (c177 g.ok.f.1 (mName h s i)) pt0_ok))))
  unfold matS
  have l1 := mt_length h.ms
  have hlt := matIx_lt_len (mName h s i) h.ms 0
  cases hi with
  | wall k hk =>
    obtain ⟨v1, v2⟩ := canV_low (h := h) (i := k) (by omega)
    rw [v1, v2] at hk0
    have e1 := wa_get hk
    have hn := mName_wall (s := s) hk
    generalize matG h (mName h s k) = M at *
    cases hd : hasN s.dr k with
    | true =>
      rw [hd] at hn hk0
      rw [if_pos rfl] at hn
      rw [hn] at hk0 h0 hG hlt
      refine bs.pv (sx := nos) hk0 Tryz.func215 (by kernel_rfl) (by kernel_rfl) rfl ?_
      repeat' (first | refine wk1 ?_ | (refine wk2 ?_ ?_ <;> intro _) | refine wk4 ?_ | fail); all_goals (conv => whnf)
      exact ret_of rfl rfl
    | false =>
      rw [hd] at hn hk0
      rw [if_neg (by simp)] at hn
      rw [hn] at hk0 h0 hG hlt
      refine bs.pv (sx := nos) hk0 Tryz.func215 (by kernel_rfl) (by kernel_rfl) rfl ?_
      repeat' (first | refine wk1 ?_ | (refine wk2 ?_ ?_ <;> intro _) | refine wk4 ?_ | fail); all_goals (conv => whnf)
      exact ret_of rfl rfl
  | floor =>
    obtain ⟨v1, v2⟩ := canV_low (h := h) (i := h.ws.length) (by omega)
    rw [v1, v2] at hk0
    have hn := mName_floor (h := h) (s := s)
    generalize matG h (mName h s h.ws.length) = M at *
    rw [hn] at hk0 h0 hG hlt
    refine bs.pv (sx := nos) hk0 Tryz.func215 (by kernel_rfl) (by kernel_rfl) rfl ?_
    repeat' (first | refine wk1 ?_ | (refine wk2 ?_ ?_ <;> intro _) | refine wk4 ?_ | fail); all_goals (conv => whnf)
    exact ret_of rfl rfl
  | ceil =>
    obtain ⟨v1, v2⟩ := canV_low (h := h) (i := (h.ws.length : Int) + 1) (by omega)
    rw [v1, v2] at hk0
    have hn := mName_ceil (h := h) (s := s)
    generalize matG h (mName h s ((h.ws.length : Int) + 1)) = M at *
    rw [hn] at hk0 h0 hG hlt
    refine bs.pv (sx := nos) hk0 Tryz.func215 (by kernel_rfl) (by kernel_rfl) rfl ?_
    repeat' (first | refine wk1 ?_ | (refine wk2 ?_ ?_ <;> intro _) | refine wk4 ?_ | fail); all_goals (conv => whnf)
    exact ret_of rfl rfl
  | can j hj =>
    obtain ⟨v1, v2⟩ := canV_can hj
    rw [v1, v2] at hk0
    have hn := mName_can (s := s) hj
    generalize matG h (mName h s ((h.ws.length : Int) + 2 + j)) = M at *
    rw [hn] at hk0 h0 hG hlt
    refine bs.pv (sx := nos) hk0 Tryz.func215 (by kernel_rfl) (by kernel_rfl) rfl ?_
    repeat' (first | refine wk1 ?_ | (refine wk2 ?_ ?_ <;> intro _) | refine wk4 ?_ | fail); all_goals (conv => whnf)
    exact ret_of rfl rfl
set_option maxRecDepth 100000 in
set_option maxHeartbeats 16000000 in
theorem c62 {h : Hal} {s : Stg} (g : Sit h s) {i : Int} (hi : SK h i) : PCall Tryz.prog 97 [h.av, s.av, I i] ⟨.agg (matS h s i).av, []⟩ := by
  have f3 := g.ok.f.2.2.1
  have f4 := g.ok.f.2.2.2.1
  have h0 := mName_ix g hi
  have hG := matG_get h0
  have hmx := mats_hit h (mName h s i)
  have hk0 := one_ok (c89 g.ok.f hi) (one_ok (c26 (ns := s.dr) (by have := g.sf.2; omega) i) (kR7_ok g.ok.f))
  unfold matS
  have l1 := mt_length h.ms
  have hlt := matIx_lt_len (mName h s i) h.ms 0
  cases hi with
  | wall k hk =>
    rw [show kindV h k = (0, (k : Int)) by unfold kindV; rw [if_pos (by omega)]] at hk0
    have e1 := wa_get hk
    have hn := mName_wall (s := s) hk
    generalize matG h (mName h s k) = M at *
    cases hd : hasN s.dr k with
    | true =>
      rw [hd] at hn hk0
      rw [if_pos rfl] at hn
      rw [hn] at h0 hG hlt hmx
      refine bs.pv (sx := nos) hk0 Tryz.func97 (by kernel_rfl) (by kernel_rfl) rfl ?_
      repeat' (first | refine wk1 ?_ | (refine wk2 ?_ ?_ <;> intro _) | refine wk4 ?_ | fail); all_goals (conv => whnf)
      exact ret_of rfl rfl
    | false =>
      rw [hd] at hn hk0
      rw [if_neg (by simp)] at hn
      rw [hn] at h0 hG hlt hmx
      refine bs.pv (sx := nos) hk0 Tryz.func97 (by kernel_rfl) (by kernel_rfl) rfl ?_
      repeat' (first | refine wk1 ?_ | (refine wk2 ?_ ?_ <;> intro _) | refine wk4 ?_ | fail); all_goals (conv => whnf)
      exact ret_of rfl rfl
  | floor =>
    rw [show kindV h h.ws.length = (1, 0) by unfold kindV; rw [if_neg (by omega), if_pos rfl]] at hk0
    have hn := mName_floor (h := h) (s := s)
    generalize matG h (mName h s h.ws.length) = M at *
    rw [hn] at h0 hG hlt hmx
    refine bs.pv (sx := nos) hk0 Tryz.func97 (by kernel_rfl) (by kernel_rfl) rfl ?_
    repeat' (first | refine wk1 ?_ | (refine wk2 ?_ ?_ <;> intro _) | refine wk4 ?_ | fail); all_goals (conv => whnf)
    exact ret_of rfl rfl
  | ceil =>
    rw [show kindV h ((h.ws.length : Int) + 1) = (2, 0) by unfold kindV; rw [if_neg (by omega), if_neg (by omega), if_pos rfl]] at hk0
    have hn := mName_ceil (h := h) (s := s)
    generalize matG h (mName h s ((h.ws.length : Int) + 1)) = M at *
    rw [hn] at h0 hG hlt hmx
    refine bs.pv (sx := nos) hk0 Tryz.func97 (by kernel_rfl) (by kernel_rfl) rfl ?_
    repeat' (first | refine wk1 ?_ | (refine wk2 ?_ ?_ <;> intro _) | refine wk4 ?_ | fail); all_goals (conv => whnf)
    exact ret_of rfl rfl
  | can j hj =>
    rw [show kindV h ((h.ws.length : Int) + 2 + j) = (3, (j : Int)) by unfold kindV; rw [if_neg (by omega), if_neg (by omega), if_neg (by omega)]; simp; omega] at hk0
    have e1 := ca_get hj
    have hn := mName_can (s := s) hj
    generalize matG h (mName h s ((h.ws.length : Int) + 2 + j)) = M at *
    rw [hn] at h0 hG hlt hmx
    refine bs.pv (sx := nos) hk0 Tryz.func97 (by kernel_rfl) (by kernel_rfl) rfl ?_
    repeat' (first | refine wk1 ?_ | (refine wk2 ?_ ?_ <;> intro _) | refine wk4 ?_ | fail); all_goals (conv => whnf)
    exact ret_of rfl rfl
def matA (h : Hal) (s : Stg) (i : Int) : Mat := if surE h s i = 0 then matS h s i else mat0
abbrev abs4 (m : Mat) : AV := .agg [I m.a, I m.b, I m.c, I m.d]
set_option maxRecDepth 100000 in
set_option maxHeartbeats 8000000 in
theorem c60 {h : Hal} (hk : h.ok) {s : Stg} (hs : s.few) (i : Int) : PCall Tryz.prog 169 [h.av, s.av, I i] ⟨.tup [abs4 (matA h s i), I (surE h s i)], []⟩ := by
  have hk0 := one_ok (c109 hk hs i) pt0_ok
  by_cases he : surE h s i = 0
  · have e := surE_zero he
    have g := sit_of hk hs e.1
    have hk1 := one_ok (c86 g (sk_of e.2.1 e.2.2)) hk0
    have e2 : matA h s i = matS h s i := by unfold matA; rw [if_pos he]
    rw [e2]
    rw [he] at hk1 ⊢
    refine bs.pv (sx := nos) hk1 Tryz.func169 (by kernel_rfl) (by kernel_rfl) rfl ?_
    repeat' (first | refine wk1 ?_ | (refine wk2 ?_ ?_ <;> intro _) | refine wk4 ?_ | fail); all_goals (conv => whnf)
    exact ret_of rfl rfl
  · have e2 : matA h s i = mat0 := by unfold matA; rw [if_neg he]
    rw [e2]
    refine bs.pv (sx := nos) hk0 Tryz.func169 (by kernel_rfl) (by kernel_rfl) rfl ?_
    repeat' (first | refine wk1 ?_ | (refine wk2 ?_ ?_ <;> intro _) | refine wk4 ?_ | fail); all_goals (conv => whnf)
    exact ret_of rfl rfl
set_option maxRecDepth 100000 in
set_option maxHeartbeats 8000000 in
theorem c61 {h : Hal} (hk : h.ok) {s : Stg} (hs : s.few) (i : Int) : PCall Tryz.prog 170 [h.av, s.av, I i] ⟨.tup [I (matA h s i).sc, I (surE h s i)], []⟩ := by
  have hk0 := one_ok (c109 hk hs i) pt0_ok
  by_cases he : surE h s i = 0
  · have e := surE_zero he
    have g := sit_of hk hs e.1
    have hk1 := one_ok (c86 g (sk_of e.2.1 e.2.2)) hk0
    have e2 : matA h s i = matS h s i := by unfold matA; rw [if_pos he]
    rw [e2]
    rw [he] at hk1 ⊢
    refine bs.pv (sx := nos) hk1 Tryz.func170 (by kernel_rfl) (by kernel_rfl) rfl ?_
    repeat' (first | refine wk1 ?_ | (refine wk2 ?_ ?_ <;> intro _) | refine wk4 ?_ | fail); all_goals (conv => whnf)
    exact ret_of rfl rfl
  · have e2 : matA h s i = mat0 := by unfold matA; rw [if_neg he]
    rw [e2]
    refine bs.pv (sx := nos) hk0 Tryz.func170 (by kernel_rfl) (by kernel_rfl) rfl ?_
    repeat' (first | refine wk1 ?_ | (refine wk2 ?_ ?_ <;> intro _) | refine wk4 ?_ | fail); all_goals (conv => whnf)
    exact ret_of rfl rfl

/-! ### HallMaterials -/
end Go.Proofs.YtddhjopopelkjaaGreat
namespace Go.Proofs.YtddhjopopelkjaaGreat
open Go Go.Sx

/-! ### Whole roots -/
theorem sq_ex (n : Nat) : ∃ r, r * r ≤ n ∧ n < (r + 1) * (r + 1) := by
  induction n with
  | zero => exact ⟨0, by decide, by decide⟩
  | succ n ih =>
    obtain ⟨r, h1, h2⟩ := ih
    by_cases h : (r + 1) * (r + 1) ≤ n + 1
    · refine ⟨r + 1, h, ?_⟩
      have : (r + 1 + 1) * (r + 1 + 1) = (r + 1) * (r + 1) + 2 * (r + 1) + 1 := by grind
      omega
    · exact ⟨r, by omega, by omega⟩
noncomputable def isq (n : Int) : Int := (Classical.choose (sq_ex n.toNat) : Nat)
theorem isq_spec {n : Int} (h : 0 ≤ n) : 0 ≤ isq n ∧ isq n * isq n ≤ n ∧ n < (isq n + 1) * (isq n + 1) := by
  obtain ⟨h1, h2⟩ := Classical.choose_spec (sq_ex n.toNat)
  unfold isq
  generalize Classical.choose (sq_ex n.toNat) = r at *
  refine ⟨by omega, ?_, ?_⟩
  · have : ((r * r : Nat) : Int) ≤ (n.toNat : Int) := by exact_mod_cast h1
    rw [Int.natCast_mul] at this; omega
  · have : ((n.toNat : Nat) : Int) < (((r + 1) * (r + 1) : Nat) : Int) := by exact_mod_cast h2
    rw [Int.natCast_mul] at this
    have e : ((r + 1 : Nat) : Int) = (r : Int) + 1 := by omega
    rw [e] at this; omega
theorem sq_mono {a b : Int} (ha : 0 ≤ a) (h : a ≤ b) : a * a ≤ b * b := Int.mul_le_mul h h ha (by omega)
theorem sq_lt {a b : Int} (hb : 0 ≤ b) (h : a * a < b * b) (ha : 0 ≤ a) : a < b := by
  rcases Int.lt_or_le a b with h1 | h1
  · exact h1
  · have := sq_mono hb h1; omega
theorem isq_unique {n r : Int} (h0 : 0 ≤ n) (hr : 0 ≤ r) (h1 : r * r ≤ n) (h2 : n < (r + 1) * (r + 1)) : r = isq n := by
  obtain ⟨g0, g1, g2⟩ := isq_spec h0
  have a1 := sq_lt (a := r) (b := isq n + 1) (by omega) (by omega) hr
  have a2 := sq_lt (a := isq n) (b := r + 1) (by omega) (by omega) g0
  omega
theorem sq_bd {r B : Int} (h0 : 0 ≤ r) (h1 : r ≤ B) : 0 ≤ r * r ∧ r * r ≤ B * B := ⟨Int.mul_nonneg h0 h0, sq_mono h0 h1⟩
theorem conv_int {y : Nat} {r : Int} (h : floatToIntVal .f64 y .i64 = some r) : convFAV (tget tbl) 228 3 (.flt .f64 y) = some (I r) := by
  unfold floatToIntVal at h
  show (match (FloatKind.f64.decode y).toInt .zero with
    | some n => cond (decide (IntKind.i64.min ≤ n ∧ n ≤ IntKind.i64.max)) (some (AV.int .i64 n)) none
    | none => none) = _
  split at h
  · rename_i n hn
    rw [hn]
    dsimp only
    split at h
    · rename_i hr
      cases h
      rw [decide_eq_true hr]; rfl
    · cases h
  · cases h
set_option maxRecDepth 100000 in
set_option maxHeartbeats 8000000 in
theorem c175 {n : Int} (h0 : 0 ≤ n) (h1 : n < 9007199254740992) : PCall Tryz.prog 271 [I n] ⟨I (isq n), []⟩ := by
  obtain ⟨y, r0, e1, e2, e3, e4⟩ := sqrt_int h0 h1
  refine bs.pv (sx := nos) (one_ok (c202 e1) pt0_ok) Tryz.func271 (by kernel_rfl) (by kernel_rfl) rfl ?_
  have hc := conv_int e2
  repeat' (first | refine wk1 ?_ | (refine wk2 ?_ ?_ <;> intro _) | refine wk4 ?_ | fail); all_goals (conv => whnf)
  split
  rotate_left
  · rename_i hx
    exfalso
    change ret (convFAV (tget tbl) 228 3 (.flt .f64 y)) = none at hx
    rw [hc] at hx
    cases hx
  rename_i x hx
  change ret (convFAV (tget tbl) 228 3 (.flt .f64 y)) = some x at hx
  rw [hc] at hx
  cases hx
  repeat' (first | refine wk1 ?_ | (refine wk2 ?_ ?_ <;> intro _) | refine wk4 ?_ | fail); all_goals (conv => whnf)
  refine loopV (S := Int) (fun t => t.toNat) (fun t => [(0, I n), (3, I t)]) (fun _ => []) 0 0 (fun t => 0 ≤ t ∧ t ≤ 268435456) r0 ⟨e3, e4⟩ (Nat.le_refl _) [] rfl (kps) (kps) ?_
  clear e1 e2 e3 e4
  rintro r ⟨g1, g2⟩
  try dsimp only at g1 g2 ⊢
  have hb := sq_bd g1 g2
  have hw : IntKind.i64.wrap (r * r) = r * r := W_eq (by omega) (by omega)
  refine bs.av (sx := nos) pt0_ok ?_
  by_cases hc : n < r * r
  · have hp : 0 < r := by
      rcases Int.lt_or_le 0 r with h | h
      · exact h
      · have : r = 0 := by omega
        subst this; omega
    repeat' (first | refine wk1 ?_ | (refine wk2 ?_ ?_ <;> intro _) | refine wk4 ?_ | fail); all_goals (conv => whnf)
    have hv : IntKind.i64.wrap (r - 1) = r - 1 := W_eq (by omega) (by omega)
    exact Done.mk ⟨_, [], rfl, kps, kps, ⟨by omega, by omega⟩, by omega⟩
  · repeat' (first | refine wk1 ?_ | (refine wk2 ?_ ?_ <;> intro _) | refine wk4 ?_ | fail); all_goals (conv => whnf)
    refine loopV (S := Int) (fun t => (n - t).toNat) (fun t => [(0, I n), (3, I t)]) (fun _ => []) 0 0 (fun t => 0 ≤ t ∧ t * t ≤ n) r ⟨g1, by omega⟩ (Nat.le_refl _) [] rfl (kps) (kps) ?_
    clear hc hw hb g1 g2
    rintro r ⟨g1, g2⟩
    try dsimp only at g1 g2 ⊢
    have g3 : r < 94906267 := sq_lt (by omega) (by omega) g1
    have hw1 : IntKind.i64.wrap (r + 1) = r + 1 := W_eq (by omega) (by omega)
    have hb := sq_bd (r := r + 1) (B := 94906267) (by omega) (by omega)
    have hw2 : IntKind.i64.wrap (IntKind.i64.wrap (r + 1) * IntKind.i64.wrap (r + 1)) = (r + 1) * (r + 1) := by rw [hw1]; exact W_eq (by omega) (by omega)
    refine bs.av (sx := nos) pt0_ok ?_
    by_cases hc : (r + 1) * (r + 1) ≤ n
    · repeat' (first | refine wk1 ?_ | (refine wk2 ?_ ?_ <;> intro _) | refine wk4 ?_ | fail); all_goals (conv => whnf)
      have hrn : r < n := by
        have : (r + 1) * (r + 1) = r * r + 2 * r + 1 := by grind
        have hz := Int.mul_nonneg g1 g1
        omega
      exact Done.mk ⟨_, [], rfl, kps, kps, ⟨by omega, by rw [hw1]; exact hc⟩, by rw [hw1]; omega⟩
    · repeat' (first | refine wk1 ?_ | (refine wk2 ?_ ?_ <;> intro _) | refine wk4 ?_ | fail); all_goals (conv => whnf)
      exact ret_int (isq_unique h0 g1 g2 (by omega))
def bk : Nat → Int
  | 0 => 0
  | k + 1 => ((2 ^ k : Nat) : Int)
theorem bk_half (k : Nat) : IntKind.i64.wrap ((bk (k + 1)).tdiv 2) = bk k ∨ 62 ≤ k := by
  by_cases hk : 62 ≤ k
  · exact .inr hk
  refine .inl ?_
  have hb : 2 ^ k ≤ 2 ^ 62 := Nat.pow_le_pow_right (by decide) (by omega)
  unfold bk
  cases k with
  | zero => decide
  | succ k =>
    dsimp only
    have e : ((2 ^ (k + 1) : Nat) : Int).tdiv 2 = ((2 ^ k : Nat) : Int) := by
      rw [Int.tdiv_eq_ediv_of_nonneg (Int.natCast_nonneg _)]
      rw [Nat.pow_succ]; omega
    rw [e]
    rw [Nat.pow_succ] at hb
    have h1 : (0 : Int) ≤ ((2 ^ k : Nat) : Int) := Int.natCast_nonneg _
    exact W_eq (by omega) (by omega)
set_option maxRecDepth 100000 in
set_option maxHeartbeats 8000000 in
theorem c126 {n : Int} (h0 : 0 ≤ n) (h1 : n < 9007199254740992) : PCall Tryz.prog 172 [I n] ⟨I (isq n), []⟩ := by
  refine bs.pv (sx := nos) pt0_ok Tryz.func172 (by kernel_rfl) (by kernel_rfl) rfl ?_
  conv => whnf
  refine loopV (S := Nat × Int) (fun t => t.1) (fun t => [(0, I n), (3, I t.2), (4, I (bk t.1))]) (fun _ => []) 0 0 (fun t => t.1 ≤ 31 ∧ 0 ≤ t.2 ∧ t.2 * t.2 ≤ n ∧ n < (t.2 + ((2 ^ t.1 : Nat) : Int)) * (t.2 + ((2 ^ t.1 : Nat) : Int))) (31, 0) ⟨by decide, by decide, by simpa using h0, by
    have : ((0 : Int) + ((2 ^ 31 : Nat) : Int)) * (0 + ((2 ^ 31 : Nat) : Int)) = 4611686018427387904 := by decide
    show n < ((0 : Int) + ((2 ^ 31 : Nat) : Int)) * (0 + ((2 ^ 31 : Nat) : Int))
    omega⟩ (Nat.le_refl _) [] rfl (kps) (kps) ?_
  rintro ⟨k, r⟩ ⟨g0, g1, g2, g3⟩
  dsimp only at g0 g1 g2 g3 ⊢
  have g4 : r < 94906267 := sq_lt (by omega) (by omega) g1
  refine bs.av (sx := nos) pt0_ok ?_
  cases k with
  | zero =>
    repeat' (first | refine wk1 ?_ | (refine wk2 ?_ ?_ <;> intro _) | refine wk4 ?_ | fail); all_goals (conv => whnf)
    exact ret_int (isq_unique h0 g1 g2 (by simpa using g3))
  | succ k =>
    have hb : 2 ^ k ≤ 2 ^ 30 := Nat.pow_le_pow_right (by decide) (by omega)
    have hp : 0 < 2 ^ k := Nat.pow_pos (by decide)
    have hh : IntKind.i64.wrap ((bk (k + 1)).tdiv 2) = bk k := (bk_half k).resolve_right (by omega)
    have hk1 : bk (k + 1) = ((2 ^ k : Nat) : Int) := rfl
    have e2 : ((2 ^ (k + 1) : Nat) : Int) = 2 * ((2 ^ k : Nat) : Int) := by rw [Nat.pow_succ]; omega
    rw [e2] at g3
    rw [hk1] at hh ⊢
    generalize hbk : ((2 ^ k : Nat) : Int) = b at *
    have hb' : 0 < b ∧ b ≤ 1073741824 := by omega
    have hw1 : IntKind.i64.wrap (r + b) = r + b := W_eq (by omega) (by omega)
    have hq := sq_bd (r := r + b) (B := 1168648091) (by omega) (by omega)
    have hw2 : IntKind.i64.wrap (IntKind.i64.wrap (r + b) * IntKind.i64.wrap (r + b)) = (r + b) * (r + b) := by rw [hw1]; exact W_eq (by omega) (by omega)
    by_cases hc : (r + b) * (r + b) ≤ n
    · repeat' (first | refine wk1 ?_ | (refine wk2 ?_ ?_ <;> intro _) | refine wk4 ?_ | fail); all_goals (conv => whnf)
      exact Done.mk ⟨(k, IntKind.i64.wrap (r + b)), [], rfl, by rw [← hh]; exact kps, kps, ⟨by omega, by dsimp only; omega, by dsimp only; rw [hw1]; exact hc, by
        dsimp only
        rw [hw1]
        have : r + b + b = r + 2 * b := by omega
        rw [hbk, this]; exact g3⟩, by dsimp only; omega⟩
    · repeat' (first | refine wk1 ?_ | (refine wk2 ?_ ?_ <;> intro _) | refine wk4 ?_ | fail); all_goals (conv => whnf)
      exact Done.mk ⟨(k, r), [], rfl, by rw [← hh]; exact kps, kps, ⟨by omega, g1, g2, by dsimp only; rw [hbk]; omega⟩, by dsimp only; omega⟩
set_option maxHeartbeats 4000000 in
theorem c127 {n : Int} (h0 : 0 ≤ n) (h1 : n < 9007199254740992) : PCall Tryz.prog 173 [I n] ⟨I (if isq n * isq n < n then isq n + 1 else isq n), []⟩ := by
  obtain ⟨g1, g2, g3⟩ := isq_spec h0
  have g4 : isq n < 94906267 := sq_lt (by omega) (by omega) g1
  have hb := sq_bd g1 (show isq n ≤ 94906267 by omega)
  have hw : IntKind.i64.wrap (isq n * isq n) = isq n * isq n := W_eq (by omega) (by omega)
  have hw2 : IntKind.i64.wrap (isq n + 1) = isq n + 1 := W_eq (by omega) (by omega)
  refine bs.pv (sx := nos) (one_ok (c126 h0 h1) pt0_ok) Tryz.func173 (by kernel_rfl) (by kernel_rfl) rfl ?_
  by_cases hc : isq n * isq n < n
  · rw [if_pos hc]
    repeat' (first | refine wk1 ?_ | (refine wk2 ?_ ?_ <;> intro _) | refine wk4 ?_ | fail); all_goals (conv => whnf)
    exact ret_int hw2
  · rw [if_neg hc]
    repeat' (first | refine wk1 ?_ | (refine wk2 ?_ ?_ <;> intro _) | refine wk4 ?_ | fail); all_goals (conv => whnf)
    exact ret_int rfl
end Go.Proofs.YtddhjopopelkjaaGreat
namespace Go.Proofs.YtddhjopopelkjaaGreat
open Go Go.Sx

/-! ### Areas -/
theorem can_ok {h : Hal} (g : h.fine) {j : Nat} (hj : j < h.ks.length) : CanOk h.ks[j] := by
  have := g.can j hj
  unfold cErrR at this
  split at this
  · split at this
    · cases this
    · split at this
      · cases this
      · split at this
        · cases this
        · split at this
          · cases this
          · split at this
            · split at this
              · split at this
                · rename_i hp
                  split at this
                  · cases this
                  · rename_i hd
                    simp only [Bool.and_eq_true] at hp
                    simp only [Bool.or_eq_true, decide_eq_true_eq, not_or] at hd
                    exact ⟨within_iff.1 hp.1.1.1, within_iff.1 hp.1.1.2, within_iff.1 hp.1.2, within_iff.1 hp.2, hd.1, hd.2⟩
                · cases this
              · rename_i hx; exact absurd this hx
            · cases this
  · cases this
theorem sq_abs {a B : Int} (h0 : -B ≤ a) (h1 : a ≤ B) : 0 ≤ a * a ∧ a * a ≤ B * B := by
  rcases Int.le_total 0 a with h | h
  · exact ⟨Int.mul_nonneg h h, sq_mono h h1⟩
  · have e : a * a = -a * -a := by rw [Int.neg_mul_neg]
    rw [e]
    exact ⟨Int.mul_nonneg (by omega) (by omega), sq_mono (by omega) (by omega)⟩
theorem mul_abs {a b A B : Int} (h0 : -A ≤ a) (h1 : a ≤ A) (g0 : -B ≤ b) (g1 : b ≤ B) : -(A * B) ≤ a * b ∧ a * b ≤ A * B := by
  have hA : 0 ≤ A := by omega
  have hB : 0 ≤ B := by omega
  have k1 : 0 ≤ (A - a) * (B + b) := Int.mul_nonneg (by omega) (by omega)
  have k2 : 0 ≤ (A + a) * (B - b) := Int.mul_nonneg (by omega) (by omega)
  have k3 : 0 ≤ (A - a) * (B - b) := Int.mul_nonneg (by omega) (by omega)
  have k4 : 0 ≤ (A + a) * (B + b) := Int.mul_nonneg (by omega) (by omega)
  have e1 : (A - a) * (B + b) = A * B + A * b - a * B - a * b := by grind
  have e2 : (A + a) * (B - b) = A * B - A * b + a * B - a * b := by grind
  have e3 : (A - a) * (B - b) = A * B - A * b - a * B + a * b := by grind
  have e4 : (A + a) * (B + b) = A * B + A * b + a * B + a * b := by grind
  omega
def BdW (w : Wl) : Prop := ((-5000 ≤ w.fx ∧ w.fx ≤ 5000) ∧ (-5000 ≤ w.fy ∧ w.fy ≤ 5000)) ∧ ((-5000 ≤ w.tx ∧ w.tx ≤ 5000) ∧ (-5000 ≤ w.ty ∧ w.ty ≤ 5000))
theorem bdW {cs : List (Int × Int)} (hb : CorOk cs) {i : Nat} (hi : i < cs.length) : BdW (wlOf cs i) := wl_bd hb hi
theorem area2_bd {w : Wl} (hw : BdW w) {n : Int} (h0 : -1000000000000 ≤ n) (h1 : n ≤ 1000000000000) : n - 50000000 ≤ area2 n w ∧ area2 n w ≤ n + 50000000 := by
  obtain ⟨⟨a1, a2⟩, a3, a4⟩ := hw
  have k1 := mul_abs a1.1 a1.2 a4.1 a4.2
  have k2 := mul_abs a3.1 a3.2 a2.1 a2.2
  unfold area2
  rw [W_eq (n := w.fx * w.ty) (by omega) (by omega), W_eq (n := w.tx * w.fy) (by omega) (by omega), W_eq (n := w.fx * w.ty - w.tx * w.fy) (by omega) (by omega), W_eq (by omega) (by omega)]
  omega
theorem foldA_bd (l : List Wl) (hw : ∀ w ∈ l, BdW w) : ∀ (n B : Int), -B ≤ n → n ≤ B → B + 50000000 * (l.length : Int) ≤ 1000000000000 → l.foldl area2 n ≤ B + 50000000 * (l.length : Int) := by
  induction l with
  | nil => intro n B h0 h1 h2; simp only [List.foldl_nil, List.length_nil]; omega
  | cons w l ih =>
    intro n B h0 h1 h2
    rw [List.foldl_cons]
    rw [List.length_cons] at h2 ⊢
    have k := area2_bd (hw w List.mem_cons_self) (n := n) (by omega) (by omega)
    have := ih (fun v hv => hw v (List.mem_cons_of_mem _ hv)) (area2 n w) (B + 50000000) (by omega) (by omega) (by omega)
    omega
theorem twArea_bd {h : Hal} (g : h.fine) : 0 < twArea h ∧ twArea h ≤ 600000000 := by
  refine ⟨g.area, ?_⟩
  have hl := g.le
  have := foldA_bd (wls h.cs) (fun w hw => by
    unfold wls at hw
    rw [List.mem_map] at hw
    obtain ⟨i, hi, rfl⟩ := hw
    exact bdW g.bd (List.mem_range.1 hi)) 0 0 (by decide) (by decide) (by rw [wls_length]; omega)
  rw [wls_length] at this
  unfold twArea
  omega
def qn (h : Hal) (k : Nat) : Int := ((wlOf h.cs k).dx * (wlOf h.cs k).dx + (wlOf h.cs k).dy * (wlOf h.cs k).dy) * h.ht * h.ht
noncomputable def cr (n : Int) : Int := if isq n * isq n < n then isq n + 1 else isq n
noncomputable def areaV (h : Hal) (i : Int) : Int × Int := if i < h.ws.length then (isq (qn h i.toNat), cr (qn h i.toNat)) else if i < (h.ws.length : Int) + 2 then (twArea h / 2, (twArea h + 1) / 2) else ((kat h i).rc.area, (kat h i).rc.area)
theorem areaV_wall {h : Hal} {k : Nat} (hk : k < h.ws.length) : areaV h k = (isq (qn h k), cr (qn h k)) := by unfold areaV; rw [if_pos (by omega)]; rfl
theorem areaV_floor {h : Hal} : areaV h h.ws.length = (twArea h / 2, (twArea h + 1) / 2) := by unfold areaV; rw [if_neg (by omega), if_pos (by omega)]
theorem areaV_ceil {h : Hal} : areaV h ((h.ws.length : Int) + 1) = (twArea h / 2, (twArea h + 1) / 2) := by unfold areaV; rw [if_neg (by omega), if_pos (by omega)]
theorem areaV_can {h : Hal} {j : Nat} (hj : j < h.ks.length) : areaV h ((h.ws.length : Int) + 2 + j) = (h.ks[j].rc.area, h.ks[j].rc.area) := by unfold areaV; rw [if_neg (by omega), if_neg (by omega), kat_eq hj]
theorem dx_bd {w : Wl} (hw : BdW w) : (-10000 ≤ w.dx ∧ w.dx ≤ 10000) ∧ (-10000 ≤ w.dy ∧ w.dy ≤ 10000) := by
  obtain ⟨⟨a1, a2⟩, a3, a4⟩ := hw
  unfold Wl.dx Wl.dy
  rw [W_eq (n := w.tx - w.fx) (by omega) (by omega), W_eq (n := w.ty - w.fy) (by omega) (by omega)]
  omega
/-- The steps of the product, without roundings. -/
theorem qn_bd {h : Hal} (g : h.fine) {k : Nat} (hk : k < h.cs.length) :
    0 ≤ qn h k ∧ qn h k ≤ 5000000000000000 ∧ IntKind.i64.wrap (IntKind.i64.wrap (IntKind.i64.wrap (IntKind.i64.wrap ((wlOf h.cs k).dx * (wlOf h.cs k).dx) + IntKind.i64.wrap ((wlOf h.cs k).dy * (wlOf h.cs k).dy)) * h.ht) * h.ht) = qn h k := by
  have hb := dx_bd (bdW g.bd hk)
  have ht := g.ht
  unfold qn
  generalize (wlOf h.cs k).dx = x at *
  generalize (wlOf h.cs k).dy = y at *
  generalize h.ht = t at *
  have k1 := sq_abs hb.1.1 hb.1.2
  have k2 := sq_abs hb.2.1 hb.2.2
  rw [W_eq (n := x * x) (by omega) (by omega), W_eq (n := y * y) (by omega) (by omega), W_eq (n := x * x + y * y) (by omega) (by omega)]
  have k3 : 0 ≤ x * x + y * y ∧ x * x + y * y ≤ 200000000 := by omega
  generalize x * x + y * y = s at *
  have k4 := mul_abs (a := s) (b := t) (A := 200000000) (B := 5000) (by omega) (by omega) (by omega) (by omega)
  have k5 : 0 ≤ s * t := Int.mul_nonneg (by omega) (by omega)
  rw [W_eq (n := s * t) (by omega) (by omega)]
  generalize s * t = u at *
  have k6 := mul_abs (a := u) (b := t) (A := 1000000000000) (B := 5000) (by omega) (by omega) (by omega) (by omega)
  have k7 : 0 ≤ u * t := Int.mul_nonneg (by omega) (by omega)
  rw [W_eq (n := u * t) (by omega) (by omega)]
  exact ⟨k7, by omega, rfl⟩
theorem rc_area {c : Can} (hc : CanOk c) : (0 ≤ c.rc.area ∧ c.rc.area ≤ 100000000) ∧ IntKind.i64.wrap (size (IntKind.i64.wrap (c.tx - c.fx)) * size (IntKind.i64.wrap (c.ty - c.fy))) = c.rc.area := by
  obtain ⟨⟨e1, e2⟩, e3, e4⟩ := rc_vals c
  obtain ⟨b1, b2, b3, b4, hx, hy⟩ := hc
  have s1 : size (IntKind.i64.wrap (c.tx - c.fx)) = c.rc.xh - c.rc.xl := by
    rw [W_eq (n := c.tx - c.fx) (by omega) (by omega)]
    unfold size imax
    rw [W_eq (by omega) (by omega)]
    by_cases hh : c.tx - c.fx < 0 - (c.tx - c.fx)
    · rw [decide_eq_true hh, cond_true]; omega
    · rw [decide_eq_false hh, cond_false]; omega
  have s2 : size (IntKind.i64.wrap (c.ty - c.fy)) = c.rc.yh - c.rc.yl := by
    rw [W_eq (n := c.ty - c.fy) (by omega) (by omega)]
    unfold size imax
    rw [W_eq (by omega) (by omega)]
    by_cases hh : c.ty - c.fy < 0 - (c.ty - c.fy)
    · rw [decide_eq_true hh, cond_true]; omega
    · rw [decide_eq_false hh, cond_false]; omega
  rw [s1, s2]
  unfold Rc.area
  rw [W_eq (n := c.rc.xh - c.rc.xl) (by omega) (by omega), W_eq (n := c.rc.yh - c.rc.yl) (by omega) (by omega)]
  have k1 := mul_abs (a := c.rc.xh - c.rc.xl) (b := c.rc.yh - c.rc.yl) (A := 10000) (B := 10000) (by omega) (by omega) (by omega) (by omega)
  have k2 : 0 ≤ (c.rc.xh - c.rc.xl) * (c.rc.yh - c.rc.yl) := Int.mul_nonneg (by omega) (by omega)
  refine ⟨?_, rfl⟩
  rw [W_eq (by omega) (by omega)]
  omega
theorem fl_cases {n b : Int} (hb : 0 < b) : (n.tmod b < 0 ∧ n / b = n.tdiv b - 1) ∨ (¬ n.tmod b < 0 ∧ n / b = n.tdiv b) := by
  have e1 := Int.tmod_add_mul_tdiv n b
  have e2 := Int.tmod_lt_of_pos n hb
  have e3 := Int.lt_tmod_of_pos n hb
  by_cases h : n.tmod b < 0
  · exact .inl ⟨h, ((Int.ediv_emod_unique hb (r := n.tmod b + b)).2 ⟨by rw [Int.mul_sub]; omega, by omega, by omega⟩).1⟩
  · exact .inr ⟨h, ((Int.ediv_emod_unique hb (r := n.tmod b)).2 ⟨by omega, by omega, by omega⟩).1⟩
set_option maxHeartbeats 4000000 in
theorem c90 {n b : Int} (hb : 0 < b) (h0 : -9223372036854775807 ≤ n) (h1 : n ≤ 9223372036854775807) : PCall Tryz.prog 95 [I n, I b] ⟨I (n / b), []⟩ := by
  have hq := Int.natAbs_tdiv_le_natAbs n b
  have e : IntKind.i64.wrap (n.tdiv b) = n.tdiv b := W_eq (by omega) (by omega)
  have hm : IntKind.i64.wrap (n.tmod b) = n.tmod b := by
    have := Int.tmod_lt_of_pos n hb
    have e3 := Int.lt_tmod_of_pos n hb
    have e4 : (n.tmod b).natAbs ≤ n.natAbs := by rw [Int.natAbs_tmod]; exact Nat.mod_le _ _
    exact W_eq (by omega) (by omega)
  have hz : ¬ b = 0 := by omega
  refine bs.pv (sx := nos) pt0_ok Tryz.func95 (by kernel_rfl) (by kernel_rfl) rfl ?_
  rcases fl_cases (n := n) hb with ⟨c1, c2⟩ | ⟨c1, c2⟩
  · have e5 : IntKind.i64.wrap (n.tdiv b - 1) = n.tdiv b - 1 := W_eq (by omega) (by omega)
    rw [c2]
    repeat' (first | refine wk1 ?_ | (refine wk2 ?_ ?_ <;> intro _) | refine wk4 ?_ | fail); all_goals (conv => whnf)
    all_goals exact ret_int (by rw [e, e5])
  · rw [c2]
    repeat' (first | refine wk1 ?_ | (refine wk2 ?_ ?_ <;> intro _) | refine wk4 ?_ | fail); all_goals (conv => whnf)
    all_goals exact ret_int (by omega)
set_option maxHeartbeats 4000000 in
theorem c91 {n b : Int} (hb : 0 < b) (h0 : -9223372036854775807 ≤ n) (h1 : n ≤ 9223372036854775807) : PCall Tryz.prog 96 [I n, I b] ⟨I (-((-n) / b)), []⟩ := by
  have e1 : IntKind.i64.wrap (0 - n) = -n := by rw [W_eq (by omega) (by omega)]; omega
  have hk := one_ok (c90 (n := -n) hb (by omega) (by omega)) pt0_ok
  rw [← e1] at hk
  refine bs.pv (sx := nos) hk Tryz.func96 (by kernel_rfl) (by kernel_rfl) rfl ?_
  have hq : (-n / b).natAbs ≤ (-n).natAbs := Int.natAbs_ediv_le_natAbs _ _
  repeat' (first | refine wk1 ?_ | (refine wk2 ?_ ?_ <;> intro _) | refine wk4 ?_ | fail); all_goals (conv => whnf)
  rw [e1]
  exact ret_int (by rw [W_eq (by omega) (by omega)]; omega)
end Go.Proofs.YtddhjopopelkjaaGreat
namespace Go.Proofs.YtddhjopopelkjaaGreat
open Go Go.Sx

def qW (w : Wl) (t : Int) : Int := IntKind.i64.wrap (IntKind.i64.wrap (IntKind.i64.wrap (IntKind.i64.wrap (w.dx * w.dx) + IntKind.i64.wrap (w.dy * w.dy)) * t) * t)
set_option maxRecDepth 100000 in
set_option maxHeartbeats 8000000 in
theorem c85 {h : Hal} {s : Stg} (g : Sit h s) {i : Int} (hi : SK h i) : PCall Tryz.prog 217 [.agg (stgL h s), I i] ⟨.agg [I (areaV h i).1, I (areaV h i).2], []⟩ := by
  have f3 := g.ok.f.2.2.1
  have f4 := g.ok.f.2.2.2.1
  have hk0 := one_ok (c87 g.ok.f s hi) (kP_ok g)
  have ht := twArea_bd g.fine
  have hk0 := one_ok (c122 g.ok.f) hk0
  cases hi with
  | wall k hk =>
    have hk2 : k < h.cs.length := by have := g.fine.le; omega
    rw [areaV_wall hk]
    obtain ⟨v1, v2⟩ := canV_low (h := h) (i := k) (by omega)
    rw [v1, v2] at hk0
    obtain ⟨q1, q2, q3⟩ := qn_bd g.fine hk2
    obtain ⟨r1, r2, r3⟩ := isq_spec q1
    have r4 : isq (qn h k) < 94906267 := sq_lt (by omega) (by omega) r1
    have r5 := sq_bd r1 (show isq (qn h k) ≤ 94906267 by omega)
    have w1 : IntKind.i64.wrap (isq (qn h k) * isq (qn h k)) = isq (qn h k) * isq (qn h k) := W_eq (by omega) (by omega)
    have w2 : IntKind.i64.wrap (isq (qn h k) + 1) = isq (qn h k) + 1 := W_eq (by omega) (by omega)
    have hk1 := one_ok (c175 q1 (by omega)) (one_ok (c145w g.ok.f hk2) hk0)
    rw [← q3] at hk1
    unfold cr
    generalize wlOf h.cs k = w at *
    refine bs.pv (sx := nos) hk1 Tryz.func217 (by kernel_rfl) (by kernel_rfl) rfl ?_
    have q4 : qW w h.ht = qn h k := q3
    by_cases hc : isq (qn h k) * isq (qn h k) < qn h k
    · rw [if_pos hc]
      repeat' (first | refine wk1 ?_ | (refine wk2 ?_ ?_ <;> intro _) | refine wk4 ?_ | fail); all_goals (conv => whnf)
      · exfalso
        rename_i hx
        have hx := of_decide_eq_true (show decide ((k : Int) = (h.ws.length : Int) + 1) = true from hx)
        omega
      · exact ret_of (by rw [q3, w2]) rfl
      · exfalso
        rename_i hx
        change decide (IntKind.i64.wrap (isq (qW w h.ht) * isq (qW w h.ht)) < qW w h.ht) = false at hx
        rw [q4, w1] at hx
        exact of_decide_eq_false hx hc
    · rw [if_neg hc]
      repeat' (first | refine wk1 ?_ | (refine wk2 ?_ ?_ <;> intro _) | refine wk4 ?_ | fail); all_goals (conv => whnf)
      · exfalso
        rename_i hx
        have hx := of_decide_eq_true (show decide ((k : Int) = (h.ws.length : Int) + 1) = true from hx)
        omega
      · exfalso
        rename_i hx
        change decide (IntKind.i64.wrap (isq (qW w h.ht) * isq (qW w h.ht)) < qW w h.ht) = true at hx
        rw [q4, w1] at hx
        exact hc (of_decide_eq_true hx)
      · exact ret_of (by rw [q3]) rfl
  | floor =>
    rw [areaV_floor]
    obtain ⟨v1, v2⟩ := canV_low (h := h) (i := h.ws.length) (by omega)
    rw [v1, v2] at hk0
    have w1 : IntKind.i64.wrap ((twArea h).tdiv 2) = twArea h / 2 := by rw [Int.tdiv_eq_ediv_of_nonneg (by omega)]; exact W_eq (by omega) (by omega)
    have w2 : IntKind.i64.wrap (twArea h + 1) = twArea h + 1 := W_eq (by omega) (by omega)
    have w3 : IntKind.i64.wrap ((twArea h + 1).tdiv 2) = (twArea h + 1) / 2 := by rw [Int.tdiv_eq_ediv_of_nonneg (by omega)]; exact W_eq (by omega) (by omega)
    refine bs.pv (sx := nos) hk0 Tryz.func217 (by kernel_rfl) (by kernel_rfl) rfl ?_
    repeat' (first | refine wk1 ?_ | (refine wk2 ?_ ?_ <;> intro _) | refine wk4 ?_ | fail); all_goals (conv => whnf)
    exact ret_of (by rw [w1, w2, w3]) rfl
  | ceil =>
    rw [areaV_ceil]
    obtain ⟨v1, v2⟩ := canV_low (h := h) (i := (h.ws.length : Int) + 1) (by omega)
    rw [v1, v2] at hk0
    have w1 : IntKind.i64.wrap ((twArea h).tdiv 2) = twArea h / 2 := by rw [Int.tdiv_eq_ediv_of_nonneg (by omega)]; exact W_eq (by omega) (by omega)
    have w2 : IntKind.i64.wrap (twArea h + 1) = twArea h + 1 := W_eq (by omega) (by omega)
    have w3 : IntKind.i64.wrap ((twArea h + 1).tdiv 2) = (twArea h + 1) / 2 := by rw [Int.tdiv_eq_ediv_of_nonneg (by omega)]; exact W_eq (by omega) (by omega)
    refine bs.pv (sx := nos) hk0 Tryz.func217 (by kernel_rfl) (by kernel_rfl) rfl ?_
    repeat' (first | refine wk1 ?_ | (refine wk2 ?_ ?_ <;> intro _) | refine wk4 ?_ | fail); all_goals (conv => whnf)
    · exact ret_of (by rw [w1, w2, w3]) rfl
    · rename_i hx; exact absurd rfl (of_decide_eq_false (show decide ((h.ws.length : Int) + 1 = (h.ws.length : Int) + 1) = false from hx))
  | can j hj =>
    rw [areaV_can hj]
    obtain ⟨v1, v2⟩ := canV_can hj
    rw [v1, v2] at hk0
    generalize h.ks[j] = c at *
    have hk1 := one_ok (c171 c.rc) hk0
    refine bs.pv (sx := nos) hk1 Tryz.func217 (by kernel_rfl) (by kernel_rfl) rfl ?_
    repeat' (first | refine wk1 ?_ | (refine wk2 ?_ ?_ <;> intro _) | refine wk4 ?_ | fail); all_goals (conv => whnf)
    exact ret_of rfl rfl
set_option maxRecDepth 100000 in
set_option maxHeartbeats 8000000 in
theorem c58 {h : Hal} {s : Stg} (g : Sit h s) {i : Int} (hi : SK h i) : PCall Tryz.prog 140 [h.av, I i] ⟨.agg [I (areaV h i).1, I (areaV h i).2], []⟩ := by
  have ht := twArea_bd g.fine
  have hA := twArea_eq h
  have hk0 := one_ok (c89 g.ok.f hi) (kR5_ok g.ok.f)
  have hk0 := one_ok (c46 g.ok.f) (one_ok (c90 (n := twAreaR h.cs) (b := 2) (by decide) (by omega) (by omega)) (one_ok (c91 (n := twAreaR h.cs) (b := 2) (by decide) (by omega) (by omega)) hk0))
  have w2 : -((-twAreaR h.cs) / 2) = (twArea h + 1) / 2 := by omega
  have w1 : twAreaR h.cs / 2 = twArea h / 2 := by omega
  cases hi with
  | wall k hk =>
    have hk2 : k < h.cs.length := by have := g.fine.le; omega
    rw [areaV_wall hk]
    have e1 := lines_hit hk2
    rw [show kindV h k = (0, (k : Int)) by unfold kindV; rw [if_pos (by omega)]] at hk0
    rw [lnOf_eq] at e1
    obtain ⟨q1, q2, q3⟩ := qn_bd g.fine hk2
    have hk1 := one_ok (c126 q1 (by omega)) (one_ok (c127 q1 (by omega)) hk0)
    rw [← q3] at hk1
    generalize wlOf h.cs k = w at *
    refine bs.pv (sx := nos) hk1 Tryz.func140 (by kernel_rfl) (by kernel_rfl) rfl ?_
    repeat' (first | refine wk1 ?_ | (refine wk2 ?_ ?_ <;> intro _) | refine wk4 ?_ | fail); all_goals (conv => whnf)
    exact ret_of (by rw [q3]; rfl) rfl
  | floor =>
    rw [show kindV h h.ws.length = (1, 0) by unfold kindV; rw [if_neg (by omega), if_pos rfl]] at hk0
    rw [areaV_floor, ← w1, ← w2]
    refine bs.pv (sx := nos) hk0 Tryz.func140 (by kernel_rfl) (by kernel_rfl) rfl ?_
    repeat' (first | refine wk1 ?_ | (refine wk2 ?_ ?_ <;> intro _) | refine wk4 ?_ | fail); all_goals (conv => whnf)
    exact ret_of rfl rfl
  | ceil =>
    rw [show kindV h ((h.ws.length : Int) + 1) = (2, 0) by unfold kindV; rw [if_neg (by omega), if_neg (by omega), if_pos rfl]] at hk0
    rw [areaV_ceil, ← w1, ← w2]
    refine bs.pv (sx := nos) hk0 Tryz.func140 (by kernel_rfl) (by kernel_rfl) rfl ?_
    repeat' (first | refine wk1 ?_ | (refine wk2 ?_ ?_ <;> intro _) | refine wk4 ?_ | fail); all_goals (conv => whnf)
    exact ret_of rfl rfl
  | can j hj =>
    rw [show kindV h ((h.ws.length : Int) + 2 + j) = (3, (j : Int)) by unfold kindV; rw [if_neg (by omega), if_neg (by omega), if_neg (by omega)]; simp; omega] at hk0
    rw [areaV_can hj]
    have hc := (rc_area (can_ok g.fine hj)).2
    have e1 := ca_get hj
    generalize h.ks[j] = c at *
    rw [← hc]
    refine bs.pv (sx := nos) hk0 Tryz.func140 (by kernel_rfl) (by kernel_rfl) rfl ?_
    repeat' (first | refine wk1 ?_ | (refine wk2 ?_ ?_ <;> intro _) | refine wk4 ?_ | fail); all_goals (conv => whnf)
    exact ret_of rfl rfl
noncomputable def areaA (h : Hal) (s : Stg) (i : Int) : Int × Int := if surE h s i = 0 then areaV h i else (0, 0)
set_option maxRecDepth 100000 in
set_option maxHeartbeats 8000000 in
theorem c56 {h : Hal} (hk : h.ok) {s : Stg} (hs : s.few) (i : Int) : PCall Tryz.prog 216 [h.av, s.av, I i] ⟨.tup [.agg [I (areaA h s i).1, I (areaA h s i).2], I (surE h s i)], []⟩ := by
  have hk0 := one_ok (c109 hk hs i) pt0_ok
  by_cases he : surE h s i = 0
  · have e := surE_zero he
    have g := sit_of hk hs e.1
    have hk1 := one_ok (c85 g (sk_of e.2.1 e.2.2)) hk0
    have e2 : areaA h s i = areaV h i := by unfold areaA; rw [if_pos he]
    rw [e2]
    rw [he] at hk1 ⊢
    refine bs.pv (sx := nos) hk1 Tryz.func216 (by kernel_rfl) (by kernel_rfl) rfl ?_
    repeat' (first | refine wk1 ?_ | (refine wk2 ?_ ?_ <;> intro _) | refine wk4 ?_ | fail); all_goals (conv => whnf)
    exact ret_of rfl rfl
  · have e2 : areaA h s i = (0, 0) := by unfold areaA; rw [if_neg he]
    rw [e2]
    refine bs.pv (sx := nos) hk0 Tryz.func216 (by kernel_rfl) (by kernel_rfl) rfl ?_
    repeat' (first | refine wk1 ?_ | (refine wk2 ?_ ?_ <;> intro _) | refine wk4 ?_ | fail); all_goals (conv => whnf)
    exact ret_of rfl rfl
end Go.Proofs.YtddhjopopelkjaaGreat
namespace Go.Proofs.YtddhjopopelkjaaGreat
open Go Go.Sx

/-! ### HallAreas -/
noncomputable abbrev areas (h : Hal) (s : Stg) : List AV → Option PRes := famA (fun _ => True) (fun i : Int => [h.av, s.av, I i]) (fun i => ⟨.tup [.agg [I (areaA h s i).1, I (areaA h s i).2], I (surE h s i)], []⟩)
theorem areas_hit (h : Hal) (s : Stg) (i : Int) : areas h s [h.av, s.av, I i] = some ⟨.tup [.agg [I (areaA h s i).1, I (areaA h s i).2], I (surE h s i)], []⟩ :=
  famA_hit (g := fun i : Int => [h.av, s.av, I i]) (r := fun i => ⟨.tup [.agg [I (areaA h s i).1, I (areaA h s i).2], I (surE h s i)], []⟩) (fun j hj => by
    simp only [List.cons.injEq, AV.int.injEq, true_and, and_true] at hj
    rw [hj]) trivial
theorem surE_ok {h : Hal} {s : Stg} {i : Int} (e : serr h s = 0) (h0 : 0 ≤ i) (h1 : i < nsur h) : surE h s i = 0 := by
  unfold surE; rw [if_pos e, if_pos (within_iff.2 ⟨h0, by omega⟩)]
end Go.Proofs.YtddhjopopelkjaaGreat
namespace Go.Proofs.YtddhjopopelkjaaGreat
open Go Go.Sx

/-! ### HallAbsorbs -/
def absB (m : Mat) (b : Int) : Int := if b = 0 then m.a else if b = 1 then m.b else if b = 2 then m.c else m.d
/-- What counts of a surface in a band: a canopy has two sides. -/
def absK (h : Hal) (s : Stg) (b i : Int) : Int := if isK h i then absB (matS h s i) b * 2 else absB (matS h s i) b
noncomputable def sumS (h : Hal) (s : Stg) (b : Int) : Nat → Int × Int
  | 0 => (0, 0)
  | k + 1 => ((sumS h s b k).1 + (areaV h k).1 * absK h s b k, (sumS h s b k).2 + (areaV h k).2 * absK h s b k)
theorem mat_fit {h : Hal} (g : h.fine) {m : Mat} (hm : m ∈ h.ms) : (0 ≤ m.a ∧ m.a ≤ 1000) ∧ (0 ≤ m.b ∧ m.b ≤ 1000) ∧ (0 ≤ m.c ∧ m.c ≤ 1000) ∧ (0 ≤ m.d ∧ m.d ≤ 1000) := by
  have := g.mats m hm
  unfold matErr at this
  split at this
  · rename_i hx
    simp only [Bool.and_eq_true] at hx
    exact ⟨within_iff.1 hx.1.1.1.1, within_iff.1 hx.1.1.1.2, within_iff.1 hx.1.1.2, within_iff.1 hx.1.2⟩
  · cases this
theorem matS_mem {h : Hal} {s : Stg} (g : Sit h s) {i : Int} (hi : SK h i) : matS h s i ∈ h.ms := by
  have h0 := mName_ix g hi
  have h1 := matIx_lt_len (mName h s i) h.ms 0
  unfold matS matG
  have hl : (matIx (mName h s i) 0 h.ms).toNat < h.ms.length := by omega
  rw [List.getElem?_eq_getElem hl]
  exact List.getElem_mem hl
theorem absK_bd {h : Hal} {s : Stg} (g : Sit h s) {b i : Int} (hi : SK h i) : (0 ≤ absB (matS h s i) b ∧ absB (matS h s i) b ≤ 1000) ∧ 0 ≤ absK h s b i ∧ absK h s b i ≤ 2000 := by
  have := mat_fit g.fine (matS_mem g hi)
  have k : 0 ≤ absB (matS h s i) b ∧ absB (matS h s i) b ≤ 1000 := by
    unfold absB
    repeat' split
    all_goals omega
  refine ⟨k, ?_⟩
  unfold absK
  split <;> omega
theorem areaV_bd {h : Hal} {s : Stg} (g : Sit h s) {i : Int} (hi : SK h i) : (0 ≤ (areaV h i).1 ∧ (areaV h i).1 ≤ 300000001) ∧ (0 ≤ (areaV h i).2 ∧ (areaV h i).2 ≤ 300000001) := by
  have ht := twArea_bd g.fine
  cases hi with
  | wall k hk =>
    have hk2 : k < h.cs.length := by have := g.fine.le; omega
    rw [areaV_wall hk]
    obtain ⟨q1, q2, q3⟩ := qn_bd g.fine hk2
    obtain ⟨r1, r2, r3⟩ := isq_spec q1
    have r4 : isq (qn h k) < 94906267 := sq_lt (by omega) (by omega) r1
    unfold cr
    dsimp only
    split <;> omega
  | floor => rw [areaV_floor]; dsimp only; omega
  | ceil => rw [areaV_ceil]; dsimp only; omega
  | can j hj =>
    rw [areaV_can hj]
    have hc := (rc_area (can_ok g.fine hj)).1
    dsimp only; omega
theorem nsur_bd {h : Hal} (g : h.fine) : 0 < nsur h ∧ nsur h ≤ 18 := by
  have := g.le
  unfold nsur; omega
theorem sumS_bd {h : Hal} {s : Stg} (g : Sit h s) (b : Int) : ∀ k : Nat, (k : Int) ≤ nsur h → (0 ≤ (sumS h s b k).1 ∧ (sumS h s b k).1 ≤ 600000002000 * k) ∧ (0 ≤ (sumS h s b k).2 ∧ (sumS h s b k).2 ≤ 600000002000 * k)
  | 0, _ => by simp [sumS]
  | k + 1, hk => by
    have ih := sumS_bd g b k (by omega)
    have hi : SK h k := sk_of (by omega) (by omega)
    have a := areaV_bd g hi
    have c := absK_bd g (b := b) hi
    have m1 := mul_abs (a := (areaV h k).1) (b := absK h s b k) (A := 300000001) (B := 2000) (by omega) (by omega) (by omega) (by omega)
    have m2 := mul_abs (a := (areaV h k).2) (b := absK h s b k) (A := 300000001) (B := 2000) (by omega) (by omega) (by omega) (by omega)
    have n1 : 0 ≤ (areaV h k).1 * absK h s b k := Int.mul_nonneg (by omega) (by omega)
    have n2 : 0 ≤ (areaV h k).2 * absK h s b k := Int.mul_nonneg (by omega) (by omega)
    rw [sumS]
    dsimp only
    omega
noncomputable def absV (h : Hal) (s : Stg) (b : Int) : Int × Int := ((sumS h s b (nsur h).toNat).1 / 1000, ((sumS h s b (nsur h).toNat).2 + 999) / 1000)
def bandE (h : Hal) (s : Stg) (b : Int) : Int := if serr h s = 0 then (if within b 0 3 then 0 else 6) else serr h s
noncomputable def absA (h : Hal) (s : Stg) (b : Int) : Int × Int := if bandE h s b = 0 then absV h s b else (0, 0)
set_option maxRecDepth 100000 in
set_option maxHeartbeats 16000000 in
theorem c28 {h : Hal} (hk : h.ok) {s : Stg} (hs : s.few) (b : Int) : PCall Tryz.prog 191 [h.av, s.av, I b] ⟨.tup [.agg [I (absA h s b).1, I (absA h s b).2], I (bandE h s b)], []⟩ := by
  have hk0 := one_ok (c83 hk hs) (one_ok (c84 hk.f s) k78_ok)
  by_cases he : serr h s = 0
  · have g := sit_of hk hs he
    have hn := nsur_bd g.fine
    cases hw : within b 0 3 with
    | false =>
      have e1 : bandE h s b = 6 := by unfold bandE; rw [if_pos he, hw]; rfl
      have e2 : absA h s b = (0, 0) := by unfold absA; rw [if_neg (by omega)]
      rw [e1, e2]
      rw [he] at hk0
      refine bs.pv (sx := nos) hk0 Tryz.func191 (by kernel_rfl) (by kernel_rfl) rfl ?_
      repeat' (first | refine wk1 ?_ | (refine wk2 ?_ ?_ <;> intro _) | refine wk4 ?_ | fail); all_goals (conv => whnf)
      · exact ret_of rfl rfl
      all_goals (exfalso; simp_all; done)
    | true =>
      have e1 : bandE h s b = 0 := by unfold bandE; rw [if_pos he, hw]; rfl
      have e2 : absA h s b = absV h s b := by unfold absA; rw [if_pos e1]
      have hb := within_iff.1 hw
      rw [e1, e2]
      rw [he] at hk0
      have hb4 : b = 0 ∨ b = 1 ∨ b = 2 ∨ b = 3 := by omega
      clear hb
      refine bs.pv (sx := nos) hk0 Tryz.func191 (by kernel_rfl) (by kernel_rfl) rfl ?_
      repeat' (first | refine wk1 ?_ | (refine wk2 ?_ ?_ <;> intro _) | refine wk4 ?_ | fail); all_goals (conv => whnf)
      · exfalso; simp_all; done
      refine loopV (S := Nat × Int × Int × Int) (fun t => (nsur h).toNat - t.1) (fun t => [(2, I b), (6, .ptr 2 0 0), (8, .ptr 3 0 0), (10, .ptr 4 0 0), (31, I (nsur h)), (32, I t.2.1)]) (fun t => [(4, .row 2 [[I t.2.2.1, I t.2.2.2]] true false), (3, .row 11 [stgL h s] true false), (2, .row 2 [[I 0, I 0]] true false)]) 5 5
        (fun t => t.2.1 = t.1 ∧ (t.1 : Int) ≤ nsur h ∧ t.2.2 = sumS h s b t.1) (0, 0, 0, 0) ⟨rfl, by omega, rfl⟩ (Nat.le_refl _) [] rfl (kps) (kps) ?_
      rintro ⟨k, i, lo, hi⟩ ⟨hi1, hk1, hS⟩
      dsimp only at hi1 hk1 hS ⊢
      subst hi1
      have hB := sumS_bd g b k hk1
      rw [← hS] at hB
      dsimp only at hB
      by_cases hlt : (k : Int) < nsur h
      · have hsk : SK h k := sk_of (by omega) hlt
        have hA := areaV_bd g hsk
        have hK := absK_bd g (b := b) hsk
        have hstep : ∀ M, M = absK h s b k → (IntKind.i64.wrap (lo + IntKind.i64.wrap ((areaV h k).1 * M)), IntKind.i64.wrap (hi + IntKind.i64.wrap ((areaV h k).2 * M))) = sumS h s b (k + 1) := by
          rintro M rfl
          have hB2 := sumS_bd g b (k + 1) (by omega)
          have m1 := mul_abs (a := (areaV h k).1) (b := absK h s b k) (A := 300000001) (B := 2000) (by omega) (by omega) (by omega) (by omega)
          have m2 := mul_abs (a := (areaV h k).2) (b := absK h s b k) (A := 300000001) (B := 2000) (by omega) (by omega) (by omega) (by omega)
          rw [sumS, ← hS]
          rw [W_eq (n := (areaV h k).1 * absK h s b k) (by omega) (by omega), W_eq (n := (areaV h k).2 * absK h s b k) (by omega) (by omega), W_eq (by omega) (by omega), W_eq (by omega) (by omega)]
        have hkk := one_ok (c85 g hsk) (one_ok (c86 g hsk) (one_ok (c87 g.ok.f s hsk) pt0_ok))
        have habs : absK h s b k = if isK h k then absB (matS h s k) b * 2 else absB (matS h s k) b := rfl
        generalize matS h s k = m at *
        have hb0 : 0 ≤ absB m b ∧ absB m b ≤ 1000 := hK.1
        have hn18 := hn.2
        clear hK hA hB hS
        cases hc : isK h k
        · rw [hc, if_neg (by simp)] at habs
          rw [hc, show canV h k = .agg canZ by unfold canV; rw [hc]] at hkk
          rcases hb4 with rfl | rfl | rfl | rfl
          all_goals
            refine bs.av (sx := nos) hkk ?_
            repeat' (first | refine wk1 ?_ | (refine wk2 ?_ ?_ <;> intro _) | refine wk4 ?_ | fail); all_goals (conv => whnf)
            exact Done.mk ⟨(k + 1, _, _, _), [], rfl, kps, kps, ⟨W_succ (by omega), by omega, hstep _ habs.symm⟩, by dsimp only; omega⟩
        · rw [hc, if_pos rfl] at habs
          rw [hc, show canV h k = .agg (kat h k).av by unfold canV; rw [hc]] at hkk
          have hw2 : IntKind.i64.wrap (absB m b * 2) = absK h s b k := by rw [habs]; exact W_eq (by omega) (by omega)
          rcases hb4 with rfl | rfl | rfl | rfl
          all_goals
            refine bs.av (sx := nos) hkk ?_
            repeat' (first | refine wk1 ?_ | (refine wk2 ?_ ?_ <;> intro _) | refine wk4 ?_ | fail); all_goals (conv => whnf)
            exact Done.mk ⟨(k + 1, _, _, _), [], rfl, kps, kps, ⟨W_succ (by omega), by omega, hstep _ hw2⟩, by dsimp only; omega⟩
      · have hkn : k = (nsur h).toNat := by omega
        have hV : absV h s b = (lo / 1000, (hi + 999) / 1000) := by unfold absV; rw [← hkn, ← hS]
        have w1 : IntKind.i64.wrap (lo.tdiv 1000) = lo / 1000 := by rw [Int.tdiv_eq_ediv_of_nonneg (by omega)]; exact W_eq (by omega) (by omega)
        have w2 : IntKind.i64.wrap (hi + 1000) = hi + 1000 := W_eq (by omega) (by omega)
        have w3 : IntKind.i64.wrap (hi + 1000 - 1) = hi + 999 := by rw [W_eq (by omega) (by omega)]; omega
        have w4 : IntKind.i64.wrap ((hi + 999).tdiv 1000) = (hi + 999) / 1000 := by rw [Int.tdiv_eq_ediv_of_nonneg (by omega)]; exact W_eq (by omega) (by omega)
        rw [hV]
        refine bs.av (sx := nos) pt0_ok ?_
        repeat' (first | refine wk1 ?_ | (refine wk2 ?_ ?_ <;> intro _) | refine wk4 ?_ | fail); all_goals (conv => whnf)
        exact ret_of (by rw [w1, w2, w3, w4]) rfl
  · have e1 : bandE h s b = serr h s := by unfold bandE; rw [if_neg he]
    have e2 : absA h s b = (0, 0) := by unfold absA; rw [if_neg (by omega)]
    rw [e1, e2]
    refine bs.pv (sx := nos) hk0 Tryz.func191 (by kernel_rfl) (by kernel_rfl) rfl ?_
    repeat' (first | refine wk1 ?_ | (refine wk2 ?_ ?_ <;> intro _) | refine wk4 ?_ | fail); all_goals (conv => whnf)
    exact ret_of rfl rfl
end Go.Proofs.YtddhjopopelkjaaGreat
namespace Go.Proofs.YtddhjopopelkjaaGreat
open Go Go.Sx

theorem n03 : ¬ (0 : Int) = 3 := by decide
theorem n13 : ¬ (1 : Int) = 3 := by decide
theorem n23 : ¬ (2 : Int) = 3 := by decide
theorem kind3 (h : Hal) {i : Int} (hi : SK h i) : decide ((kindV h i).1 = 3) = isK h i := by
  unfold kindV isK
  split
  · rw [decide_eq_false (by first | exact n03 | exact n13 | exact n23), decide_eq_false (by omega)]
  · split
    · rw [decide_eq_false (by first | exact n03 | exact n13 | exact n23), decide_eq_false (by omega)]
    · split
      · rw [decide_eq_false (by first | exact n03 | exact n13 | exact n23), decide_eq_false (by omega)]
      · rw [decide_eq_true (by rfl)]
        symm; apply decide_eq_true
        cases hi <;> omega
set_option maxRecDepth 100000 in
set_option maxHeartbeats 16000000 in
theorem c31 {h : Hal} {s : Stg} (g : Sit h s) {b : Int} (hw : within b 0 3 = true) : PCall Tryz.prog 146 [h.av, s.av, I b] ⟨.agg [I (absV h s b).1, I (absV h s b).2], []⟩ := by
  have hn := nsur_bd g.fine
  have hb := within_iff.1 hw
  have hb4 : b = 0 ∨ b = 1 ∨ b = 2 ∨ b = 3 := by omega
  clear hb
  have hBo := sumS_bd g b (nsur h).toNat (by omega)
  have hko := one_ok (c90 (n := (sumS h s b (nsur h).toNat).1) (b := 1000) (by decide) (by omega) (by omega)) (one_ok (c91 (n := (sumS h s b (nsur h).toNat).2) (b := 1000) (by decide) (by omega) (by omega)) pt0_ok)
  refine bs.pv (sx := nos) hko Tryz.func146 (by kernel_rfl) (by kernel_rfl) rfl ?_
  repeat' (first | refine wk0 ?_ | (refine wk2 ?_ ?_ <;> intro _) | refine wk4 ?_ | fail); all_goals (conv => whnf)
  conv => whnf
  refine loopV (S := Nat × Int × Int × Int) (fun t => (nsur h).toNat - t.1) (fun t => [(3, .ptr 0 0 0), (4, .ptr 1 0 0), (2, I b), (6, .ptr 2 0 0), (7, I t.2.2.1), (8, I t.2.2.2), (9, I t.2.1)]) (fun t => [(2, .row 2 [[I 0, I 0]] true false), (1, .row 2 [[.isl 1 (nl s.hs), .isl 1 (nl s.dr)]] true false), (0, .row 9 [h.cells] true false)]) 3 3
    (fun t => t.2.1 = t.1 ∧ (t.1 : Int) ≤ nsur h ∧ t.2.2 = sumS h s b t.1) (0, 0, 0, 0) ⟨rfl, by omega, rfl⟩ (Nat.le_refl _) [] rfl (kps) (kps) ?_
  rintro ⟨k, i, lo, hi⟩ ⟨hi1, hk1, hS⟩
  dsimp only at hi1 hk1 hS ⊢
  subst hi1
  have hB := sumS_bd g b k hk1
  rw [← hS] at hB
  dsimp only at hB
  have hk0 := one_ok (c88 g.ok.f (k : Int)) pt0_ok
  by_cases hlt : (k : Int) < nsur h
  · have hsk : SK h k := sk_of (by omega) hlt
    have hA := areaV_bd g hsk
    have hK := absK_bd g (b := b) hsk
    have hstep : ∀ M, M = absK h s b k → (IntKind.i64.wrap (lo + IntKind.i64.wrap ((areaV h k).1 * M)), IntKind.i64.wrap (hi + IntKind.i64.wrap ((areaV h k).2 * M))) = sumS h s b (k + 1) := by
      rintro M rfl
      have m1 := mul_abs (a := (areaV h k).1) (b := absK h s b k) (A := 300000001) (B := 2000) (by omega) (by omega) (by omega) (by omega)
      have m2 := mul_abs (a := (areaV h k).2) (b := absK h s b k) (A := 300000001) (B := 2000) (by omega) (by omega) (by omega) (by omega)
      rw [sumS, ← hS]
      rw [W_eq (n := (areaV h k).1 * absK h s b k) (by omega) (by omega), W_eq (n := (areaV h k).2 * absK h s b k) (by omega) (by omega), W_eq (by omega) (by omega), W_eq (by omega) (by omega)]
    have hin : within (k : Int) 0 (nsur h - 1) = true := within_iff.2 ⟨by omega, by omega⟩
    rw [hin] at hk0
    have hkk := one_ok (c58 g hsk) (one_ok (c62 g hsk) (one_ok (c89 g.ok.f hsk) hk0))
    have h3 := kind3 h hsk
    have habs : absK h s b k = if isK h k then absB (matS h s k) b * 2 else absB (matS h s k) b := rfl
    generalize matS h s k = m at *
    have hb0 : 0 ≤ absB m b ∧ absB m b ≤ 1000 := hK.1
    have hn18 := hn.2
    clear hK hA hB hS
    generalize kindV h k = kv at *
    cases hc : isK h k
    · rw [hc, if_neg (by simp)] at habs
      rw [hc] at h3
      have h3' := of_decide_eq_false h3
      rcases hb4 with rfl | rfl | rfl | rfl
      all_goals
        refine bs.av (sx := nos) hkk ?_
        repeat' (first | refine wk1 ?_ | (refine wk2 ?_ ?_ <;> intro _) | refine wk4 ?_ | fail); all_goals (conv => whnf)
        exact Done.mk ⟨(k + 1, _, _, _), [], rfl, kps, kps, ⟨W_succ (by omega), by omega, hstep _ habs.symm⟩, by dsimp only; omega⟩
    · rw [hc, if_pos rfl] at habs
      rw [hc] at h3
      have h3' := of_decide_eq_true h3
      have hw2 : IntKind.i64.wrap (2 * absB m b) = absK h s b k := by rw [habs, Int.mul_comm]; exact W_eq (by omega) (by omega)
      rcases hb4 with rfl | rfl | rfl | rfl
      all_goals
        refine bs.av (sx := nos) hkk ?_
        repeat' (first | refine wk1 ?_ | (refine wk2 ?_ ?_ <;> intro _) | refine wk4 ?_ | fail); all_goals (conv => whnf)
        exact Done.mk ⟨(k + 1, _, _, _), [], rfl, kps, kps, ⟨W_succ (by omega), by omega, hstep _ hw2⟩, by dsimp only; omega⟩
  · have hkn : k = (nsur h).toNat := by omega
    have hin : within (k : Int) 0 (nsur h - 1) = false := by
      cases hx : within (k : Int) 0 (nsur h - 1)
      · rfl
      · have := within_iff.1 hx; omega
    rw [hin] at hk0
    have e1 : lo = (sumS h s b (nsur h).toNat).1 := by rw [← hkn, ← hS]
    have e2 : hi = (sumS h s b (nsur h).toNat).2 := by rw [← hkn, ← hS]
    have hV : absV h s b = ((sumS h s b (nsur h).toNat).1 / 1000, -((-(sumS h s b (nsur h).toNat).2) / 1000)) := by unfold absV; exact Prod.ext rfl (by dsimp only; omega)
    rw [hV, e1, e2]
    refine bs.av (sx := nos) hk0 ?_
    repeat' (first | refine wk1 ?_ | (refine wk2 ?_ ?_ <;> intro _) | refine wk4 ?_ | fail); all_goals (conv => whnf)
    exact ret_of rfl rfl
end Go.Proofs.YtddhjopopelkjaaGreat
namespace Go.Proofs.YtddhjopopelkjaaGreat
open Go Go.Sx

/-! ### Divisors -/
def i64 (n : Int) : Prop := -9223372036854775808 ≤ n ∧ n ≤ 9223372036854775807
theorem size_W {a : Int} (h : i64 a) : size a = IntKind.i64.wrap (a.natAbs : Int) := by
  unfold size imax
  obtain ⟨h1, h2⟩ := h
  by_cases h3 : a = -9223372036854775808
  · subst h3; decide
  · rw [W_eq (n := 0 - a) (by omega) (by omega), W_eq (by omega) (by omega)]
    by_cases h4 : a < 0 - a
    · rw [decide_eq_true h4]; simp only [cond_true]; omega
    · rw [decide_eq_false h4]; simp only [cond_false]; omega
theorem i64_W (a : Int) : i64 (IntKind.i64.wrap a) := by unfold i64; simp only [IntKind.wrap_i64]; omega
theorem natAbs_W {g : Nat} (h : g ≤ 9223372036854775808) : (IntKind.i64.wrap (g : Int)).natAbs = g := by
  by_cases h3 : g = 9223372036854775808
  · subst h3; decide
  · rw [W_eq (by omega) (by omega)]; simp
theorem tmod_i64 {a b : Int} (ha : i64 a) (hb : b ≠ 0) : i64 (a.tmod b) := by
  obtain ⟨h1, h2⟩ := ha
  have h3 : (a.tmod b).natAbs ≤ a.natAbs := by rw [Int.natAbs_tmod]; exact Nat.mod_le _ _
  have h4 : 0 ≤ a → 0 ≤ a.tmod b := fun h => Int.tmod_nonneg b h
  have h5 : a ≤ 0 → a.tmod b ≤ 0 := fun h => by have := Int.tmod_nonneg b (a := -a) (by omega); rw [Int.neg_tmod] at this; omega
  unfold i64
  omega
theorem gcd_step {a b : Int} : Nat.gcd b.natAbs (a.tmod b).natAbs = Nat.gcd a.natAbs b.natAbs := by
  rw [Int.natAbs_tmod, Nat.gcd_comm, ← Nat.gcd_rec, Nat.gcd_comm]
end Go.Proofs.YtddhjopopelkjaaGreat
namespace Go.Proofs.YtddhjopopelkjaaGreat
open Go Go.Sx

/-! ### Points -/
def g4 (p : Pt) : Nat := Nat.gcd (Nat.gcd p.x.natAbs p.y.natAbs) (Nat.gcd p.z.natAbs p.d.natAbs)
structure Pt.wf (p : Pt) : Prop where
  x : i64 p.x
  y : i64 p.y
  z : i64 p.z
  d : i64 p.d
theorem gcd_le {a b : Int} (ha : i64 a) (hb : i64 b) : Nat.gcd a.natAbs b.natAbs ≤ 9223372036854775808 := by
  obtain ⟨a1, a2⟩ := ha
  obtain ⟨b1, b2⟩ := hb
  by_cases h : a.natAbs = 0
  · rw [h, Nat.gcd_zero_left]; omega
  · exact Nat.le_trans (Nat.gcd_le_left _ (by omega)) (by omega)
theorem g4_le {p : Pt} (hp : p.wf) (hd : 0 < p.d) : 0 < g4 p ∧ (g4 p : Int) ≤ p.d := by
  have h1 : g4 p ∣ p.d.natAbs := Nat.dvd_trans (Nat.gcd_dvd_right _ _) (Nat.gcd_dvd_right _ _)
  have h2 := Nat.le_of_dvd (by omega) h1
  have h3 : 0 < g4 p := Nat.pos_of_dvd_of_pos h1 (by omega)
  omega
/-- The bounds of a point. -/
def ptIn (p : Pt) : Bool := within p.x (-(5000 * p.d)) (5000 * p.d) && within p.y (-(5000 * p.d)) (5000 * p.d) && within p.z (-(5000 * p.d)) (5000 * p.d)
def ptErr (p : Pt) : Int := if p.d ≤ 0 ∨ g4 p ≠ 1 then 3 else if 100000 < p.d then 2 else if ptIn p then 0 else 2
theorem ptErr_zero {p : Pt} (h : ptErr p = 0) : 0 < p.d ∧ p.d ≤ 100000 ∧ g4 p = 1 ∧ ptIn p = true := by
  unfold ptErr at h
  split at h
  · cases h
  · rename_i h1
    split at h
    · cases h
    · split at h
      · rename_i h3; exact ⟨by omega, by omega, by omega, h3⟩
      · cases h

/-! The program's divisor of four numbers. -/
theorem gcd4_assoc (a b c d : Nat) : Nat.gcd (Nat.gcd (Nat.gcd a b) c) d = Nat.gcd (Nat.gcd a b) (Nat.gcd c d) := by rw [Nat.gcd_assoc (Nat.gcd a b)]
def gl : Nat → List Int → Nat
  | g, [] => g
  | g, n :: l => gl (Nat.gcd g n.natAbs) l
theorem most_eq {d : Int} (h0 : 0 < d) (h1 : d ≤ 100000) : IntKind.i64.wrap (5000 * d) = 5000 * d ∧ IntKind.i64.wrap (0 - IntKind.i64.wrap (5000 * d)) = -(5000 * d) := by
  have e : IntKind.i64.wrap (5000 * d) = 5000 * d := W_eq (by omega) (by omega)
  refine ⟨e, ?_⟩
  rw [e, W_eq (by omega) (by omega)]; omega
noncomputable abbrev gcds : List AV → Option PRes := famA (fun p : Int × Int => i64 p.1 ∧ i64 p.2) (fun p => [I p.1, I p.2]) (fun p => ⟨I (IntKind.i64.wrap ((Nat.gcd p.1.natAbs p.2.natAbs : Nat) : Int)), []⟩)
theorem gcds_hit {a b : Int} (ha : i64 a) (hb : i64 b) : gcds [I a, I b] = some ⟨I (IntKind.i64.wrap ((Nat.gcd a.natAbs b.natAbs : Nat) : Int)), []⟩ :=
  famA_hit (p := fun p : Int × Int => i64 p.1 ∧ i64 p.2) (g := fun p => [I p.1, I p.2]) (r := fun p => ⟨I (IntKind.i64.wrap ((Nat.gcd p.1.natAbs p.2.natAbs : Nat) : Int)), []⟩) (k := (a, b)) (fun j hj => by
    simp only [List.cons.injEq, AV.int.injEq, true_and, and_true] at hj
    obtain ⟨h1, h2⟩ := hj
    dsimp only
    rw [h1, h2]) ⟨ha, hb⟩
/-! ### HallInside -/
def insE (h : Hal) (p : Pt) : Int := if h.err = 0 then ptErr p else h.err
theorem ptOk_of {p : Pt} (h : ptErr p = 0) : PtOk p.x p.y p.d := by
  obtain ⟨h1, h2, _, h4⟩ := ptErr_zero h
  unfold ptIn at h4
  simp only [Bool.and_eq_true, within_iff] at h4
  exact ⟨h1, by omega, by omega, by omega⟩
end Go.Proofs.YtddhjopopelkjaaGreat
namespace Go.Proofs.YtddhjopopelkjaaGreat
open Go Go.Sx

/-! ### Where a way crosses a surface: contracts -/
/-- In the program: the point lies well in the surface. -/
def wellW (h : Hal) (w : Wl) (p : Pt) : Bool := !(decide (p.z ≤ 0) || decide (IntKind.i64.wrap (h.ht * p.d) ≤ p.z)) && (if w.fx = w.tx then decide (IntKind.i64.wrap (imin w.fy w.ty * p.d) < p.y) && decide (p.y < IntKind.i64.wrap (imax w.fy w.ty * p.d)) else decide (IntKind.i64.wrap (imin w.fx w.tx * p.d) < p.x) && decide (p.x < IntKind.i64.wrap (imax w.fx w.tx * p.d)))
def wellP (h : Hal) (i : Int) (p : Pt) : Bool := if i < h.ws.length then wellW h (wlOf h.cs i.toNat) p else if i < (h.ws.length : Int) + 2 then inPlan h p.x p.y p.d else (kat h i).rc.holds p.x p.y p.d
theorem wellP_wall {h : Hal} {k : Nat} {p : Pt} (hk : k < h.ws.length) : wellP h k p = wellW h (wlOf h.cs k) p := by unfold wellP; rw [if_pos (by omega)]; rfl
theorem wellP_floor {h : Hal} {p : Pt} : wellP h h.ws.length p = inPlan h p.x p.y p.d := by unfold wellP; rw [if_neg (by omega), if_pos (by omega)]
theorem wellP_ceil {h : Hal} {p : Pt} : wellP h ((h.ws.length : Int) + 1) p = inPlan h p.x p.y p.d := by unfold wellP; rw [if_neg (by omega), if_pos (by omega)]
theorem wellP_can {h : Hal} {j : Nat} {p : Pt} (hj : j < h.ks.length) : wellP h ((h.ws.length : Int) + 2 + j) p = h.ks[j].rc.holds p.x p.y p.d := by unfold wellP; rw [if_neg (by omega), if_neg (by omega), kat_eq hj]
/-! In the reference. -/
def wellC (c : Can) (p : Pt) : Bool := inBnd c p && !decide (p.x = IntKind.i64.wrap (c.fx * p.d)) && !decide (p.x = IntKind.i64.wrap (c.tx * p.d)) && !decide (p.y = IntKind.i64.wrap (c.fy * p.d)) && !decide (p.y = IntKind.i64.wrap (c.ty * p.d))
def wellL (h : Hal) (l : Ln) (p : Pt) : Bool := within (l.along p) 1 (IntKind.i64.wrap (IntKind.i64.wrap (l.full * p.d) - 1)) && within p.z 1 (IntKind.i64.wrap (IntKind.i64.wrap (h.ht * p.d) - 1))
def wellR (h : Hal) (i : Int) (p : Pt) : Bool := if i < h.ws.length then wellL h (lnOf h.cs i.toNat) p else if i < (h.ws.length : Int) + 2 then inPlanR h p else wellC (kat h i) p
theorem wellR_wall {h : Hal} {k : Nat} {p : Pt} (hk : k < h.ws.length) : wellR h k p = wellL h (lnOf h.cs k) p := by unfold wellR; rw [if_pos (by omega)]; rfl
theorem wellR_floor {h : Hal} {p : Pt} : wellR h h.ws.length p = inPlanR h p := by unfold wellR; rw [if_neg (by omega), if_pos (by omega)]
theorem wellR_ceil {h : Hal} {p : Pt} : wellR h ((h.ws.length : Int) + 1) p = inPlanR h p := by unfold wellR; rw [if_neg (by omega), if_pos (by omega)]
theorem wellR_can {h : Hal} {j : Nat} {p : Pt} (hj : j < h.ks.length) : wellR h ((h.ws.length : Int) + 2 + j) p = wellC h.ks[j] p := by unfold wellR; rw [if_neg (by omega), if_neg (by omega), kat_eq hj]
end Go.Proofs.YtddhjopopelkjaaGreat
namespace Go.Proofs.YtddhjopopelkjaaGreat
open Go Go.Sx

/-! ### Plain law: weights of both ends of a way -/
theorem lt_pos {a b c : Int} (hc : 0 < c) : a * c < b * c ↔ a < b := ⟨fun h => Int.lt_of_mul_lt_mul_right h (by omega), fun h => Int.mul_lt_mul_of_pos_right h hc⟩
theorem le_pos {a b c : Int} (hc : 0 < c) : a * c ≤ b * c ↔ a ≤ b := ⟨fun h => Int.le_of_mul_le_mul_right h hc, fun h => Int.mul_le_mul_of_nonneg_right h (by omega)⟩
theorem pos_l {a c : Int} (hc : 0 < c) : 0 < c * a ↔ 0 < a := by rw [Int.mul_comm]; have := lt_pos (a := 0) (b := a) hc; rwa [Int.zero_mul] at this
theorem neg_l {a c : Int} (hc : 0 < c) : c * a < 0 ↔ a < 0 := by rw [Int.mul_comm]; have := lt_pos (a := a) (b := 0) hc; rwa [Int.zero_mul] at this
theorem nn_l {a c : Int} (hc : 0 < c) : 0 ≤ c * a ↔ 0 ≤ a := by rw [Int.mul_comm]; have := le_pos (a := 0) (b := a) hc; rwa [Int.zero_mul] at this
theorem np_l {a c : Int} (hc : 0 < c) : c * a ≤ 0 ↔ a ≤ 0 := by rw [Int.mul_comm]; have := le_pos (a := a) (b := 0) hc; rwa [Int.zero_mul] at this
theorem imin_eq (a b : Int) : imin a b = min a b := by
  unfold imin; by_cases h : b < a <;> simp [h] <;> omega
theorem imax_eq (a b : Int) : imax a b = max a b := by
  unfold imax; by_cases h : a < b <;> simp [h] <;> omega
theorem min_mul {a b d : Int} (hd : 0 < d) : min a b * d = min (a * d) (b * d) := by
  rcases Int.le_total a b with h | h
  · rw [Int.min_eq_left h, Int.min_eq_left (Int.mul_le_mul_of_nonneg_right h (by omega))]
  · rw [Int.min_eq_right h, Int.min_eq_right (Int.mul_le_mul_of_nonneg_right h (by omega))]
theorem max_mul {a b d : Int} (hd : 0 < d) : max a b * d = max (a * d) (b * d) := by
  rcases Int.le_total a b with h | h
  · rw [Int.max_eq_right h, Int.max_eq_right (Int.mul_le_mul_of_nonneg_right h (by omega))]
  · rw [Int.max_eq_left h, Int.max_eq_left (Int.mul_le_mul_of_nonneg_right h (by omega))]
/-- Some positive weights of both ends keep two numbers from being negative. -/
def spans (a b c d : Int) : Prop := ∃ l m : Int, 0 < l ∧ 0 < m ∧ 0 ≤ l * a + m * b ∧ 0 ≤ l * c + m * d
theorem spans_swap {a b c d : Int} : spans a b c d ↔ spans b a d c :=
  ⟨fun ⟨l, m, h1, h2, h3, h4⟩ => ⟨m, l, h2, h1, by rw [Int.add_comm]; exact h3, by rw [Int.add_comm]; exact h4⟩, fun ⟨l, m, h1, h2, h3, h4⟩ => ⟨m, l, h2, h1, by rw [Int.add_comm]; exact h3, by rw [Int.add_comm]; exact h4⟩⟩
theorem spans_eq {a b c d : Int} (h1 : 0 < a + c) (h2 : 0 < b + d) (he : a * d = b * c) : spans a b c d ↔ 0 ≤ a ∧ 0 ≤ c := by
  constructor
  · rintro ⟨l, m, hl, hm, e1, e2⟩
    have hp : 0 < l * (a + c) + m * (b + d) := by have := Int.mul_pos hl h1; have := Int.mul_pos hm h2; omega
    have k1 : (l * a + m * b) * (a + c) = (l * (a + c) + m * (b + d)) * a := by grind
    have k2 : (l * c + m * d) * (a + c) = (l * (a + c) + m * (b + d)) * c := by grind
    have q1 := Int.mul_nonneg e1 (Int.le_of_lt h1)
    have q2 := Int.mul_nonneg e2 (Int.le_of_lt h1)
    rw [k1, nn_l hp] at q1
    rw [k2, nn_l hp] at q2
    exact ⟨q1, q2⟩
  · rintro ⟨ha, hc⟩
    refine ⟨1, 1, by omega, by omega, ?_, ?_⟩
    · have k : (a + c) * b = a * (b + d) := by grind
      have q := Int.mul_nonneg ha (Int.le_of_lt h2)
      rw [← k, nn_l h1] at q
      omega
    · have k : (a + c) * d = c * (b + d) := by grind
      have q := Int.mul_nonneg hc (Int.le_of_lt h2)
      rw [← k, nn_l h1] at q
      omega
theorem spans_gt {a b c d : Int} (h1 : 0 < a + c) (h2 : 0 < b + d) (he : b * c < a * d) : spans a b c d ↔ 0 < a ∧ 0 < d := by
  constructor
  · rintro ⟨l, m, hl, hm, e1, e2⟩
    constructor
    · by_cases ha : 0 < a
      · exact ha
      exfalso
      have q : (b + d) * a ≤ 0 := (np_l h2).2 (by omega)
      have q2 : (a + c) * b < 0 := by
        have : (a + c) * b = (b + d) * a + (b * c - a * d) := by grind
        omega
      have hb := (neg_l h1).1 q2
      have := (neg_l hm).2 hb
      have := (np_l hl).2 (show a ≤ 0 by omega)
      omega
    · by_cases hd : 0 < d
      · exact hd
      exfalso
      have q : (a + c) * d ≤ 0 := (np_l h1).2 (by omega)
      have q2 : (b + d) * c < 0 := by
        have : (b + d) * c = (a + c) * d + (b * c - a * d) := by grind
        omega
      have hb := (neg_l h2).1 q2
      have := (neg_l hl).2 hb
      have := (np_l hm).2 (show d ≤ 0 by omega)
      omega
  · rintro ⟨ha, hd⟩
    by_cases hb : 0 ≤ b
    · refine ⟨1, c.natAbs + 1, by omega, by omega, ?_, ?_⟩
      · have := Int.mul_nonneg (show (0 : Int) ≤ (c.natAbs : Int) + 1 by omega) hb
        omega
      · have := Int.mul_le_mul_of_nonneg_left (show 1 ≤ d by omega) (show (0 : Int) ≤ (c.natAbs : Int) + 1 by omega)
        omega
    by_cases hc : 0 ≤ c
    · refine ⟨-b, 1, by omega, by omega, ?_, ?_⟩
      · have := Int.mul_le_mul_of_nonneg_left (show 1 ≤ a by omega) (show (0 : Int) ≤ -b by omega)
        omega
      · have := Int.mul_nonneg (show 0 ≤ -b by omega) hc
        omega
    · refine ⟨-b, a, by omega, ha, ?_, ?_⟩
      · have : -b * a + a * b = 0 := by grind
        omega
      · have : -b * c + a * d = a * d - b * c := by grind
        omega
theorem spans_lt {a b c d : Int} (h1 : 0 < a + c) (h2 : 0 < b + d) (he : a * d < b * c) : spans a b c d ↔ 0 < b ∧ 0 < c := by
  rw [spans_swap]; exact spans_gt h2 h1 he

/-! ### A way in the plan meets a wall, strictly between its ends -/
/-- A point over a denominator. -/
structure P2d where
  x : Int
  y : Int
  d : Int
def bsP (w : Wl) (sx sy : Int) (p : P2d) : Int := bes w sx sy p.x p.y p.d
def alP (w : Wl) (sx sy : Int) (p : P2d) : Int := alo w sx sy p.x p.y p.d
def ful (n sx sy : Int) : Int := n * (sx * sx + sy * sy)
def meetW (w : Wl) (n sx sy : Int) (p q : P2d) : Prop := ∃ l m : Int, 0 < l ∧ 0 < m ∧ l * bsP w sx sy p + m * bsP w sx sy q = 0 ∧ 0 ≤ l * alP w sx sy p + m * alP w sx sy q ∧ l * alP w sx sy p + m * alP w sx sy q ≤ ful n sx sy * (l * p.d + m * q.d)
theorem ful_pos {w : Wl} {n sx sy : Int} (h : Str w n sx sy) : 0 < ful n sx sy := by
  have hn := h.hn
  have hxy := h.hxy
  unfold ful
  rcases h.hx with rfl | rfl | rfl <;> rcases h.hy with rfl | rfl | rfl <;> (try (exact absurd ⟨rfl, rfl⟩ hxy)) <;> simp <;> omega
theorem meetW_swap {w : Wl} {n sx sy : Int} {p q : P2d} : meetW w n sx sy p q ↔ meetW w n sx sy q p := by
  have key : ∀ p q, meetW w n sx sy p q → meetW w n sx sy q p := by
    rintro p q ⟨l, m, h1, h2, h3, h4, h5⟩
    refine ⟨m, l, h2, h1, by omega, by omega, ?_⟩
    rw [Int.add_comm (m * q.d)]; omega
  exact ⟨key _ _, key _ _⟩
/-- Along the line of a wall. -/
theorem meetW_flat {w : Wl} {n sx sy : Int} (h : Str w n sx sy) {p q : P2d} (h1 : bsP w sx sy p = 0) (h2 : bsP w sx sy q = 0) : meetW w n sx sy p q ↔ spans (alP w sx sy p) (alP w sx sy q) (ful n sx sy * p.d - alP w sx sy p) (ful n sx sy * q.d - alP w sx sy q) := by
  unfold meetW spans
  rw [h1, h2]
  constructor
  · rintro ⟨l, m, hl, hm, _, e1, e2⟩
    exact ⟨l, m, hl, hm, e1, by grind⟩
  · rintro ⟨l, m, hl, hm, e1, e2⟩
    exact ⟨l, m, hl, hm, by omega, e1, by grind⟩
/-- Beside the line, on one side. -/
theorem meetW_side {w : Wl} {n sx sy : Int} {p q : P2d} (h0 : ¬(bsP w sx sy p = 0 ∧ bsP w sx sy q = 0)) (h1 : 0 ≤ sgn (bsP w sx sy p) * sgn (bsP w sx sy q)) : ¬ meetW w n sx sy p q := by
  rintro ⟨l, m, hl, hm, e, _⟩
  have hs : ¬ (sgn (bsP w sx sy p) * sgn (bsP w sx sy q) < 0) := by omega
  rw [sgn_mul_neg] at hs
  generalize bsP w sx sy p = a at *
  generalize bsP w sx sy q = b at *
  by_cases ha : 0 < a
  · have := (pos_l hl).2 ha
    have := (nn_l hm).2 (show 0 ≤ b by omega)
    omega
  by_cases hb : a < 0
  · have := (neg_l hl).2 hb
    have := (np_l hm).2 (show b ≤ 0 by omega)
    omega
  have : a = 0 := by omega
  subst this
  have : m * b ≠ 0 := Int.mul_ne_zero (by omega) (by omega)
  omega
/-- The line is crossed. -/
theorem meetW_cross {w : Wl} {n sx sy : Int} {p q : P2d} {f g : Int} (hf : bsP w sx sy p = f) (hg : bsP w sx sy q = g) (h1 : f < 0 ∧ 0 < g) : meetW w n sx sy p q ↔ 0 ≤ g * alP w sx sy p - f * alP w sx sy q ∧ g * alP w sx sy p - f * alP w sx sy q ≤ ful n sx sy * (g * p.d - f * q.d) := by
  unfold meetW
  rw [hf, hg]
  generalize alP w sx sy p = a
  generalize alP w sx sy q = b
  generalize ful n sx sy = F
  constructor
  · rintro ⟨l, m, hl, hm, e, e1, e2⟩
    have k1 : g * (l * a + m * b) = l * (g * a - f * b) := by grind
    have k2 : g * (F * (l * p.d + m * q.d) - (l * a + m * b)) = l * (F * (g * p.d - f * q.d) - (g * a - f * b)) := by grind
    have q1 := (nn_l h1.2).2 e1
    have q2 := (nn_l h1.2).2 (show 0 ≤ F * (l * p.d + m * q.d) - (l * a + m * b) by omega)
    rw [k1, nn_l hl] at q1
    rw [k2, nn_l hl] at q2
    exact ⟨q1, by omega⟩
  · rintro ⟨e1, e2⟩
    refine ⟨g, -f, h1.2, by omega, by grind, ?_, ?_⟩
    · have : g * a + -f * b = g * a - f * b := by grind
      omega
    · have : g * a + -f * b = g * a - f * b := by grind
      have : g * p.d + -f * q.d = g * p.d - f * q.d := by grind
      rw [this]; omega

theorem sgn_mul_le {a b : Int} : sgn a * sgn b ≤ 0 ↔ ¬((0 < a ∧ 0 < b) ∨ (a < 0 ∧ b < 0)) := by
  unfold sgn
  split <;> split <;> (try split) <;> (try split) <;> simp <;> omega

/-! ### Rectangles -/
theorem rhas_iff {r : Rc} (hr : RcOk r) {x y d : Int} (hd : 0 < d ∧ d ≤ 1000000000000000) : r.has x y d = true ↔ 0 ≤ x - r.xl * d ∧ 0 ≤ r.xh * d - x ∧ 0 ≤ y - r.yl * d ∧ 0 ≤ r.yh * d - y := by
  obtain ⟨h1, h2, h3, h4, h5, h6⟩ := hr
  have c1 := coord_bd (f := r.xl) (d := d) (by omega) hd.1
  have c2 := coord_bd (f := r.xh) (d := d) (by omega) hd.1
  have c3 := coord_bd (f := r.yl) (d := d) (by omega) hd.1
  have c4 := coord_bd (f := r.yh) (d := d) (by omega) hd.1
  unfold Rc.has
  rw [W_eq (n := r.xl * d) (by omega) (by omega), W_eq (n := r.xh * d) (by omega) (by omega), W_eq (n := r.yl * d) (by omega) (by omega), W_eq (n := r.yh * d) (by omega) (by omega), Bool.and_eq_true, within_iff, within_iff]
  omega
theorem rholds_iff {r : Rc} (hr : RcOk r) {x y d : Int} (hd : 0 < d ∧ d ≤ 1000000000000000) : r.holds x y d = true ↔ 0 < x - r.xl * d ∧ 0 < r.xh * d - x ∧ 0 < y - r.yl * d ∧ 0 < r.yh * d - y := by
  obtain ⟨h1, h2, h3, h4, h5, h6⟩ := hr
  have c1 := coord_bd (f := r.xl) (d := d) (by omega) hd.1
  have c2 := coord_bd (f := r.xh) (d := d) (by omega) hd.1
  have c3 := coord_bd (f := r.yl) (d := d) (by omega) hd.1
  have c4 := coord_bd (f := r.yh) (d := d) (by omega) hd.1
  unfold Rc.holds
  rw [W_eq (n := r.xl * d) (by omega) (by omega), W_eq (n := r.xh * d) (by omega) (by omega), W_eq (n := r.yl * d) (by omega) (by omega), W_eq (n := r.yh * d) (by omega) (by omega)]
  simp only [Bool.and_eq_true, decide_eq_true_eq]
  omega
end Go.Proofs.YtddhjopopelkjaaGreat
namespace Go.Proofs.YtddhjopopelkjaaGreat
open Go Go.Sx

/-! ### Plain law: well met -/
/-- The number of a point in planes of a kind, without roundings. -/
def valN (k x y z : Int) : Int := if k = 0 then x else if k = 1 then y else if k = 2 then z else if k = 3 then x + y else x - y
theorem plW_str {w : Wl} {n sx sy : Int} (h : Str w n sx sy) : plW w = if sx = 0 then (0, w.fx) else if sy = 0 then (1, w.fy) else if sx = sy then (4, w.fx - w.fy) else (3, w.fx + w.fy) := by
  have hn := h.hn
  have b1 := h.b1
  have b2 := h.b2
  have hxy := h.hxy
  have w4 : IntKind.i64.wrap (w.fx - w.fy) = w.fx - w.fy := W_eq (by omega) (by omega)
  have w3 : IntKind.i64.wrap (w.fx + w.fy) = w.fx + w.fy := W_eq (by omega) (by omega)
  unfold plW
  rw [h.dx, h.dy, w3, w4]
  rcases h.hx with rfl | rfl | rfl <;> rcases h.hy with rfl | rfl | rfl <;> (try (exact absurd ⟨rfl, rfl⟩ hxy)) <;> simp only [Int.mul_zero, Int.mul_one, Int.mul_neg] <;> (repeat' split) <;> first | rfl | (exfalso; omega)
set_option maxHeartbeats 8000000 in
theorem wall_well {h : Hal} {w : Wl} {n sx sy : Int} (hs : Str w n sx sy) {p : Pt} (hp : PtOk p.x p.y p.d) (ht : 2 ≤ h.ht ∧ h.ht ≤ 5000) (hpl : valN (plW w).1 p.x p.y p.z = (plW w).2 * p.d) : wellW h w p = wellL h w.ln p := by
  obtain ⟨x, y, z, d⟩ := p
  dsimp only at hp hpl
  have hd := hp.hd
  have hD := hp.hD
  have nd := nd_bd hs.hn hs.nle hd
  have a1 := coord_bd hs.b1 hd
  have a2 := coord_bd hs.b2 hd
  have a3 := coord_bd hs.b3 hd
  have a4 := coord_bd hs.b4 hd
  have hz : IntKind.i64.wrap (h.ht * d) = h.ht * d ∧ IntKind.i64.wrap (h.ht * d - 1) = h.ht * d - 1 ∧ 0 < h.ht * d := by
    have := coord_bd (f := h.ht) (d := d) (by omega) hd
    have := Int.mul_pos (a := h.ht) (b := d) (by omega) hd
    exact ⟨W_eq (by omega) (by omega), W_eq (by omega) (by omega), this⟩
  unfold wellW wellL
  rw [along_eq hs hp, full_eq hs]
  rw [plW_str hs] at hpl
  unfold valN at hpl
  rw [imin_eq, imin_eq, imax_eq, imax_eq]
  dsimp only
  rw [hz.1, hz.2.1]
  rw [min_mul hd, min_mul hd, max_mul hd, max_mul hd]
  rw [W_eq (n := min (w.fx * d) (w.tx * d)) (by omega) (by omega), W_eq (n := max (w.fx * d) (w.tx * d)) (by omega) (by omega), W_eq (n := min (w.fy * d) (w.ty * d)) (by omega) (by omega), W_eq (n := max (w.fy * d) (w.ty * d)) (by omega) (by omega)]
  have etx := hs.tx
  have ety := hs.ty
  have b1 := hs.b1
  have b2 := hs.b2
  have hn := hs.hn
  have cnd : (w.fx = w.tx) ↔ sx = 0 := by
    rw [etx]
    constructor
    · intro e
      have : n * sx = 0 := by omega
      rcases Int.mul_eq_zero.1 this with h | h
      · omega
      · exact h
    · intro e; rw [e]; omega
  have ex : w.tx * d = w.fx * d + sx * (n * d) := by rw [etx]; grind
  have ey : w.ty * d = w.fy * d + sy * (n * d) := by rw [ety]; grind
  have full : n * (sx * sx + sy * sy) * d = (sx * sx + sy * sy) * (n * d) := by grind
  have d3 : (w.fx + w.fy) * d = w.fx * d + w.fy * d := by grind
  have d4 : (w.fx - w.fy) * d = w.fx * d - w.fy * d := by grind
  rw [full, ex, ey]
  unfold alo
  simp only [cnd]
  have hx := hs.hx
  have hy := hs.hy
  have hxy := hs.hxy
  clear full etx ety cnd hs hp hz
  generalize w.fx * d = A at *
  generalize w.fy * d = C at *
  generalize n * d = N at *
  generalize h.ht * d = H at *
  rcases hx with rfl | rfl | rfl <;> rcases hy with rfl | rfl | rfl <;> (try (exact absurd ⟨rfl, rfl⟩ hxy)) <;> simp [IntKind.wrap_i64] at hpl ⊢ <;> rw [Bool.eq_iff_iff] <;> simp [within_iff]
  all_goals omega
end Go.Proofs.YtddhjopopelkjaaGreat
namespace Go.Proofs.YtddhjopopelkjaaGreat
open Go Go.Sx

/-! ### Where a way crosses a surface: what both compute -/
structure Crs where
  su : Int
  fx : Int
  fy : Int
  fz : Int
  to : Pt
abbrev Crs.av (c : Crs) : AV := .agg [I c.su, I c.fx, I c.fy, I c.fz, I c.to.x, I c.to.y, I c.to.z, I c.to.d]
/-- Both ends less the plane. -/
def crF (pl : Int × Int) (c : Crs) : Int := valN pl.1 c.fx c.fy c.fz - pl.2
def crG (pl : Int × Int) (c : Crs) : Int := valN pl.1 c.to.x c.to.y c.to.z - pl.2 * c.to.d
/-- The point of the plane, for weights of both ends. -/
def crPt (c : Crs) (u v : Int) : Pt := ⟨c.fx * u + c.to.x * v, c.fy * u + c.to.y * v, c.fz * u + c.to.z * v, u + c.to.d * v⟩
def redP (p : Pt) : Pt := ⟨p.x / (g4 p : Int), p.y / (g4 p : Int), p.z / (g4 p : Int), p.d / (g4 p : Int)⟩
def iabs (n : Int) : Int := if n < 0 then -n else n
def crossP (pl : Int × Int) (c : Crs) : Pt := redP (crPt c (iabs (crG pl c)) (iabs (crF pl c)))
def ptZ : Pt := ⟨0, 0, 0, 0⟩
/-- The answer, with what 'well' means. -/
def crAns (well : Pt → Bool) (pl : Int × Int) (c : Crs) : Pt × Int :=
  if 0 ≤ sgn (crF pl c) * sgn (crG pl c) then (ptZ, 12)
  else if well (crossP pl c) then (if 100000 < (crossP pl c).d then (ptZ, 8) else (crossP pl c, 0))
  else (ptZ, 12)
structure CrOk (pl : Int × Int) (c : Crs) : Prop where
  k0 : 0 ≤ pl.1
  k4 : pl.1 ≤ 4
  at' : -10000 ≤ pl.2 ∧ pl.2 ≤ 10000
  fx : -45000 ≤ c.fx ∧ c.fx ≤ 45000
  fy : -45000 ≤ c.fy ∧ c.fy ≤ 45000
  fz : -45000 ≤ c.fz ∧ c.fz ≤ 45000
  d0 : 0 < c.to.d
  d1 : c.to.d ≤ 100000
  x : -(5000 * c.to.d) ≤ c.to.x ∧ c.to.x ≤ 5000 * c.to.d
  y : -(5000 * c.to.d) ≤ c.to.y ∧ c.to.y ≤ 5000 * c.to.d
  z : -(5000 * c.to.d) ≤ c.to.z ∧ c.to.z ≤ 5000 * c.to.d
theorem crF_bd {pl : Int × Int} {c : Crs} (h : CrOk pl c) : IntKind.i64.wrap (offN pl.1 c.fx c.fy c.fz - pl.2) = crF pl c ∧ IntKind.i64.wrap (offN pl.1 c.fx c.fy c.fz - IntKind.i64.wrap (pl.2 * 1)) = crF pl c ∧ -100000 ≤ crF pl c ∧ crF pl c ≤ 100000 := by
  obtain ⟨h1, h2, h3, h4, h5, h6, _⟩ := h
  unfold crF valN offN
  rw [Int.mul_one, W_eq (n := pl.2) (by omega) (by omega)]
  repeat' split
  all_goals (try rw [W_eq (n := c.fx + c.fy) (by omega) (by omega)])
  all_goals (try rw [W_eq (n := c.fx - c.fy) (by omega) (by omega)])
  all_goals (refine ⟨W_eq (by omega) (by omega), W_eq (by omega) (by omega), by omega, by omega⟩)
theorem crG_bd {pl : Int × Int} {c : Crs} (h : CrOk pl c) : IntKind.i64.wrap (offN pl.1 c.to.x c.to.y c.to.z - IntKind.i64.wrap (pl.2 * c.to.d)) = crG pl c ∧ -2000000000 ≤ crG pl c ∧ crG pl c ≤ 2000000000 := by
  obtain ⟨h1, h2, h3, h4, h5, h6, h7, h8, h9, h10, h11⟩ := h
  have m := mul_bd (a := pl.2) (b := c.to.d) (A := 10000) (B := 100000) (by omega) (by omega)
  unfold crG valN offN
  rw [W_eq (n := pl.2 * c.to.d) (by omega) (by omega)]
  generalize pl.2 * c.to.d = m at *
  repeat' split
  all_goals (try rw [W_eq (n := c.to.x + c.to.y) (by omega) (by omega)])
  all_goals (try rw [W_eq (n := c.to.x - c.to.y) (by omega) (by omega)])
  all_goals (refine ⟨W_eq (by omega) (by omega), by omega, by omega⟩)
theorem iabs_nn (n : Int) : 0 ≤ iabs n := by unfold iabs; split <;> omega
theorem crPt_bd {pl : Int × Int} {c : Crs} (h : CrOk pl c) {u v : Int} (hu : 0 ≤ u ∧ u ≤ 2000000000) (hv : 0 ≤ v ∧ v ≤ 100000) :
    (-90000000000000 ≤ c.fx * u ∧ c.fx * u ≤ 90000000000000) ∧ (-90000000000000 ≤ c.fy * u ∧ c.fy * u ≤ 90000000000000) ∧ (-90000000000000 ≤ c.fz * u ∧ c.fz * u ≤ 90000000000000) ∧
    (-50000000000000 ≤ c.to.x * v ∧ c.to.x * v ≤ 50000000000000) ∧ (-50000000000000 ≤ c.to.y * v ∧ c.to.y * v ≤ 50000000000000) ∧ (-50000000000000 ≤ c.to.z * v ∧ c.to.z * v ≤ 50000000000000) ∧ (0 ≤ c.to.d * v ∧ c.to.d * v ≤ 10000000000) := by
  obtain ⟨h1, h2, h3, h4, h5, h6, h7, h8, h9, h10, h11⟩ := h
  have m1 := mul_bd (a := c.fx) (b := u) (A := 45000) (B := 2000000000) (by omega) (by omega)
  have m2 := mul_bd (a := c.fy) (b := u) (A := 45000) (B := 2000000000) (by omega) (by omega)
  have m3 := mul_bd (a := c.fz) (b := u) (A := 45000) (B := 2000000000) (by omega) (by omega)
  have m4 := mul_bd (a := c.to.x) (b := v) (A := 500000000) (B := 100000) (by omega) (by omega)
  have m5 := mul_bd (a := c.to.y) (b := v) (A := 500000000) (B := 100000) (by omega) (by omega)
  have m6 := mul_bd (a := c.to.z) (b := v) (A := 500000000) (B := 100000) (by omega) (by omega)
  have m7 := mul_bd (a := c.to.d) (b := v) (A := 100000) (B := 100000) (by omega) (by omega)
  have m8 := Int.mul_nonneg (Int.le_of_lt h7) hv.1
  refine ⟨by omega, by omega, by omega, by omega, by omega, by omega, by omega, by omega⟩
/-- The point ahead of its lowest terms is within bounds. -/
structure Big (p : Pt) : Prop where
  x : -140000000000000 ≤ p.x ∧ p.x ≤ 140000000000000
  y : -140000000000000 ≤ p.y ∧ p.y ≤ 140000000000000
  z : -140000000000000 ≤ p.z ∧ p.z ≤ 140000000000000
  d : 0 < p.d ∧ p.d ≤ 12000000000
theorem Big.wf {p : Pt} (h : Big p) : p.wf := by
  obtain ⟨h1, h2, h3, h4⟩ := h
  exact ⟨⟨by omega, by omega⟩, ⟨by omega, by omega⟩, ⟨by omega, by omega⟩, ⟨by omega, by omega⟩⟩
theorem crPt_big {pl : Int × Int} {c : Crs} (h : CrOk pl c) {u v : Int} (hu : 0 < u ∧ u ≤ 2000000000) (hv : 0 < v ∧ v ≤ 100000) : Big (crPt c u v) := by
  have hb := crPt_bd h (u := u) (v := v) (by omega) (by omega)
  unfold crPt
  refine ⟨?_, ?_, ?_, ?_⟩ <;> dsimp only <;> omega
theorem g4_dvd (p : Pt) : ((g4 p : Int) ∣ p.x ∧ (g4 p : Int) ∣ p.y) ∧ ((g4 p : Int) ∣ p.z ∧ (g4 p : Int) ∣ p.d) := by
  unfold g4
  have a := Nat.gcd_dvd_left (Nat.gcd p.x.natAbs p.y.natAbs) (Nat.gcd p.z.natAbs p.d.natAbs)
  have b := Nat.gcd_dvd_right (Nat.gcd p.x.natAbs p.y.natAbs) (Nat.gcd p.z.natAbs p.d.natAbs)
  exact ⟨⟨Int.ofNat_dvd_left.2 (Nat.dvd_trans a (Nat.gcd_dvd_left _ _)), Int.ofNat_dvd_left.2 (Nat.dvd_trans a (Nat.gcd_dvd_right _ _))⟩, ⟨Int.ofNat_dvd_left.2 (Nat.dvd_trans b (Nat.gcd_dvd_left _ _)), Int.ofNat_dvd_left.2 (Nat.dvd_trans b (Nat.gcd_dvd_right _ _))⟩⟩
theorem tdiv_of_dvd {a g : Int} (hg : 0 < g) (h : g ∣ a) : a.tdiv g = a / g ∧ a / g * g = a ∧ (∀ B, -B ≤ a ∧ a ≤ B → -B ≤ a / g ∧ a / g ≤ B) := by
  obtain ⟨k, rfl⟩ := h
  rw [Int.mul_tdiv_cancel_left _ (by omega), Int.mul_ediv_cancel_left _ (by omega)]
  refine ⟨rfl, Int.mul_comm _ _, fun B hB => ?_⟩
  rcases Int.lt_or_le k 0 with hk | hk
  · have := Int.mul_le_mul_of_nonneg_right (show 1 ≤ g by omega) (show 0 ≤ -k by omega)
    have e : g * -k = -(g * k) := Int.mul_neg _ _
    omega
  · have := Int.mul_le_mul_of_nonneg_right (show 1 ≤ g by omega) hk
    omega
/-- A point in lowest terms. -/
theorem red_spec {p : Pt} (h : Big p) : (0 < (g4 p : Int) ∧ (g4 p : Int) ≤ 12000000000) ∧ (IntKind.i64.wrap (p.x.tdiv (g4 p)) = (redP p).x ∧ IntKind.i64.wrap (p.y.tdiv (g4 p)) = (redP p).y ∧ IntKind.i64.wrap (p.z.tdiv (g4 p)) = (redP p).z ∧ IntKind.i64.wrap (p.d.tdiv (g4 p)) = (redP p).d) ∧ Big (redP p) ∧ ((redP p).x * g4 p = p.x ∧ (redP p).y * g4 p = p.y ∧ (redP p).z * g4 p = p.z ∧ (redP p).d * g4 p = p.d) := by
  obtain ⟨g1, g2⟩ := g4_le h.wf h.d.1
  obtain ⟨⟨d1, d2⟩, d3, d4⟩ := g4_dvd p
  have hg : (0 : Int) < g4 p := by omega
  obtain ⟨x1, x2, x3⟩ := tdiv_of_dvd hg d1
  obtain ⟨y1, y2, y3⟩ := tdiv_of_dvd hg d2
  obtain ⟨z1, z2, z3⟩ := tdiv_of_dvd hg d3
  obtain ⟨e1, e2, e3⟩ := tdiv_of_dvd hg d4
  obtain ⟨h1, h2, h3, h4⟩ := h
  have x3 := x3 140000000000000 h1
  have y3 := y3 140000000000000 h2
  have z3 := z3 140000000000000 h3
  have e3 := e3 12000000000 (by omega)
  have hd : 0 < p.d / (g4 p : Int) := by
    rcases Int.lt_or_le 0 (p.d / (g4 p : Int)) with k | k
    · exact k
    · have := Int.mul_nonneg (show 0 ≤ -(p.d / (g4 p : Int)) by omega) (Int.le_of_lt hg)
      rw [Int.neg_mul] at this
      omega
  refine ⟨by omega, ⟨?_, ?_, ?_, ?_⟩, ⟨x3, y3, z3, hd, e3.2⟩, x2, y2, z2, e2⟩
  · rw [x1]; exact W_eq (by omega) (by omega)
  · rw [y1]; exact W_eq (by omega) (by omega)
  · rw [z1]; exact W_eq (by omega) (by omega)
  · rw [e1]; exact W_eq (by omega) (by omega)
theorem Big.ok {p : Pt} (h : Big p) : PtOk p.x p.y p.d := by
  obtain ⟨h1, h2, h3, h4⟩ := h
  exact ⟨h4.1, by omega, by omega, by omega⟩
/-- The weights. -/
theorem wts_of {pl : Int × Int} {c : Crs} (h : CrOk pl c) (hs : ¬ 0 ≤ sgn (crF pl c) * sgn (crG pl c)) : (0 < iabs (crG pl c) ∧ iabs (crG pl c) ≤ 2000000000) ∧ (0 < iabs (crF pl c) ∧ iabs (crF pl c) ≤ 100000) := by
  have h1 := (crF_bd h).2.2
  have h2 := (crG_bd h).2
  have h3 := sgn_mul_neg.1 (show sgn (crF pl c) * sgn (crG pl c) < 0 by omega)
  unfold iabs
  refine ⟨?_, ?_⟩ <;> split <;> omega
theorem cross_big {pl : Int × Int} {c : Crs} (h : CrOk pl c) (hs : ¬ 0 ≤ sgn (crF pl c) * sgn (crG pl c)) : Big (crPt c (iabs (crG pl c)) (iabs (crF pl c))) := by
  obtain ⟨a, b⟩ := wts_of h hs
  exact crPt_big h a b
theorem valN_lin (k a b c a' b' c' u v : Int) : valN k (a * u + a' * v) (b * u + b' * v) (c * u + c' * v) = valN k a b c * u + valN k a' b' c' * v := by
  unfold valN
  repeat' split
  all_goals grind
theorem valN_mul (k a b c g : Int) : valN k (a * g) (b * g) (c * g) = valN k a b c * g := by
  unfold valN
  repeat' split
  all_goals grind
/-- The point lies in the plane. -/
theorem cross_plane {pl : Int × Int} {c : Crs} (h : CrOk pl c) (hs : ¬ 0 ≤ sgn (crF pl c) * sgn (crG pl c)) : valN pl.1 (crossP pl c).x (crossP pl c).y (crossP pl c).z = pl.2 * (crossP pl c).d := by
  obtain ⟨⟨g1, _⟩, _, _, e1, e2, e3, e4⟩ := red_spec (cross_big h hs)
  have h3 := sgn_mul_neg.1 (show sgn (crF pl c) * sgn (crG pl c) < 0 by omega)
  have k : valN pl.1 (crPt c (iabs (crG pl c)) (iabs (crF pl c))).x (crPt c (iabs (crG pl c)) (iabs (crF pl c))).y (crPt c (iabs (crG pl c)) (iabs (crF pl c))).z = pl.2 * (crPt c (iabs (crG pl c)) (iabs (crF pl c))).d := by
    unfold crPt
    dsimp only
    rw [valN_lin]
    have hF : valN pl.1 c.fx c.fy c.fz = crF pl c + pl.2 := by unfold crF; omega
    have hG : valN pl.1 c.to.x c.to.y c.to.z = crG pl c + pl.2 * c.to.d := by unfold crG; omega
    rw [hF, hG]
    have : crF pl c * iabs (crG pl c) + crG pl c * iabs (crF pl c) = 0 := by
      unfold iabs
      rcases h3 with ⟨p1, p2⟩ | ⟨p1, p2⟩
      · rw [if_neg (by omega), if_pos p1]; grind
      · rw [if_pos p2, if_neg (by omega)]; grind
    grind
  unfold crossP
  rw [← e1, ← e2, ← e3, ← e4, valN_mul] at k
  generalize redP (crPt c (iabs (crG pl c)) (iabs (crF pl c))) = q at *
  have k2 : (valN pl.1 q.x q.y q.z - pl.2 * q.d) * (g4 (crPt c (iabs (crG pl c)) (iabs (crF pl c))) : Int) = 0 := by
    rw [Int.sub_mul, k]; grind
  rcases Int.mul_eq_zero.1 k2 with k3 | k3 <;> omega
end Go.Proofs.YtddhjopopelkjaaGreat
namespace Go.Proofs.YtddhjopopelkjaaGreat
open Go Go.Sx

/-! ### Canopies of a right hall -/
theorem can_all {h : Hal} (g : h.fine) {j : Nat} (hj : j < h.ks.length) : CanOk h.ks[j] ∧ hsErr h.ht none h.ks[j].hs = 0 := by
  have := g.can j hj
  unfold cErrR at this
  split at this
  · split at this
    · cases this
    · split at this
      · cases this
      · split at this
        · cases this
        · split at this
          · cases this
          · split at this
            · split at this
              · rename_i hz
                split at this
                · rename_i hp
                  split at this
                  · cases this
                  · rename_i hd
                    simp only [Bool.and_eq_true] at hp
                    simp only [Bool.or_eq_true, decide_eq_true_eq, not_or] at hd
                    exact ⟨⟨within_iff.1 hp.1.1.1, within_iff.1 hp.1.1.2, within_iff.1 hp.1.2, within_iff.1 hp.2, hd.1, hd.2⟩, hz⟩
                · cases this
              · rename_i hx; exact absurd this hx
            · cases this
  · cases this
theorem ite9 {b : Bool} {x : Int} (h : (if b = true then 9 else x) = 0) : x = 0 := by
  cases b
  · exact h
  · rw [if_pos rfl] at h; exact absurd h (by decide)
theorem hs_bd {ht : Int} (h0 : 2 ≤ ht ∧ ht ≤ 5000) : ∀ (l : List Int) (p : Option Int), hsErr ht p l = 0 → ∀ n ∈ l, 1 ≤ n ∧ n < ht
  | [], _, _, n, hn => by simp at hn
  | m :: l, p, h, n, hn => by
    rw [hsErr_cons] at h
    split at h
    · rename_i hw
      rw [W_eq (by omega) (by omega), within_iff] at hw
      have h2 := ite9 h
      rcases List.mem_cons.1 hn with rfl | hn
      · omega
      · exact hs_bd h0 l _ h2 n hn
    · cases h
theorem hgt_bd {h : Hal} {s : Stg} (g : Sit h s) {j : Nat} (hj : j < h.ks.length) : 1 ≤ hgtAt h s j ∧ hgtAt h s j < h.ht := by
  obtain ⟨n, e1, e2, e3, e4⟩ := hgt_facts g.set hj
  have hm : hgtAt h s j ∈ h.ks[j].hs := by
    have := List.mem_of_getElem? e4
    simp only [nl, List.mem_map, List.cons.injEq, AV.int.injEq, true_and, and_true] at this
    obtain ⟨m, hm, rfl⟩ := this
    exact hm
  exact hs_bd g.fine.ht _ _ (can_all g.fine hj).2 _ hm
theorem rcOk_of {c : Can} (h : CanOk c) : RcOk c.rc := by
  obtain ⟨h1, h2, h3, h4, h5, h6⟩ := h
  obtain ⟨⟨e1, e2⟩, e3, e4⟩ := rc_vals c
  refine ⟨?_, ?_, ?_, ?_, ?_, ?_⟩ <;> omega
theorem plane_bd {h : Hal} {s : Stg} (g : Sit h s) {i : Int} (hi : SK h i) : (0 ≤ (planeV h s i).1 ∧ (planeV h s i).1 ≤ 4) ∧ (-10000 ≤ (planeV h s i).2 ∧ (planeV h s i).2 ≤ 10000) := by
  have ht := g.fine.ht
  cases hi with
  | wall k hk =>
    have hk2 : k < h.cs.length := by have := g.fine.le; omega
    obtain ⟨n, sx, sy, hs⟩ := g.fine.st k hk2
    rw [planeV_wall hk, plW_str hs]
    have := hs.b1
    have := hs.b2
    repeat' split
    all_goals (dsimp only; omega)
  | floor => rw [planeV_floor]; dsimp only; omega
  | ceil => rw [planeV_ceil]; dsimp only; omega
  | can j hj =>
    rw [planeV_can]
    have := hgt_bd g hj
    dsimp only; omega

/-! ### Well met: both say the same of a point in the plane -/
theorem well_eq {h : Hal} {s : Stg} (g : Sit h s) {i : Int} (hi : SK h i) {p : Pt} (hp : PtOk p.x p.y p.d) (hpl : valN (planeV h s i).1 p.x p.y p.z = (planeV h s i).2 * p.d) : wellP h i p = wellR h i p := by
  cases hi with
  | wall k hk =>
    have hk2 : k < h.cs.length := by have := g.fine.le; omega
    obtain ⟨n, sx, sy, hs⟩ := g.fine.st k hk2
    rw [planeV_wall hk] at hpl
    rw [wellP_wall hk, wellR_wall hk, lnOf_eq]
    exact wall_well hs hp g.fine.ht hpl
  | floor =>
    rw [wellP_floor, wellR_floor]
    exact inPlan_eq g.fine.st p.z hp
  | ceil =>
    rw [wellP_ceil, wellR_ceil]
    exact inPlan_eq g.fine.st p.z hp
  | can j hj =>
    rw [wellP_can hj, wellR_can hj]
    have hr := rcOk_of (can_all g.fine hj).1
    have hd : 0 < p.d ∧ p.d ≤ 1000000000000000 := by have := hp.hd; have := hp.hD; omega
    have c0 := (can_all g.fine hj).1
    generalize h.ks[j] = c at *
    obtain ⟨⟨e1, e2⟩, e3, e4⟩ := rc_vals c
    have c1 := coord_bd c0.b1 hd.1
    have c2 := coord_bd c0.b2 hd.1
    have c3 := coord_bd c0.b3 hd.1
    have c4 := coord_bd c0.b4 hd.1
    rw [Bool.eq_iff_iff, rholds_iff hr hd, e1, e2, e3, e4]
    unfold wellC inBnd
    rw [imin_eq, imin_eq, imax_eq, imax_eq, min_mul hd.1, max_mul hd.1, min_mul hd.1, max_mul hd.1]
    rw [W_eq (n := c.fx * p.d) (by omega) (by omega), W_eq (n := c.tx * p.d) (by omega) (by omega), W_eq (n := c.fy * p.d) (by omega) (by omega), W_eq (n := c.ty * p.d) (by omega) (by omega)]
    rw [W_eq (n := min (c.fx * p.d) (c.tx * p.d)) (by omega) (by omega), W_eq (n := max (c.fx * p.d) (c.tx * p.d)) (by omega) (by omega), W_eq (n := min (c.fy * p.d) (c.ty * p.d)) (by omega) (by omega), W_eq (n := max (c.fy * p.d) (c.ty * p.d)) (by omega) (by omega)]
    simp only [Bool.and_eq_true, Bool.not_eq_true', decide_eq_false_iff_not, within_iff]
    omega

/-! ### Lowest terms -/
theorem cr_raw {p : Pt} (hb : Big p) {X Y Z D : Int} (hX : X = p.x) (hY : Y = p.y) (hZ : Z = p.z) (hD : D = p.d) :
    gcds [I X, I Y] = some ⟨I (IntKind.i64.wrap ((Nat.gcd p.x.natAbs p.y.natAbs : Nat) : Int)), []⟩ ∧ gcds [I Z, I D] = some ⟨I (IntKind.i64.wrap ((Nat.gcd p.z.natAbs p.d.natAbs : Nat) : Int)), []⟩ ∧ gcds [I (IntKind.i64.wrap ((Nat.gcd p.x.natAbs p.y.natAbs : Nat) : Int)), I (IntKind.i64.wrap ((Nat.gcd p.z.natAbs p.d.natAbs : Nat) : Int))] = some ⟨I (g4 p : Int), []⟩ ∧
    IntKind.i64.wrap (X.tdiv (g4 p)) = (redP p).x ∧ IntKind.i64.wrap (Y.tdiv (g4 p)) = (redP p).y ∧ IntKind.i64.wrap (Z.tdiv (g4 p)) = (redP p).z ∧ IntKind.i64.wrap (D.tdiv (g4 p)) = (redP p).d ∧ (0 < (g4 p : Int) ∧ (g4 p : Int) ≤ 12000000000) := by
  subst hX hY hZ hD
  have hw := hb.wf
  have h3' := gcds_hit (i64_W ((Nat.gcd p.x.natAbs p.y.natAbs : Nat) : Int)) (i64_W ((Nat.gcd p.z.natAbs p.d.natAbs : Nat) : Int))
  rw [natAbs_W (gcd_le hw.x hw.y), natAbs_W (gcd_le hw.z hw.d)] at h3'
  change gcds _ = some ⟨I (IntKind.i64.wrap ((g4 p : Nat) : Int)), []⟩ at h3'
  obtain ⟨g1, ⟨r1, r2, r3, r4⟩, _, _⟩ := red_spec hb
  rw [W_eq (n := ((g4 p : Nat) : Int)) (by omega) (by omega)] at h3'
  exact ⟨gcds_hit hw.x hw.y, gcds_hit hw.z hw.d, h3', r1, r2, r3, r4, g1⟩
theorem g4_red {p : Pt} (h : Big p) : g4 (redP p) = 1 := by
  obtain ⟨⟨g1, _⟩, _, _, e1, e2, e3, e4⟩ := red_spec h
  have key : g4 p = g4 (redP p) * g4 p := by
    have hx : p.x.natAbs = (redP p).x.natAbs * g4 p := by rw [← e1, Int.natAbs_mul, Int.natAbs_natCast]
    have hy : p.y.natAbs = (redP p).y.natAbs * g4 p := by rw [← e2, Int.natAbs_mul, Int.natAbs_natCast]
    have hz : p.z.natAbs = (redP p).z.natAbs * g4 p := by rw [← e3, Int.natAbs_mul, Int.natAbs_natCast]
    have hd : p.d.natAbs = (redP p).d.natAbs * g4 p := by rw [← e4, Int.natAbs_mul, Int.natAbs_natCast]
    have : g4 p = Nat.gcd (Nat.gcd ((redP p).x.natAbs * g4 p) ((redP p).y.natAbs * g4 p)) (Nat.gcd ((redP p).z.natAbs * g4 p) ((redP p).d.natAbs * g4 p)) := by rw [← hx, ← hy, ← hz, ← hd]; rfl
    rw [Nat.gcd_mul_right, Nat.gcd_mul_right, Nat.gcd_mul_right] at this
    exact this
  have h0 : 0 < g4 p := by omega
  have : g4 (redP p) * g4 p = 1 * g4 p := by omega
  exact Nat.eq_of_mul_eq_mul_right h0 this
/-- Between two numbers, with weights. -/
theorem mean_bd {a b u v : Int} (ha : -5000 ≤ a ∧ a ≤ 5000) (hb : -5000 ≤ b ∧ b ≤ 5000) (hu : 0 ≤ u) (hv : 0 ≤ v) : -(5000 * (u + v)) ≤ a * u + b * v ∧ a * u + b * v ≤ 5000 * (u + v) := by
  have h1 := Int.mul_le_mul_of_nonneg_right ha.1 hu
  have h2 := Int.mul_le_mul_of_nonneg_right ha.2 hu
  have h3 := Int.mul_le_mul_of_nonneg_right hb.1 hv
  have h4 := Int.mul_le_mul_of_nonneg_right hb.2 hv
  omega
theorem red_bd {n g N D d : Int} (hg : 0 < g) (h1 : N * g = n) (h2 : D * g = d) (h : -(5000 * d) ≤ n ∧ n ≤ 5000 * d) : -(5000 * D) ≤ N ∧ N ≤ 5000 * D := by
  subst h1 h2
  have e : 5000 * (D * g) = 5000 * D * g := by rw [Int.mul_assoc]
  rw [e, ← Int.neg_mul] at h
  exact ⟨(le_pos hg).1 h.1, (le_pos hg).1 h.2⟩
end Go.Proofs.YtddhjopopelkjaaGreat
namespace Go.Proofs.YtddhjopopelkjaaGreat
open Go Go.Sx

/-! ### Plain law: mirrored, and back -/
structure PlB (q : Int × Int) : Prop where
  k : 0 ≤ q.1 ∧ q.1 ≤ 4
  a : -10000 ≤ q.2 ∧ q.2 ≤ 10000
  s : q.1 ≤ 2 → -5000 ≤ q.2 ∧ q.2 ≤ 5000
theorem plane_bd2 {h : Hal} {s : Stg} (g : Sit h s) {i : Int} (hi : SK h i) : PlB (planeV h s i) := by
  obtain ⟨h1, h2⟩ := plane_bd g hi
  refine ⟨h1, h2, fun h3 => ?_⟩
  have ht := g.fine.ht
  cases hi with
  | wall k hk =>
    have hk2 : k < h.cs.length := by have := g.fine.le; omega
    obtain ⟨n, sx, sy, hs⟩ := g.fine.st k hk2
    rw [planeV_wall hk, plW_str hs] at h3 ⊢
    have := hs.b1
    have := hs.b2
    revert h3
    repeat' split
    all_goals (dsimp only; intro h3; omega)
  | floor => rw [planeV_floor]; dsimp only; omega
  | ceil => rw [planeV_ceil]; dsimp only; omega
  | can j hj =>
    rw [planeV_can]
    have := hgt_bd g hj
    dsimp only; omega
def mv (q : Int × Int) (p : Int × Int × Int) : Int × Int × Int := rmir q.1 q.2 p.1 p.2.1 p.2.2
structure Sup (B : Int) (p : Int × Int × Int) : Prop where
  x : -B ≤ p.1 ∧ p.1 ≤ B
  y : -B ≤ p.2.1 ∧ p.2.1 ≤ B
  z : -B ≤ p.2.2 ∧ p.2.2 ≤ B
theorem mv_ok {q : Int × Int} {p : Int × Int × Int} {B : Int} (hq : PlB q) (hB : B ≤ 35000) (hp : Sup B p) : rmirErr q.1 q.2 p.1 p.2.1 p.2.2 = 0 ∧ Sup (B + 10000) (mv q p) := by
  obtain ⟨k, a⟩ := q
  obtain ⟨x, y, z⟩ := p
  obtain ⟨hk, ha, hs⟩ := hq
  obtain ⟨hx, hy, hz⟩ := hp
  dsimp only at hk ha hs hx hy hz ⊢
  have e := rmir_plain (x := x) (y := y) (z := z) hk ha (by omega) (by omega) (by omega)
  have hsup : Sup (B + 10000) (rmir k a x y z) := by
    rw [e]
    have : k = 0 ∨ k = 1 ∨ k = 2 ∨ k = 3 ∨ k = 4 := by omega
    rcases this with rfl | rfl | rfl | rfl | rfl
    · have := hs (by omega); exact ⟨by simp; omega, by simp; omega, by simp; omega⟩
    · have := hs (by omega); exact ⟨by simp; omega, by simp; omega, by simp; omega⟩
    · have := hs (by omega); exact ⟨by simp; omega, by simp; omega, by simp; omega⟩
    · exact ⟨by simp; omega, by simp; omega, by simp; omega⟩
    · exact ⟨by simp; omega, by simp; omega, by simp; omega⟩
  refine ⟨?_, hsup⟩
  obtain ⟨s1, s2, s3⟩ := hsup
  exact rmirErr_of hk ha (by omega) (by omega) (by omega) (u := (rmir k a x y z).1) (v := (rmir k a x y z).2.1) (w := (rmir k a x y z).2.2) rfl (by omega) (by omega) (by omega)
def fw (qs : List (Int × Int)) (p : Int × Int × Int) (i : Nat) : Int × Int × Int := (qs.take i).foldl (fun p q => mv q p) p
theorem fw_succ {qs : List (Int × Int)} {p : Int × Int × Int} {i : Nat} (hi : i < qs.length) : fw qs p (i + 1) = mv qs[i] (fw qs p i) := by
  unfold fw
  rw [List.take_succ_eq_append_getElem hi, List.foldl_append]; rfl
theorem fw_sup {qs : List (Int × Int)} (hq : ∀ q ∈ qs, PlB q) (hl : qs.length ≤ 4) {p : Int × Int × Int} (hp : Sup 5000 p) : ∀ i, i ≤ qs.length → Sup (5000 + 10000 * i) (fw qs p i)
  | 0, _ => by unfold fw; simpa using hp
  | i + 1, hi => by
    have ih := fw_sup hq hl hp i (by omega)
    rw [fw_succ (by omega)]
    have := (mv_ok (hq _ (List.getElem_mem (show i < qs.length by omega))) (by omega) ih).2
    have e : 5000 + 10000 * (i : Int) + 10000 = 5000 + 10000 * ((i + 1 : Nat) : Int) := by omega
    rw [e] at this
    exact this
/-- Where a place is behind so many mirrors. -/
def posn (qs : List (Int × Int)) (p : Int × Int × Int) (i : Nat) : Int × Int × Int := if i ≤ qs.length then fw qs p i else fw qs p (2 * qs.length - i)
theorem posn_step {qs : List (Int × Int)} (hq : ∀ q ∈ qs, PlB q) (hl : qs.length ≤ 4) {p : Int × Int × Int} (hp : Sup 5000 p) {i : Nat} (hi : i < (qs ++ qs.reverse).length) :
    rmirErr (qs ++ qs.reverse)[i].1 (qs ++ qs.reverse)[i].2 (posn qs p i).1 (posn qs p i).2.1 (posn qs p i).2.2 = 0 ∧ mv (qs ++ qs.reverse)[i] (posn qs p i) = posn qs p (i + 1) := by
  have hi2 : i < 2 * qs.length := by simp at hi; omega
  by_cases h1 : i < qs.length
  · rw [List.getElem_append_left h1]
    unfold posn
    rw [if_pos (by omega), if_pos (by omega), fw_succ h1]
    exact ⟨(mv_ok (hq _ (List.getElem_mem h1)) (by omega) (fw_sup hq hl hp i (by omega))).1, rfl⟩
  · have hj : 2 * qs.length - 1 - i < qs.length := by omega
    have e1 : (qs ++ qs.reverse)[i] = qs[2 * qs.length - 1 - i] := by
      rw [List.getElem_append_right (by omega), List.getElem_reverse]
      congr 1; omega
    have e2 : posn qs p i = fw qs p (2 * qs.length - 1 - i + 1) := by
      unfold posn
      by_cases h2 : i = qs.length
      · rw [if_pos (by omega)]; congr 1; omega
      · rw [if_neg (by omega)]; congr 1; omega
    have e3 : posn qs p (i + 1) = fw qs p (2 * qs.length - 1 - i) := by
      unfold posn
      rw [if_neg (by omega)]; congr 1; omega
    rw [e1, e2, e3]
    generalize hjj : 2 * qs.length - 1 - i = j at *
    have hz := (mv_ok (hq _ (List.getElem_mem hj)) (by omega) (fw_sup hq hl hp j (by omega))).1
    obtain ⟨b1, b2⟩ := rmir_back hz
    rw [fw_succ hj]
    exact ⟨b1, b2⟩
theorem posn_zero (qs : List (Int × Int)) (p : Int × Int × Int) : posn qs p 0 = p := by unfold posn; rw [if_pos (by omega)]; rfl
theorem posn_last (qs : List (Int × Int)) (p : Int × Int × Int) : posn qs p (qs ++ qs.reverse).length = p := by
  have e : (qs ++ qs.reverse).length = 2 * qs.length := by simp; omega
  rw [e]
  unfold posn
  by_cases h : qs.length = 0
  · rw [h]; simp [fw]
  · rw [if_neg (by omega), Nat.sub_self]; rfl
end Go.Proofs.YtddhjopopelkjaaGreat
