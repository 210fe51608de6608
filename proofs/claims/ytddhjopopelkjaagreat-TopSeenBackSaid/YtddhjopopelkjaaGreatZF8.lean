/- A part of the proof: lemmas. -/
import Derived.Test.YtddhjopopelkjaaGreatZF7
import Derived.Test.YtddhjopopelkjaaGreatZw11
set_option linter.unusedVariables false
set_option linter.unusedSimpArgs false
namespace Go.Proofs.YtddhjopopelkjaaGreat
open Go Go.Sx

def r181 : List AV → Option PRes
  | [.agg [.int .i64 a, .int .i64 b, .int .i64 c, .int .i64 d, .int .i64 x, .int .i64 y, .int .i64 z, .int .i64 w], .agg [.int .i64 n, .int .i64 fx, .int .i64 fy, .int .i64 tx, .int .i64 ty]] => some ⟨Bo (touP ⟨a, b, c, d⟩ ⟨x, y, z, w⟩ ⟨n, fx, fy, tx, ty⟩), []⟩
  | _ => none
def rr211 : List AV → Option PRes
  | [.agg [.int .i64 a, .int .i64 b, .int .i64 c, .int .i64 d], .int .i64 x, .int .i64 y, .int .i64 z] => some ⟨Bo (Rc.has ⟨a, b, c, d⟩ x y z), []⟩
  | _ => none
def rr193 : List AV → Option PRes
  | [.agg [.int .i64 a, .int .i64 b, .int .i64 c, .int .i64 d], .int .i64 x, .int .i64 y, .int .i64 z] => some ⟨Bo (Rc.holds ⟨a, b, c, d⟩ x y z), []⟩
  | _ => none
def kF4 : PC := ins 194 r181 (ins 227 rr211 (ins 274 rr193 (ins 195 r182 (ins 224 r170 kG3))))
theorem kF4_ok : PCOK Tryz.prog kF4 := by
  refine ins_ok (fun a res h => ?_) (ins_ok (fun a res h => ?_) (ins_ok (fun a res h => ?_) (ins_ok (fun a res h => ?_) (ins_ok (fun a res h => ?_) kG3_ok))))
  · unfold r181 at h; split at h <;> cases h; exact c181 ⟨_, _, _, _⟩ ⟨_, _, _, _⟩ ⟨_, _, _, _, _⟩
  · unfold rr211 at h; split at h <;> cases h; exact c211 ⟨_, _, _, _⟩ _ _ _
  · unfold rr193 at h; split at h <;> cases h; exact c193 ⟨_, _, _, _⟩ _ _ _
  · unfold r182 at h; split at h <;> cases h; exact c182 ⟨_, _, _, _⟩ ⟨_, _, _, _⟩
  · unfold r170 at h; split at h <;> cases h; exact c170 _ _ _ _ _ _ _
set_option maxRecDepth 100000 in
set_option maxHeartbeats 8000000 in
theorem c209 (r : Rc) (p q : Pt) : PCall Tryz.prog 225 [r.av, wayA p q] ⟨Bo (crosP r p q), []⟩ := by
  obtain ⟨ra, rb, rc, rd⟩ := r
  obtain ⟨pa, pb, pc, pd⟩ := p
  obtain ⟨qa, qb, qc, qd⟩ := q
  refine bs.pv (sx := nos) kF4_ok Tryz.func225 (by kernel_rfl) (by kernel_rfl) rfl ?_
  repeat' (first | refine wk0 ?_ | (refine wk2 ?_ ?_ <;> intro _) | refine wk4 ?_ | fail); all_goals (conv => whnf)
  all_goals try (refine LpM.start 5 ?_)
  iterate 5
    all_goals try (refine LpM.succ (bs.av (sx := nos) kF4_ok ?_))
    repeat' (first | refine wk0 ?_ | (refine wk2 ?_ ?_ <;> intro _) | refine wk4 ?_ | fail); all_goals (conv => whnf)
  all_goals exact ret_bool (by simp_all [crosP, edgP])
def atP (ht : Int) (p q : Pt) : Int × Int × Int × Bool := if 0 ≤ IntKind.i64.wrap (sgn (zOff ht p) * sgn (zOff ht q)) then (0, 0, 0, false) else (atX p.x q.x (size (zOff ht q)) (size (zOff ht p)), atX p.y q.y (size (zOff ht q)) (size (zOff ht p)), atX p.d q.d (size (zOff ht q)) (size (zOff ht p)), true)
set_option maxRecDepth 100000 in
set_option maxHeartbeats 8000000 in
theorem c210 (ht : Int) (p q : Pt) : PCall Tryz.prog 226 [wayA p q, I ht] ⟨.tup [I (atP ht p q).1, I (atP ht p q).2.1, I (atP ht p q).2.2.1, Bo (atP ht p q).2.2.2], []⟩ := by
  refine bs.pv (sx := nos) kG3_ok Tryz.func226 (by kernel_rfl) (by kernel_rfl) rfl ?_
  unfold atP
  by_cases hc : 0 ≤ IntKind.i64.wrap (sgn (zOff ht p) * sgn (zOff ht q))
  · rw [if_pos hc]
    unfold zOff at hc
    repeat' (first | refine wk3 ?_ | (refine wk2 ?_ ?_ <;> intro _) | refine wk4 ?_ | fail); all_goals (conv => whnf)
    exact ret_of rfl rfl
  · rw [if_neg hc]
    unfold zOff at hc
    repeat' (first | refine wk3 ?_ | (refine wk2 ?_ ?_ <;> intro _) | refine wk4 ?_ | fail); all_goals (conv => whnf)
    exact ret_of rfl rfl
def r210 : List AV → Option PRes
  | [.agg [.int .i64 a, .int .i64 b, .int .i64 c, .int .i64 d, .int .i64 x, .int .i64 y, .int .i64 z, .int .i64 w], .int .i64 ht] => some ⟨.tup [I (atP ht ⟨a, b, c, d⟩ ⟨x, y, z, w⟩).1, I (atP ht ⟨a, b, c, d⟩ ⟨x, y, z, w⟩).2.1, I (atP ht ⟨a, b, c, d⟩ ⟨x, y, z, w⟩).2.2.1, Bo (atP ht ⟨a, b, c, d⟩ ⟨x, y, z, w⟩).2.2.2], []⟩
  | _ => none
def r209 : List AV → Option PRes
  | [.agg [.int .i64 e, .int .i64 f, .int .i64 g, .int .i64 h], .agg [.int .i64 a, .int .i64 b, .int .i64 c, .int .i64 d, .int .i64 x, .int .i64 y, .int .i64 z, .int .i64 w]] => some ⟨Bo (crosP ⟨e, f, g, h⟩ ⟨a, b, c, d⟩ ⟨x, y, z, w⟩), []⟩
  | _ => none
def kF5 : PC := ins 225 r209 (ins 226 r210 kF4)
theorem kF5_ok : PCOK Tryz.prog kF5 := by
  refine ins_ok (fun a res h => ?_) (ins_ok (fun a res h => ?_) kF4_ok)
  · unfold r209 at h; split at h <;> cases h; exact c209 ⟨_, _, _, _⟩ ⟨_, _, _, _⟩ ⟨_, _, _, _⟩
  · unfold r210 at h; split at h <;> cases h; exact c210 _ ⟨_, _, _, _⟩ ⟨_, _, _, _⟩
set_option maxRecDepth 100000 in
set_option maxHeartbeats 8000000 in
theorem c184 {h : Hal} {s : Stg} (g : Sit h s) {j : Nat} (hj : j < h.ks.length) (p q : Pt) : PCall Tryz.prog 197 [.agg (stgL h s), I j, wayA p q] ⟨Bo (blkP h.ks[j].rc (hgtAt h s j) p q), []⟩ := by
  have hk := one_ok (c192 g hj) kF5_ok
  have e5 := ca_get hj
  have l2 := ca_length h.ks
  generalize hgtAt h s j = ht at *
  generalize h.ks[j] = c at *
  unfold blkP
  by_cases hc : p.z = IntKind.i64.wrap (ht * p.d) ∧ q.z = IntKind.i64.wrap (ht * q.d)
  · rw [if_pos hc]
    obtain ⟨h1, h2⟩ := hc
    refine bs.pv (sx := nos) hk Tryz.func197 (by kernel_rfl) (by kernel_rfl) rfl ?_
    repeat' (first | refine wk3 ?_ | (refine wk2 ?_ ?_ <;> intro _) | refine wk4 ?_ | fail); all_goals (conv => whnf)
    exact ret_bool rfl
  · rw [if_neg hc]
    have hat : atP ht p q = if 0 ≤ IntKind.i64.wrap (sgn (zOff ht p) * sgn (zOff ht q)) then (0, 0, 0, false) else (atX p.x q.x (size (zOff ht q)) (size (zOff ht p)), atX p.y q.y (size (zOff ht q)) (size (zOff ht p)), atX p.d q.d (size (zOff ht q)) (size (zOff ht p)), true) := rfl
    have hk2 := one_ok (c210 ht p q) hk
    rw [hat] at hk2
    clear hk hat
    have hc2 : ¬ p.z = IntKind.i64.wrap (ht * p.d) ∨ (p.z = IntKind.i64.wrap (ht * p.d) ∧ ¬ q.z = IntKind.i64.wrap (ht * q.d)) := by
      by_cases h1 : p.z = IntKind.i64.wrap (ht * p.d)
      · exact .inr ⟨h1, fun h2 => hc ⟨h1, h2⟩⟩
      · exact .inl h1
    clear hc
    by_cases hs : 0 ≤ IntKind.i64.wrap (sgn (zOff ht p) * sgn (zOff ht q))
    · rw [if_pos hs] at hk2 ⊢
      clear hs
      rcases hc2 with h1 | ⟨h1, h2⟩
      all_goals
        refine bs.pv (sx := nos) hk2 Tryz.func197 (by kernel_rfl) (by kernel_rfl) rfl ?_
        repeat' (first | refine wk3 ?_ | (refine wk2 ?_ ?_ <;> intro _) | refine wk4 ?_ | fail); all_goals (conv => whnf)
        exact ret_bool rfl
    · rw [if_neg hs] at hk2 ⊢
      clear hs
      rcases hc2 with h1 | ⟨h1, h2⟩
      all_goals
        refine bs.pv (sx := nos) hk2 Tryz.func197 (by kernel_rfl) (by kernel_rfl) rfl ?_
        repeat' (first | refine wk3 ?_ | (refine wk2 ?_ ?_ <;> intro _) | refine wk4 ?_ | fail); all_goals (conv => whnf)
        exact ret_bool rfl
end Go.Proofs.YtddhjopopelkjaaGreat
