/- A part of the proof: lemmas. -/
import Derived.Test.YtddhjopopelkjaaGreatZJ6
set_option linter.unusedVariables false
set_option linter.unusedSimpArgs false
namespace Go.Proofs.YtddhjopopelkjaaGreat
open Go Go.Sx
/-! ### EnergyOf, and the law of the paths -/
noncomputable def kE18 (h : Hal) (s : Stg) (p : Pth) (E1 : Int) (L : Int × Int) (E2 : Int) (S : ByteArray) (E3 : Int) : PC := ins 83 (one [h.av, s.av] ⟨I E1, []⟩) (ins 85 (one [p.av] ⟨.tup [P2 L.1 L.2, I E2], []⟩) (ins 87 (one [h.av, .isl 1 (nl p.ss)] ⟨.tup [.str S, I E3], []⟩) (ins 88 r88 pt0)))
abbrev sxE : FuncId → Bool := fun f => Nat.beq f 81 || Nat.beq f 82 || Nat.beq f 84 || Nat.beq f 86
theorem k88_ok : PCOK Tryz.prog (ins 88 r88 pt0) := by
  refine ins_ok (fun a res h => ?_) pt0_ok
  unfold r88 at h; split at h <;> cases h; exact d88 _ _ _
def enE (h : Hal) (s : Stg) (p : Pth) (b a v : Int) : Int := if serr h s ≠ 0 then serr h s else if pthE p ≠ 0 then pthE p else if suE h p.ss ≠ 0 then suE h p.ss else airE b a v
noncomputable def enR (h : Hal) (s : Stg) (p : Pth) (b a v : Int) : Int × Int := if enE h s p b a v = 0 then enV h s p b a else (0, 0)
set_option maxRecDepth 100000 in
set_option maxHeartbeats 16000000 in
theorem d18e {h : Hal} (hk : h.ok) {s : Stg} (hs : s.few) {p : Pth} (hl : p.ss.length < 1000) {b a v : Int} (e : enE h s p b a v ≠ 0) : PCall Tryz.prog 18 [h.av, s.av, p.av, P3 b a v] ⟨.tup [P2 0 0, I (enE h s p b a v)], []⟩ := by
  have h83 := c47 hk hs
  by_cases z : serr h s = 0
  rotate_left
  · rw [show enE h s p b a v = serr h s by unfold enE; rw [if_pos z]]
    have hA := one_ok h83 k88_ok
    generalize serr h s = E at *
    refine bs.pv (sx := sxE) hA Tryz.func18 (by kernel_rfl) (by kernel_rfl) rfl ?_
    repeat' (first | refine wk3 ?_ | (refine wk2 ?_ ?_ <;> intro _) | refine wk4 ?_ | fail); all_goals (conv => whnf)
    refine bs.sv (sx := sxE) hA Tryz.func81 (by kernel_rfl) (by kernel_rfl) ?_
    repeat' (first | refine wk3 ?_ | (refine wk2 ?_ ?_ <;> intro _) | refine wk4 ?_ | fail); all_goals (conv => whnf)
    refine LpM.start 3 ?_
    refine LpM.succ (bs.av (sx := sxE) hA ?_)
    repeat' (first | refine wk3 ?_ | (refine wk2 ?_ ?_ <;> intro _) | refine wk4 ?_ | fail); all_goals (conv => whnf)
    refine bs.sv (sx := sxE) hA Tryz.func82 (by kernel_rfl) (by kernel_rfl) ?_
    repeat' (first | refine wk3 ?_ | (refine wk2 ?_ ?_ <;> intro _) | refine wk4 ?_ | fail); all_goals (conv => whnf)
    all_goals exact ret_of rfl rfl
  have h85 := d85 p
  by_cases y : pthE p = 0
  rotate_left
  · rw [show enE h s p b a v = pthE p by unfold enE; rw [if_neg (fun c => c z), if_pos y]]
    rw [z] at h83
    have hA := one_ok h83 (one_ok h85 k88_ok)
    generalize pthE p = E at *
    generalize lenP p = L at *
    refine bs.pv (sx := sxE) hA Tryz.func18 (by kernel_rfl) (by kernel_rfl) rfl ?_
    repeat' (first | refine wk3 ?_ | (refine wk2 ?_ ?_ <;> intro _) | refine wk4 ?_ | fail); all_goals (conv => whnf)
    refine bs.sv (sx := sxE) hA Tryz.func81 (by kernel_rfl) (by kernel_rfl) ?_
    repeat' (first | refine wk3 ?_ | (refine wk2 ?_ ?_ <;> intro _) | refine wk4 ?_ | fail); all_goals (conv => whnf)
    refine LpM.start 3 ?_
    refine LpM.succ (bs.av (sx := sxE) hA ?_)
    repeat' (first | refine wk3 ?_ | (refine wk2 ?_ ?_ <;> intro _) | refine wk4 ?_ | fail); all_goals (conv => whnf)
    refine bs.sv (sx := sxE) hA Tryz.func82 (by kernel_rfl) (by kernel_rfl) ?_
    repeat' (first | refine wk3 ?_ | (refine wk2 ?_ ?_ <;> intro _) | refine wk4 ?_ | fail); all_goals (conv => whnf)
    refine LpM.succ (bs.av (sx := sxE) hA ?_)
    repeat' (first | refine wk3 ?_ | (refine wk2 ?_ ?_ <;> intro _) | refine wk4 ?_ | fail); all_goals (conv => whnf)
    refine bs.sv (sx := sxE) hA Tryz.func84 (by kernel_rfl) (by kernel_rfl) ?_
    repeat' (first | refine wk3 ?_ | (refine wk2 ?_ ?_ <;> intro _) | refine wk4 ?_ | fail); all_goals (conv => whnf)
    all_goals exact ret_of rfl rfl
  have h87 := d87 hk (err_of z) p.ss hl
  rw [z] at h83
  rw [y] at h85
  generalize lenP p = L at *
  generalize fwS h p.ss = S at *
  by_cases x : suE h p.ss = 0
  rotate_left
  · rw [show enE h s p b a v = suE h p.ss by unfold enE; rw [if_neg (fun c => c z), if_neg (fun c => c y), if_pos x]]
    have hA := one_ok h83 (one_ok h85 (one_ok h87 k88_ok))
    generalize suE h p.ss = E at *
    refine bs.pv (sx := sxE) hA Tryz.func18 (by kernel_rfl) (by kernel_rfl) rfl ?_
    repeat' (first | refine wk3 ?_ | (refine wk2 ?_ ?_ <;> intro _) | refine wk4 ?_ | fail); all_goals (conv => whnf)
    refine bs.sv (sx := sxE) hA Tryz.func81 (by kernel_rfl) (by kernel_rfl) ?_
    repeat' (first | refine wk3 ?_ | (refine wk2 ?_ ?_ <;> intro _) | refine wk4 ?_ | fail); all_goals (conv => whnf)
    refine LpM.start 4 ?_
    refine LpM.succ (bs.av (sx := sxE) hA ?_)
    repeat' (first | refine wk3 ?_ | (refine wk2 ?_ ?_ <;> intro _) | refine wk4 ?_ | fail); all_goals (conv => whnf)
    refine bs.sv (sx := sxE) hA Tryz.func82 (by kernel_rfl) (by kernel_rfl) ?_
    repeat' (first | refine wk3 ?_ | (refine wk2 ?_ ?_ <;> intro _) | refine wk4 ?_ | fail); all_goals (conv => whnf)
    refine LpM.succ (bs.av (sx := sxE) hA ?_)
    repeat' (first | refine wk3 ?_ | (refine wk2 ?_ ?_ <;> intro _) | refine wk4 ?_ | fail); all_goals (conv => whnf)
    refine bs.sv (sx := sxE) hA Tryz.func84 (by kernel_rfl) (by kernel_rfl) ?_
    repeat' (first | refine wk3 ?_ | (refine wk2 ?_ ?_ <;> intro _) | refine wk4 ?_ | fail); all_goals (conv => whnf)
    refine LpM.succ (bs.av (sx := sxE) hA ?_)
    repeat' (first | refine wk3 ?_ | (refine wk2 ?_ ?_ <;> intro _) | refine wk4 ?_ | fail); all_goals (conv => whnf)
    refine bs.sv (sx := sxE) hA Tryz.func86 (by kernel_rfl) (by kernel_rfl) ?_
    repeat' (first | refine wk3 ?_ | (refine wk2 ?_ ?_ <;> intro _) | refine wk4 ?_ | fail); all_goals (conv => whnf)
    all_goals exact ret_of rfl rfl
  have ea : enE h s p b a v = airE b a v := by unfold enE; rw [if_neg (fun c => c z), if_neg (fun c => c y), if_neg (fun c => c x)]
  rw [ea] at e ⊢
  rw [x] at h87
  have hA := one_ok h83 (one_ok h85 (one_ok h87 k88_ok))
  refine bs.pv (sx := sxE) hA Tryz.func18 (by kernel_rfl) (by kernel_rfl) rfl ?_
  repeat' (first | refine wk3 ?_ | (refine wk2 ?_ ?_ <;> intro _) | refine wk4 ?_ | fail); all_goals (conv => whnf)
  refine bs.sv (sx := sxE) hA Tryz.func81 (by kernel_rfl) (by kernel_rfl) ?_
  repeat' (first | refine wk3 ?_ | (refine wk2 ?_ ?_ <;> intro _) | refine wk4 ?_ | fail); all_goals (conv => whnf)
  refine LpM.start 5 ?_
  refine LpM.succ (bs.av (sx := sxE) hA ?_)
  repeat' (first | refine wk3 ?_ | (refine wk2 ?_ ?_ <;> intro _) | refine wk4 ?_ | fail); all_goals (conv => whnf)
  refine bs.sv (sx := sxE) hA Tryz.func82 (by kernel_rfl) (by kernel_rfl) ?_
  repeat' (first | refine wk3 ?_ | (refine wk2 ?_ ?_ <;> intro _) | refine wk4 ?_ | fail); all_goals (conv => whnf)
  refine LpM.succ (bs.av (sx := sxE) hA ?_)
  repeat' (first | refine wk3 ?_ | (refine wk2 ?_ ?_ <;> intro _) | refine wk4 ?_ | fail); all_goals (conv => whnf)
  refine bs.sv (sx := sxE) hA Tryz.func84 (by kernel_rfl) (by kernel_rfl) ?_
  repeat' (first | refine wk3 ?_ | (refine wk2 ?_ ?_ <;> intro _) | refine wk4 ?_ | fail); all_goals (conv => whnf)
  refine LpM.succ (bs.av (sx := sxE) hA ?_)
  repeat' (first | refine wk3 ?_ | (refine wk2 ?_ ?_ <;> intro _) | refine wk4 ?_ | fail); all_goals (conv => whnf)
  refine bs.sv (sx := sxE) hA Tryz.func86 (by kernel_rfl) (by kernel_rfl) ?_
  repeat' (first | refine wk3 ?_ | (refine wk2 ?_ ?_ <;> intro _) | refine wk4 ?_ | fail); all_goals (conv => whnf)
  refine LpM.succ (bs.av (sx := sxE) hA ?_)
  repeat' (first | refine wk3 ?_ | (refine wk2 ?_ ?_ <;> intro _) | refine wk4 ?_ | fail); all_goals (conv => whnf)
  all_goals exact ret_of rfl rfl
theorem enE_zero {h : Hal} {s : Stg} {p : Pth} {b a v : Int} (e : enE h s p b a v = 0) : serr h s = 0 ∧ pthE p = 0 ∧ suE h p.ss = 0 ∧ airE b a v = 0 := by
  unfold enE at e
  by_cases z : serr h s = 0
  rotate_left
  · rw [if_pos z] at e; exact absurd e z
  rw [if_neg (fun c => c z)] at e
  by_cases y : pthE p = 0
  rotate_left
  · rw [if_pos y] at e; exact absurd e y
  rw [if_neg (fun c => c y)] at e
  by_cases x : suE h p.ss = 0
  rotate_left
  · rw [if_pos x] at e; exact absurd e x
  rw [if_neg (fun c => c x)] at e
  exact ⟨z, y, x, e⟩
set_option maxRecDepth 100000 in
set_option maxHeartbeats 16000000 in
theorem d18o {h : Hal} (hk : h.ok) {s : Stg} (hs : s.few) {p : Pth} (hl : p.ss.length < 1000) {b a v : Int} (e : enE h s p b a v = 0) : PCall Tryz.prog 18 [h.av, s.av, p.av, P3 b a v] ⟨.tup [P2 (enV h s p b a).1 (enV h s p b a).2, I 0], []⟩ := by
  obtain ⟨z, y, x, w⟩ := enE_zero e
  have g := sit_of hk hs z
  have h89 := d89 g z y x w
  have h83 := c47 hk hs
  have h85 := d85 p
  have h87 := d87 hk (err_of z) p.ss hl
  rw [z] at h83
  rw [y] at h85
  rw [x] at h87
  have hA := one_ok h89 (one_ok h83 (one_ok h85 (one_ok h87 k88_ok)))
  generalize lenP p = L at *
  generalize fwS h p.ss = S at *
  generalize enV h s p b a = V at *
  refine bs.pv (sx := sxE) hA Tryz.func18 (by kernel_rfl) (by kernel_rfl) rfl ?_
  repeat' (first | refine wk3 ?_ | (refine wk2 ?_ ?_ <;> intro _) | refine wk4 ?_ | fail); all_goals (conv => whnf)
  refine bs.sv (sx := sxE) hA Tryz.func81 (by kernel_rfl) (by kernel_rfl) ?_
  repeat' (first | refine wk3 ?_ | (refine wk2 ?_ ?_ <;> intro _) | refine wk4 ?_ | fail); all_goals (conv => whnf)
  refine LpM.start 6 ?_
  refine LpM.succ (bs.av (sx := sxE) hA ?_)
  repeat' (first | refine wk3 ?_ | (refine wk2 ?_ ?_ <;> intro _) | refine wk4 ?_ | fail); all_goals (conv => whnf)
  refine bs.sv (sx := sxE) hA Tryz.func82 (by kernel_rfl) (by kernel_rfl) ?_
  repeat' (first | refine wk3 ?_ | (refine wk2 ?_ ?_ <;> intro _) | refine wk4 ?_ | fail); all_goals (conv => whnf)
  refine LpM.succ (bs.av (sx := sxE) hA ?_)
  repeat' (first | refine wk3 ?_ | (refine wk2 ?_ ?_ <;> intro _) | refine wk4 ?_ | fail); all_goals (conv => whnf)
  refine bs.sv (sx := sxE) hA Tryz.func84 (by kernel_rfl) (by kernel_rfl) ?_
  repeat' (first | refine wk3 ?_ | (refine wk2 ?_ ?_ <;> intro _) | refine wk4 ?_ | fail); all_goals (conv => whnf)
  refine LpM.succ (bs.av (sx := sxE) hA ?_)
  repeat' (first | refine wk3 ?_ | (refine wk2 ?_ ?_ <;> intro _) | refine wk4 ?_ | fail); all_goals (conv => whnf)
  refine bs.sv (sx := sxE) hA Tryz.func86 (by kernel_rfl) (by kernel_rfl) ?_
  repeat' (first | refine wk3 ?_ | (refine wk2 ?_ ?_ <;> intro _) | refine wk4 ?_ | fail); all_goals (conv => whnf)
  refine LpM.succ (bs.av (sx := sxE) hA ?_)
  repeat' (first | refine wk3 ?_ | (refine wk2 ?_ ?_ <;> intro _) | refine wk4 ?_ | fail); all_goals (conv => whnf)
  refine LpM.succ (bs.av (sx := sxE) hA ?_)
  repeat' (first | refine wk3 ?_ | (refine wk2 ?_ ?_ <;> intro _) | refine wk4 ?_ | fail); all_goals (conv => whnf)
  all_goals exact ret_of rfl rfl
end Go.Proofs.YtddhjopopelkjaaGreat
