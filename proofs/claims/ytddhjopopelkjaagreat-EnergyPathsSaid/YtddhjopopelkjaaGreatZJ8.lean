/- A part of the proof: lemmas. -/
import Derived.Test.YtddhjopopelkjaaGreatZJ7
import Derived.Test.YtddhjopopelkjaaGreatZW13
set_option linter.unusedVariables false
set_option linter.unusedSimpArgs false
namespace Go.Proofs.YtddhjopopelkjaaGreat
open Go Go.Sx
/-! ### The law of the paths -/
noncomputable def kP3 (h : Hal) (s : Stg) (p : Pth) (b a v : Int) (V : Int × Int) (E : Int) (pt : PC) : PC := ins 16 r16 (ins 17 (one [.agg (stgL h s)] ⟨Bo true, []⟩) (ins 18 (one [h.av, s.av, p.av, P3 b a v] ⟨.tup [P2 V.1 V.2, I E], []⟩) (ins 22 (one [h.av, s.av] ⟨I (serr h s), []⟩) (ins 23 (one [h.av, p.av] ⟨I (pthEh h p), []⟩) (ins 24 rAir (ins 19 (one [h.av] ⟨h.av, []⟩) (ins 20 (one [s.av] ⟨s.av, []⟩) (ins 21 (one [p.av] ⟨p.av, []⟩) pt))))))))
theorem kP3_ok {h : Hal} {s : Stg} {p : Pth} (r : few3 h s = true) (l1 : p.ss.length ≤ 6) (l2 : p.ps.length ≤ 6) {b a v : Int} {V : Int × Int} {E : Int} (h18 : PCall Tryz.prog 18 [h.av, s.av, p.av, P3 b a v] ⟨.tup [P2 V.1 V.2, I E], []⟩) {pt : PC} (hp : PCOK Tryz.prog pt) : PCOK Tryz.prog (kP3 h s p b a v V E pt) := by
  obtain ⟨hk, hs⟩ := few3_ok r
  have h17 := d17 h s
  rw [r] at h17
  refine ins_ok (fun a res h => ?_) (one_ok h17 (one_ok h18 (one_ok (d22 hk hs) (one_ok (d23 hk.f p (by omega)) (ins_ok (fun a res h => ?_) (one_ok (c22f hk.f) (one_ok (c29 hs) (one_ok (d21 (by omega) (by omega)) hp))))))))
  · unfold r16 at h; split at h <;> cases h; exact awake_ok
  · unfold rAir at h; split at h <;> cases h; exact d24 _ _ _
set_option maxRecDepth 100000 in
set_option maxHeartbeats 16000000 in
theorem d3 (h : Hal) (s : Stg) (p : Pth) (b a v : Int) : PCall Tryz.prog 3 [.agg (stgL h s), p.av, P3 b a v] ⟨Bo true, []⟩ := by
  have n1 := nl_length p.ss
  have n2 : (p.ps.map hp4).length = p.ps.length := by simp
  by_cases r : few3 h s = true ∧ p.ss.length ≤ 6 ∧ p.ps.length ≤ 6
  rotate_left
  · have haw : PCOK Tryz.prog (ins 16 r16 (ins 17 (one [.agg (stgL h s)] ⟨Bo (few3 h s), []⟩) pt0)) := by
      refine ins_ok (fun a res h => ?_) (one_ok (d17 h s) pt0_ok)
      unfold r16 at h; split at h <;> cases h; exact awake_ok
    by_cases r1 : few3 h s = true
    · rw [r1] at haw
      have r2 : 6 < p.ss.length ∨ 6 < p.ps.length := by
        rcases Nat.lt_or_ge 6 p.ss.length with q | q
        · exact .inl q
        · rcases Nat.lt_or_ge 6 p.ps.length with q2 | q2
          · exact .inr q2
          · exact absurd ⟨r1, by omega, by omega⟩ r
      by_cases q : 6 < p.ss.length
      · refine bs.pv (sx := nos) haw Tryz.func3 (by kernel_rfl) (by kernel_rfl) rfl ?_
        repeat' (first | refine wk3 ?_ | (refine wk2 ?_ ?_ <;> intro _) | refine wk4 ?_ | fail); all_goals (conv => whnf)
        all_goals exact ret_bool rfl
      · have q2 : 6 < p.ps.length := by omega
        refine bs.pv (sx := nos) haw Tryz.func3 (by kernel_rfl) (by kernel_rfl) rfl ?_
        repeat' (first | refine wk3 ?_ | (refine wk2 ?_ ?_ <;> intro _) | refine wk4 ?_ | fail); all_goals (conv => whnf)
        all_goals exact ret_bool rfl
    · have r1 : few3 h s = false := by simpa using r1
      rw [r1] at haw
      refine bs.pv (sx := nos) haw Tryz.func3 (by kernel_rfl) (by kernel_rfl) rfl ?_
      repeat' (first | refine wk3 ?_ | (refine wk2 ?_ ?_ <;> intro _) | refine wk4 ?_ | fail); all_goals (conv => whnf)
      all_goals exact ret_bool rfl
  obtain ⟨r, l1, l2⟩ := r
  obtain ⟨hk, hs⟩ := few3_ok r
  by_cases e : enE h s p b a v = 0
  rotate_left
  · have h1 := kP3_ok r l1 l2 (V := (0, 0)) (d18e hk hs (p := p) (by omega) e) pt0_ok
    unfold kP3 at h1
    by_cases z : serr h s = 0
    rotate_left
    · rw [show enE h s p b a v = serr h s by unfold enE; rw [if_pos z]] at h1
      generalize serr h s = E at *
      refine bs.pv (sx := nos) h1 Tryz.func3 (by kernel_rfl) (by kernel_rfl) rfl ?_
      repeat' (first | refine wk3 ?_ | (refine wk2 ?_ ?_ <;> intro _) | refine wk4 ?_ | fail); all_goals (conv => whnf)
      all_goals first
        | exact ret_bool rfl
        | (refine ret_bool ?_; simp_all; done)
        | (exfalso; simp_all; done)
    rw [z] at h1
    by_cases y : pthEh h p = 0
    rotate_left
    · have e1 : enE h s p b a v = pthEh h p := by
        unfold enE
        rw [if_neg (fun c => c z)]
        unfold pthEh at y ⊢
        by_cases y2 : pthE p = 0
        · rw [if_pos y2] at y
          rw [if_neg (fun c => c y2), if_pos y, if_pos y2]
        · rw [if_pos y2, if_neg y2]
      rw [e1] at h1
      generalize pthEh h p = E at *
      refine bs.pv (sx := nos) h1 Tryz.func3 (by kernel_rfl) (by kernel_rfl) rfl ?_
      repeat' (first | refine wk3 ?_ | (refine wk2 ?_ ?_ <;> intro _) | refine wk4 ?_ | fail); all_goals (conv => whnf)
      all_goals first
        | exact ret_bool rfl
        | (refine ret_bool ?_; simp_all; done)
        | (exfalso; simp_all; done)
    have e1 : enE h s p b a v = airE b a v := by
      unfold enE
      rw [if_neg (fun c => c z)]
      unfold pthEh at y
      by_cases y2 : pthE p = 0
      · rw [if_pos y2] at y
        rw [if_neg (fun c => c y2), if_neg (fun c => c y)]
      · rw [if_neg y2] at y; exact absurd y y2
    rw [e1] at e h1
    rw [y] at h1
    refine bs.pv (sx := nos) h1 Tryz.func3 (by kernel_rfl) (by kernel_rfl) rfl ?_
    repeat' (first | refine wk3 ?_ | (refine wk2 ?_ ?_ <;> intro _) | refine wk4 ?_ | fail); all_goals (conv => whnf)
    all_goals first
      | exact ret_bool rfl
      | (refine ret_bool ?_; simp_all; done)
      | (exfalso; simp_all; done)
  obtain ⟨z, y, x, w⟩ := enE_zero e
  have g := sit_of hk hs z
  have h1 := kP3_ok r l1 l2 (d18o hk hs (p := p) (by omega) e) (one_ok (d25 g z y x w) pt0_ok)
  have y2 : pthEh h p = 0 := by unfold pthEh; rw [if_pos y, x]
  unfold kP3 at h1
  rw [z, y2] at h1
  generalize enV h s p b a = V at *
  obtain ⟨V1, V2⟩ := V
  dsimp only at h1
  refine bs.pv (sx := nos) h1 Tryz.func3 (by kernel_rfl) (by kernel_rfl) rfl ?_
  repeat' (first | refine wk3 ?_ | (refine wk2 ?_ ?_ <;> intro _) | refine wk4 ?_ | fail); all_goals (conv => whnf)
  all_goals first
    | exact ret_bool rfl
    | (refine ret_bool ?_; simp_all; done)
    | (exfalso; simp_all; done)
/-! ### Typed trees -/
theorem wP4 {d : Nat} {x : List AV} (h : WT TT (d + 2) 198 x) : ∃ p : Int × Int × Int × Int, x = hp4 p := by
  obtain ⟨ns, h1, h2, _⟩ := wt_ints (T := TT) (t := 198) rfl rfl rfl h
  have h2 : ns.length = 4 := h2
  match ns, h2 with
  | [a, b, c, e], _ => exact ⟨(a, b, c, e), by rw [h1]; rfl⟩
theorem path_of {a : AV} (h : WTA TT 36 a) : ∃ p : Pth, a = p.av := by
  obtain ⟨x, m, rfl, hw⟩ := wta_agg (T := TT) (t := 36) h rfl rfl 11
  have h0 := (wt_struct (T := TT) (t := 36) rfl rfl hw).1
  have h0 : x.length = 3 := h0
  match x, h0 with
  | [x0, x1, x2], _ =>
    obtain ⟨l, hl⟩ := wInts (wt_field (T := TT) (t := 36) rfl rfl hw 0 rfl rfl)
    obtain ⟨e5, h5, _, g5⟩ := wt_slice (T := TT) (t := 34) rfl rfl rfl (wt_field (T := TT) (t := 36) rfl rfl hw 1 rfl rfl)
    obtain ⟨l5, k5, _⟩ := wList (f := hp4) (P := fun _ => True) (fun x hx => (wP4 hx).imp fun p hp => ⟨hp, trivial⟩) e5 g5
    obtain ⟨n, hn⟩ := wInt (wt_field (T := TT) (t := 36) rfl rfl hw 2 rfl rfl)
    have hl : [x0] = [.isl 1 (nl l)] := hl
    have h5 : [x1] = [.isl 4 e5] := h5
    have hn : [x2] = [I n] := hn
    cases hl; cases h5; cases hn
    exact ⟨⟨l, l5, n⟩, by rw [k5]⟩
def tysP : List TypeId := [36, 34, 198] ++ tysR
theorem tysPOK : tysP.all (suppT (tget tbl) tysP) = true := by kernel_rfl
end Go.Proofs.YtddhjopopelkjaaGreat
