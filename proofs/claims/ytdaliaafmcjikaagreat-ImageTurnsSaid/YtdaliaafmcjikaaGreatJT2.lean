/- A part of the proof: lemmas. -/
import Derived.Test.YtdaliaafmcjikaaGreatJT1
set_option linter.unusedVariables false
set_option linter.unusedSimpArgs false
namespace Go.Proofs.YtdaliaafmcjikaaGreat
open Go Go.Sx
/-! ### The law of turns -/
set_option maxRecDepth 100000 in
set_option maxHeartbeats 8000000 in
theorem d29 (a b : Tn) : PCall Tryz.prog 29 [P2 a.1 a.2, P2 b.1 b.2] ⟨.tup [P2 (ttV a b).1 (ttV a b).2, I (ttE a b)], []⟩ := by
  unfold ttV
  by_cases ha : coB a = true
  rotate_left
  · have e : ttE a b = 2 := by unfold ttE; rw [if_neg (by simp [ha])]
    rw [e, show okP 2 (tuV (IntKind.i64.wrap (b.1 - a.1)) (IntKind.i64.wrap (b.2 - a.2))) = (0, 0) from if_neg (by decide)]
    unfold coB at ha
    cases q1 : small a.1 45000 <;> cases q2 : small a.2 45000
    all_goals (try (exfalso; rw [q1, q2] at ha; exact ha rfl))
    all_goals
      refine bs.pv (sx := nos) kT0_ok Tryz.func29 (by kernel_rfl) (by kernel_rfl) rfl ?_
      repeat' (first | refine wk3 ?_ | (refine wk2 ?_ ?_ <;> intro _) | refine wk4 ?_ | fail); all_goals (conv => whnf)
      refine LpM.start 3 ?_
      refine LpM.succ (bs.av (sx := nos) kT0_ok ?_)
      repeat' (first | refine wk3 ?_ | (refine wk2 ?_ ?_ <;> intro _) | refine wk4 ?_ | fail); all_goals (conv => whnf)
      all_goals first | exact ret_of rfl rfl | (exfalso; simp_all; done)
  by_cases hb : coB b = true
  rotate_left
  · have e : ttE a b = 2 := by unfold ttE; rw [if_neg (by simp [hb])]
    rw [e, show okP 2 (tuV (IntKind.i64.wrap (b.1 - a.1)) (IntKind.i64.wrap (b.2 - a.2))) = (0, 0) from if_neg (by decide)]
    unfold coB at ha hb
    rw [Bool.and_eq_true] at ha
    obtain ⟨p1, p2⟩ := ha
    cases q1 : small b.1 45000 <;> cases q2 : small b.2 45000
    all_goals (try (exfalso; rw [q1, q2] at hb; exact hb rfl))
    all_goals
      refine bs.pv (sx := nos) kT0_ok Tryz.func29 (by kernel_rfl) (by kernel_rfl) rfl ?_
      repeat' (first | refine wk3 ?_ | (refine wk2 ?_ ?_ <;> intro _) | refine wk4 ?_ | fail); all_goals (conv => whnf)
      refine LpM.start 3 ?_
      refine LpM.succ (bs.av (sx := nos) kT0_ok ?_)
      repeat' (first | refine wk3 ?_ | (refine wk2 ?_ ?_ <;> intro _) | refine wk4 ?_ | fail); all_goals (conv => whnf)
      all_goals (try (exfalso; simp_all; done))
      refine LpM.succ (bs.av (sx := nos) kT0_ok ?_)
      repeat' (first | refine wk3 ?_ | (refine wk2 ?_ ?_ <;> intro _) | refine wk4 ?_ | fail); all_goals (conv => whnf)
      all_goals first | exact ret_of rfl rfl | (exfalso; simp_all; done)
  by_cases hne : a.1 = b.1 ∧ a.2 = b.2
  · have e : ttE a b = 11 := by unfold ttE; rw [if_pos (by rw [ha, hb]; rfl), if_pos hne]
    rw [e, show okP 11 (tuV (IntKind.i64.wrap (b.1 - a.1)) (IntKind.i64.wrap (b.2 - a.2))) = (0, 0) from if_neg (by decide)]
    unfold coB at ha hb
    rw [Bool.and_eq_true] at ha hb
    obtain ⟨p1, p2⟩ := ha
    obtain ⟨p3, p4⟩ := hb
    refine bs.pv (sx := nos) kT0_ok Tryz.func29 (by kernel_rfl) (by kernel_rfl) rfl ?_
    repeat' (first | refine wk3 ?_ | (refine wk2 ?_ ?_ <;> intro _) | refine wk4 ?_ | fail); all_goals (conv => whnf)
    refine LpM.start 3 ?_
    refine LpM.succ (bs.av (sx := nos) kT0_ok ?_)
    repeat' (first | refine wk3 ?_ | (refine wk2 ?_ ?_ <;> intro _) | refine wk4 ?_ | fail); all_goals (conv => whnf)
    all_goals (try (exfalso; simp_all; done))
    refine LpM.succ (bs.av (sx := nos) kT0_ok ?_)
    repeat' (first | refine wk3 ?_ | (refine wk2 ?_ ?_ <;> intro _) | refine wk4 ?_ | fail); all_goals (conv => whnf)
    all_goals (try (exfalso; simp_all; done))
    refine LpM.succ (bs.av (sx := nos) kT0_ok ?_)
    repeat' (first | refine wk3 ?_ | (refine wk2 ?_ ?_ <;> intro _) | refine wk4 ?_ | fail); all_goals (conv => whnf)
    all_goals first | exact ret_of rfl rfl | (exfalso; simp_all; done)
  have e : ttE a b = 0 := by unfold ttE; rw [if_pos (by rw [ha, hb]; rfl), if_neg hne]
  obtain ⟨⟨g1, g2⟩, g3⟩ := diff_ok ha hb hne
  have hk := one_ok (d88 g1 g2 g3) kT0_ok
  rw [e, show ∀ x, okP 0 x = x from fun x => if_pos rfl]
  unfold coB at ha hb
  rw [Bool.and_eq_true] at ha hb
  obtain ⟨p1, p2⟩ := ha
  obtain ⟨p3, p4⟩ := hb
  generalize tuV (IntKind.i64.wrap (b.1 - a.1)) (IntKind.i64.wrap (b.2 - a.2)) = V at *
  refine bs.pv (sx := nos) hk Tryz.func29 (by kernel_rfl) (by kernel_rfl) rfl ?_
  repeat' (first | refine wk3 ?_ | (refine wk2 ?_ ?_ <;> intro _) | refine wk4 ?_ | fail); all_goals (conv => whnf)
  refine LpM.start 3 ?_
  refine LpM.succ (bs.av (sx := nos) hk ?_)
  repeat' (first | refine wk3 ?_ | (refine wk2 ?_ ?_ <;> intro _) | refine wk4 ?_ | fail); all_goals (conv => whnf)
  all_goals (try (exfalso; clear hk; simp_all; done))
  refine LpM.succ (bs.av (sx := nos) hk ?_)
  repeat' (first | refine wk3 ?_ | (refine wk2 ?_ ?_ <;> intro _) | refine wk4 ?_ | fail); all_goals (conv => whnf)
  all_goals (try (exfalso; clear hk; simp_all; done))
  refine LpM.succ (bs.av (sx := nos) hk ?_)
  repeat' (first | refine wk3 ?_ | (refine wk2 ?_ ?_ <;> intro _) | refine wk4 ?_ | fail); all_goals (conv => whnf)
  all_goals first | exact ret_of rfl rfl | (exfalso; clear hk; simp_all; done)
set_option maxHeartbeats 8000000 in
theorem d30 (a b : Tn) : PCall Tryz.prog 30 [P2 a.1 a.2, P2 b.1 b.2] ⟨.tup [P2 (ttV a b).1 (ttV a b).2, I (ttE a b)], []⟩ := by
  have h1 := d89 a
  have h2 := d89 b
  unfold ttV
  have hk := ins_ok (f0 := 89) (r := fun x => match x with
    | [.agg [.int .i64 c, .int .i64 d]] => some ⟨I (unl (coB (c, d)) 2), []⟩
    | _ => none) (fun x res h => by split at h <;> cases h; exact d89 (_, _)) pt0_ok
  by_cases ha : coB a = true
  rotate_left
  · have e : ttE a b = 2 := by unfold ttE; rw [if_neg (by simp [ha])]
    rw [e, show okP 2 (tuV (IntKind.i64.wrap (b.1 - a.1)) (IntKind.i64.wrap (b.2 - a.2))) = (0, 0) from if_neg (by decide)]
    refine bs.pv (sx := nos) hk Tryz.func30 (by kernel_rfl) (by kernel_rfl) rfl ?_
    repeat' (first | refine wk3 ?_ | (refine wk2 ?_ ?_ <;> intro _) | refine wk4 ?_ | fail); all_goals (conv => whnf)
    all_goals first | exact ret_of rfl rfl | (exfalso; clear hk; simp_all [unl]; done)
  by_cases hb : coB b = true
  rotate_left
  · have e : ttE a b = 2 := by unfold ttE; rw [if_neg (by simp [hb])]
    rw [e, show okP 2 (tuV (IntKind.i64.wrap (b.1 - a.1)) (IntKind.i64.wrap (b.2 - a.2))) = (0, 0) from if_neg (by decide)]
    refine bs.pv (sx := nos) hk Tryz.func30 (by kernel_rfl) (by kernel_rfl) rfl ?_
    repeat' (first | refine wk3 ?_ | (refine wk2 ?_ ?_ <;> intro _) | refine wk4 ?_ | fail); all_goals (conv => whnf)
    all_goals first | exact ret_of rfl rfl | (exfalso; clear hk; simp_all [unl]; done)
  by_cases hne : a.1 = b.1 ∧ a.2 = b.2
  · have e : ttE a b = 11 := by unfold ttE; rw [if_pos (by rw [ha, hb]; rfl), if_pos hne]
    rw [e, show okP 11 (tuV (IntKind.i64.wrap (b.1 - a.1)) (IntKind.i64.wrap (b.2 - a.2))) = (0, 0) from if_neg (by decide)]
    refine bs.pv (sx := nos) hk Tryz.func30 (by kernel_rfl) (by kernel_rfl) rfl ?_
    repeat' (first | refine wk3 ?_ | (refine wk2 ?_ ?_ <;> intro _) | refine wk4 ?_ | fail); all_goals (conv => whnf)
    all_goals first | exact ret_of rfl rfl | (exfalso; clear hk; simp_all [unl]; done)
  have e : ttE a b = 0 := by unfold ttE; rw [if_pos (by rw [ha, hb]; rfl), if_neg hne]
  obtain ⟨⟨g1, g2⟩, g3⟩ := diff_ok ha hb hne
  have hk := one_ok (d90 g1 g2 g3) hk
  rw [e, show ∀ x, okP 0 x = x from fun x => if_pos rfl]
  generalize tuV (IntKind.i64.wrap (b.1 - a.1)) (IntKind.i64.wrap (b.2 - a.2)) = V at *
  refine bs.pv (sx := nos) hk Tryz.func30 (by kernel_rfl) (by kernel_rfl) rfl ?_
  repeat' (first | refine wk3 ?_ | (refine wk2 ?_ ?_ <;> intro _) | refine wk4 ?_ | fail); all_goals (conv => whnf)
  all_goals first | exact ret_of rfl rfl | (exfalso; clear hk; simp_all [unl]; done)
def tn3E (a b x : Tn) : Int := fstL [tnE a, tnE b, tnE x]
def tn3V (a b x : Tn) : Bool := decide (tn3E a b x = 0) && btW a b x
structure Tn64 (t : Tn) : Prop where
  x : i64 t.1
  y : i64 t.2
noncomputable def rTn : List AV → Option PRes := famA Tn64 (fun t => [P2 t.1 t.2]) (fun t => ⟨I (tnE t), []⟩)
theorem rTn_hit {t : Tn} (h : Tn64 t) : rTn [P2 t.1 t.2] = some ⟨I (tnE t), []⟩ :=
  famA_hit (p := Tn64) (g := fun t => [P2 t.1 t.2]) (r := fun t => ⟨I (tnE t), []⟩) (k := t) (fun j hj => by
    simp only [List.cons.injEq, AV.agg.injEq, AV.int.injEq, true_and, and_true] at hj
    rw [show j = t from Prod.ext hj.1 hj.2]) h
noncomputable def kT1 : PC := ins 91 rTn (ins 32 rTn kT0)
theorem kT1_ok : PCOK Tryz.prog kT1 := famA_ok (fun t h => d91 h.x h.y) (famA_ok (fun t h => d32 h.x h.y) kT0_ok)
set_option maxHeartbeats 4000000 in
theorem d31 {a b x : Tn} (ha : Tn64 a) (hb : Tn64 b) (hx : Tn64 x) : PCall Tryz.prog 31 [P2 a.1 a.2, P2 b.1 b.2, P2 x.1 x.2] ⟨.tup [Bo (tn3V a b x), I (tn3E a b x)], []⟩ := by
  have f1 := rTn_hit ha
  have f2 := rTn_hit hb
  have f3 := rTn_hit hx
  have hk := one_ok (d92b a b x) kT1_ok
  unfold tn3V tn3E
  generalize btW a b x = R at *
  generalize tnE a = A at *
  generalize tnE b = B at *
  generalize tnE x = X at *
  by_cases c : fstL [A, B, X] = 0
  · rw [decide_eq_true c, c]
    refine bs.pv (sx := nos) hk Tryz.func31 (by kernel_rfl) (by kernel_rfl) rfl ?_
    repeat' (first | refine wk3 ?_ | (refine wk2 ?_ ?_ <;> intro _) | refine wk4 ?_ | fail); all_goals (conv => whnf)
    all_goals first | exact ret_of rfl rfl | (exfalso; rename_i q; simp [c] at q; done)
  · rw [decide_eq_false c]
    refine bs.pv (sx := nos) hk Tryz.func31 (by kernel_rfl) (by kernel_rfl) rfl ?_
    repeat' (first | refine wk3 ?_ | (refine wk2 ?_ ?_ <;> intro _) | refine wk4 ?_ | fail); all_goals (conv => whnf)
    all_goals first | exact ret_of rfl rfl | (exfalso; rename_i q; exact c (nd_of q))
noncomputable def kT5 (a b x f t : Tn) (E : Int) (V : Int × Int) (R : Bool) (F : Int) (Rb : Bool) : PC := ins 12 r12 (ins 31 (one [P2 a.1 a.2, P2 b.1 b.2, P2 x.1 x.2] ⟨.tup [Bo Rb, I F], []⟩) (ins 29 (one [P2 f.1 f.2, P2 t.1 t.2] ⟨.tup [P2 V.1 V.2, I E], []⟩) (ins 30 (one [P2 f.1 f.2, P2 t.1 t.2] ⟨.tup [P2 V.1 V.2, I E], []⟩) (ins 33 (one [P2 a.1 a.2, P2 b.1 b.2, P2 x.1 x.2] ⟨Bo R, []⟩) kT1))))
abbrev threeA (a b x f t : Tn) : AV := .agg [I a.1, I a.2, I b.1, I b.2, I x.1, I x.2, I f.1, I f.2, I t.1, I t.2]
set_option maxRecDepth 100000 in
set_option maxHeartbeats 16000000 in
theorem d5_0 {a b x f t : Tn} {E A B X : Int} {V : Int × Int} {R : Bool} (f1 : rTn [P2 a.1 a.2] = some ⟨I A, []⟩) (f2 : rTn [P2 b.1 b.2] = some ⟨I B, []⟩) (f3 : rTn [P2 x.1 x.2] = some ⟨I X, []⟩) (c : ¬ A = 0) (hk : PCOK Tryz.prog (kT5 a b x f t E V R A false)) : PCall Tryz.prog 5 [threeA a b x f t] ⟨Bo true, []⟩ := by
  unfold kT5 at hk
  refine bs.pv (sx := nos) hk Tryz.func5 (by kernel_rfl) (by kernel_rfl) rfl ?_
  repeat' (first | refine wk3 ?_ | (refine wk2 ?_ ?_ <;> intro _) | refine wk4 ?_ | fail); all_goals (conv => whnf)
  all_goals first | exact ret_bool rfl | (refine ret_bool ?_; clear hk; simp_all; done) | (exfalso; clear hk; simp_all; done)
set_option maxRecDepth 100000 in
set_option maxHeartbeats 16000000 in
theorem d5_1 {a b x f t : Tn} {E B X : Int} {V : Int × Int} {R : Bool} (f1 : rTn [P2 a.1 a.2] = some ⟨I 0, []⟩) (f2 : rTn [P2 b.1 b.2] = some ⟨I B, []⟩) (f3 : rTn [P2 x.1 x.2] = some ⟨I X, []⟩) (c : ¬ B = 0) (hk : PCOK Tryz.prog (kT5 a b x f t E V R B false)) : PCall Tryz.prog 5 [threeA a b x f t] ⟨Bo true, []⟩ := by
  unfold kT5 at hk
  refine bs.pv (sx := nos) hk Tryz.func5 (by kernel_rfl) (by kernel_rfl) rfl ?_
  repeat' (first | refine wk3 ?_ | (refine wk2 ?_ ?_ <;> intro _) | refine wk4 ?_ | fail); all_goals (conv => whnf)
  all_goals first | exact ret_bool rfl | (refine ret_bool ?_; clear hk; simp_all; done) | (exfalso; clear hk; simp_all; done)
set_option maxRecDepth 100000 in
set_option maxHeartbeats 16000000 in
theorem d5_2 {a b x f t : Tn} {E X : Int} {V : Int × Int} {R : Bool} (f1 : rTn [P2 a.1 a.2] = some ⟨I 0, []⟩) (f2 : rTn [P2 b.1 b.2] = some ⟨I 0, []⟩) (f3 : rTn [P2 x.1 x.2] = some ⟨I X, []⟩) (c : ¬ X = 0) (hk : PCOK Tryz.prog (kT5 a b x f t E V R X false)) : PCall Tryz.prog 5 [threeA a b x f t] ⟨Bo true, []⟩ := by
  unfold kT5 at hk
  refine bs.pv (sx := nos) hk Tryz.func5 (by kernel_rfl) (by kernel_rfl) rfl ?_
  repeat' (first | refine wk3 ?_ | (refine wk2 ?_ ?_ <;> intro _) | refine wk4 ?_ | fail); all_goals (conv => whnf)
  all_goals first | exact ret_bool rfl | (refine ret_bool ?_; clear hk; simp_all; done) | (exfalso; clear hk; simp_all; done)
set_option maxRecDepth 100000 in
set_option maxHeartbeats 16000000 in
theorem d5_3 {a b x f t : Tn} {E : Int} {V : Int × Int} {R : Bool} (f1 : rTn [P2 a.1 a.2] = some ⟨I 0, []⟩) (f2 : rTn [P2 b.1 b.2] = some ⟨I 0, []⟩) (f3 : rTn [P2 x.1 x.2] = some ⟨I 0, []⟩) (hk : PCOK Tryz.prog (kT5 a b x f t E V R 0 R)) : PCall Tryz.prog 5 [threeA a b x f t] ⟨Bo true, []⟩ := by
  unfold kT5 at hk
  refine bs.pv (sx := nos) hk Tryz.func5 (by kernel_rfl) (by kernel_rfl) rfl ?_
  repeat' (first | refine wk3 ?_ | (refine wk2 ?_ ?_ <;> intro _) | refine wk4 ?_ | fail); all_goals (conv => whnf)
  all_goals first | exact ret_bool rfl | (refine ret_bool ?_; clear hk; simp_all; done) | (exfalso; clear hk; simp_all; done)
theorem rTn3 {a b x : Tn} (h1 : tnE a = 0) (h2 : tnE b = 0) (h3 : tnE x = 0) : fstL [tnE a, tnE b, tnE x] = 0 := by rw [h1, h2, h3]; rfl
theorem kT5_ok (aw : PCall Tryz.prog 12 [] ⟨Bo true, []⟩) {a b x : Tn} (ha : Tn64 a) (hb : Tn64 b) (hx : Tn64 x) (f t : Tn) : PCOK Tryz.prog (kT5 a b x f t (ttE f t) (ttV f t) (btW a b x) (tn3E a b x) (tn3V a b x)) := by
  unfold kT5
  exact ins_ok (fun a res h => by unfold r12 at h; split at h <;> cases h; exact aw) (one_ok (d31 ha hb hx) (one_ok (d29 f t) (one_ok (d30 f t) (one_ok (d33b a b x) kT1_ok))))
theorem d5_any {a b x f t : Tn} {E A B X : Int} {V : Int × Int} {R : Bool} (f1 : rTn [P2 a.1 a.2] = some ⟨I A, []⟩) (f2 : rTn [P2 b.1 b.2] = some ⟨I B, []⟩) (f3 : rTn [P2 x.1 x.2] = some ⟨I X, []⟩) (hk : PCOK Tryz.prog (kT5 a b x f t E V R (fstL [A, B, X]) (decide (fstL [A, B, X] = 0) && R))) : PCall Tryz.prog 5 [threeA a b x f t] ⟨Bo true, []⟩ := by
  by_cases c1 : A = 0
  rotate_left
  · rw [show fstL [A, B, X] = A from fst_ne c1, decide_eq_false c1] at hk
    exact d5_0 f1 f2 f3 c1 hk
  subst c1
  by_cases c2 : B = 0
  rotate_left
  · rw [show fstL [0, B, X] = B from fst_ne c2, decide_eq_false c2] at hk
    exact d5_1 f1 f2 f3 c2 hk
  subst c2
  by_cases c3 : X = 0
  rotate_left
  · rw [show fstL [0, 0, X] = X from fst_ne c3, decide_eq_false c3] at hk
    exact d5_2 f1 f2 f3 c3 hk
  subst c3
  rw [show fstL [0, 0, 0] = 0 from rfl, show decide ((0 : Int) = 0) = true from rfl] at hk
  exact d5_3 f1 f2 f3 hk
theorem d5 (aw : PCall Tryz.prog 12 [] ⟨Bo true, []⟩) {a b x : Tn} (ha : Tn64 a) (hb : Tn64 b) (hx : Tn64 x) (f t : Tn) : PCall Tryz.prog 5 [threeA a b x f t] ⟨Bo true, []⟩ :=
  d5_any (rTn_hit ha) (rTn_hit hb) (rTn_hit hx) (kT5_ok aw ha hb hx f t)
end Go.Proofs.YtdaliaafmcjikaaGreat
