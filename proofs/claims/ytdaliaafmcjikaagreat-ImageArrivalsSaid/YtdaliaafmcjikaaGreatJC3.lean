/- A part of the proof: lemmas. -/
import Derived.Test.YtdaliaafmcjikaaGreatJC2
set_option linter.unusedVariables false
set_option linter.unusedSimpArgs false
namespace Go.Proofs.YtdaliaafmcjikaaGreat
open Go Go.Sx
/-! ### Gaps and arrivals -/
theorem lsGo_ok : ∀ {l : List Pth} {q : Option Int}, lsGo q l = 0 → ∀ p ∈ l, pthE p = 0
  | [], _, _, p, hp => by simp at hp
  | x :: l, q, h, p, hp => by
    rw [lsGo] at h
    by_cases c : pthE x = 0
    · rw [if_neg (fun k => k c)] at h
      split at h
      · cases h
      · rw [List.mem_cons] at hp
        rcases hp with rfl | hp
        · exact c
        · exact lsGo_ok h p hp
    · rw [if_pos c] at h; exact absurd h c
theorem lsE_ok {l : List Pth} (h : lsE l = 0) : (∀ p ∈ l, pthE p = 0) ∧ l.length ≤ 200 := by
  unfold lsE at h
  split at h
  · cases h
  · exact ⟨lsGo_ok h, by omega⟩
noncomputable def r100 (v : Int) : List AV → Option PRes := famA (fun p : Pth => pthE p = 0) (fun p => [p.av, I v]) (fun p => ⟨P2 (delV p.sq v).1 (delV p.sq v).2, []⟩)
theorem r100_hit {v : Int} {p : Pth} (h : pthE p = 0) : r100 v [p.av, I v] = some ⟨P2 (delV p.sq v).1 (delV p.sq v).2, []⟩ :=
  famA_hit (p := fun p : Pth => pthE p = 0) (g := fun p => [p.av, I v]) (r := fun p => ⟨P2 (delV p.sq v).1 (delV p.sq v).2, []⟩) (k := p) (fun j hj => by
    simp only [List.cons.injEq, and_true] at hj
    rw [pav_inj hj]) h
noncomputable def r45 (v : Int) : List AV → Option PRes := famA (fun s : Int => 1 ≤ s ∧ s ≤ 24300000000) (fun s => [I s, I v]) (fun s => ⟨P2 (delV s v).1 (delV s v).2, []⟩)
theorem r45_hit {v s : Int} (h : 1 ≤ s ∧ s ≤ 24300000000) : r45 v [I s, I v] = some ⟨P2 (delV s v).1 (delV s v).2, []⟩ :=
  famA_hit (p := fun s : Int => 1 ≤ s ∧ s ≤ 24300000000) (g := fun s => [I s, I v]) (r := fun s => ⟨P2 (delV s v).1 (delV s v).2, []⟩) (k := s) (fun j hj => by
    simp only [List.cons.injEq, AV.int.injEq, true_and, and_true] at hj
    rw [hj]) h
def gapW (a b : Int × Int) : Int × Int := (Sx.imax 0 (IntKind.i64.wrap (b.1 - a.2)), IntKind.i64.wrap (b.2 - a.1))
noncomputable def gapV (l : List Pth) (v : Int) : Int × Int := gapW (delV (l.getD 0 zPth).sq v) (delV (l.getD 1 zPth).sq v)
noncomputable def gaE (l : List Pth) (v : Int) : Int := fstL [lsE l, spE v, unl (decide ((2 : Int) ≤ ((l.map pv).length : Int))) 10]
set_option maxHeartbeats 4000000 in
theorem d48 {l : List Pth} (hl : l.length < 100000) (v : Int) : PCall Tryz.prog 48 [.isl 3 (l.map pv), I v] ⟨.tup [P2 (okP (gaE l v) (gapV l v)).1 (okP (gaE l v) (gapV l v)).2, I (gaE l v)], []⟩ := by
  have h1 := d111 hl
  have h2 := d99s v
  have l1 := pv_len l
  by_cases c : gaE l v = 0
  · obtain ⟨c1, c2, c3⟩ := fst_three.1 c
    rw [show okP (gaE l v) (gapV l v) = gapV l v from if_pos c, c]
    have hok := (lsE_ok c1).1
    have hlen : 2 ≤ l.length := by
      by_cases q : (2 : Int) ≤ ((l.map pv).length : Int)
      · rw [l1] at q; omega
      · rw [decide_eq_false q] at c3; cases c3
    have h3 := one_ok h1 (one_ok h2 (famA_ok (f0 := 100) (fun p (hp : pthE p = 0) => d100 (v := v) hp c2) kI0_ok))
    change PCOK Tryz.prog (ins 111 _ (ins 99 _ (ins 100 (r100 v) kI0))) at h3
    rw [c1, c2] at h3
    have e0 := pv_get (show 0 < l.length by omega)
    have e1 := pv_get (show 1 < l.length by omega)
    have f0 := r100_hit (v := v) (hok _ (List.getElem_mem (show 0 < l.length by omega)))
    have f1 := r100_hit (v := v) (hok _ (List.getElem_mem (show 1 < l.length by omega)))
    unfold gapV
    rw [List.getD_eq_getElem?_getD, List.getD_eq_getElem?_getD, List.getElem?_eq_getElem (show 0 < l.length by omega), List.getElem?_eq_getElem (show 1 < l.length by omega), Option.getD_some, Option.getD_some]
    generalize l[0] = x at *
    generalize l[1] = y at *
    generalize delV x.sq v = X at *
    generalize delV y.sq v = Y at *
    refine bs.pv (sx := nos) h3 Tryz.func48 (by kernel_rfl) (by kernel_rfl) rfl ?_
    repeat' (first | refine wk3 ?_ | (refine wk2 ?_ ?_ <;> intro _) | refine wk4 ?_ | fail); all_goals (conv => whnf)
    all_goals first | exact ret_of rfl rfl | (exfalso; rename_i q; simp [hlen, l1, fstL, unl] at q; omega) | (exfalso; simp_all [fstL, unl] <;> omega)
  · rw [show okP (gaE l v) (gapV l v) = (0, 0) from if_neg c]
    unfold gaE at c ⊢
    have h3 := one_ok h1 (one_ok h2 kI0_ok)
    generalize lsE l = E at *
    generalize spE v = F at *
    refine bs.pv (sx := nos) h3 Tryz.func48 (by kernel_rfl) (by kernel_rfl) rfl ?_
    repeat' (first | refine wk3 ?_ | (refine wk2 ?_ ?_ <;> intro _) | refine wk4 ?_ | fail); all_goals (conv => whnf)
    all_goals first | exact ret_of rfl rfl | (exfalso; rename_i q; exact c (nd_of q))
theorem d52 {l : List Pth} (h2 : 2 ≤ l.length) (hl : l.length < 100000) (hok : ∀ p ∈ l, pthE p = 0) {v : Int} (hv : spE v = 0) : PCall Tryz.prog 52 [.isl 3 (l.map pv), I v] ⟨P2 (gapV l v).1 (gapV l v).2, []⟩ := by
  have l1 := pv_len l
  have h3 : PCOK Tryz.prog (ins 45 (r45 v) pt0) := famA_ok (fun s hs => d45 hs.1 hs.2 hv) pt0_ok
  have e0 := pv_get (show 0 < l.length by omega)
  have e1 := pv_get (show 1 < l.length by omega)
  have f0 := r45_hit (v := v) (pthE_zero (hok _ (List.getElem_mem (show 0 < l.length by omega)))).2
  have f1 := r45_hit (v := v) (pthE_zero (hok _ (List.getElem_mem (show 1 < l.length by omega)))).2
  unfold gapV
  rw [List.getD_eq_getElem?_getD, List.getD_eq_getElem?_getD, List.getElem?_eq_getElem (show 0 < l.length by omega), List.getElem?_eq_getElem (show 1 < l.length by omega), Option.getD_some, Option.getD_some]
  generalize l[0] = x at *
  generalize l[1] = y at *
  generalize delV x.sq v = X at *
  generalize delV y.sq v = Y at *
  refine bs.pv (sx := nos) h3 Tryz.func52 (by kernel_rfl) (by kernel_rfl) rfl ?_
  repeat' (first | refine wk3 ?_ | (refine wk2 ?_ ?_ <;> intro _) | refine wk4 ?_ | fail); all_goals (conv => whnf)
  all_goals first | exact ret_of rfl rfl | (exfalso; simp_all <;> omega)
noncomputable def arrG (v m : Int) : Int × Int → List Pth → Int × Int
  | n, [] => n
  | n, p :: l => arrG v m (if (delV p.sq v).2 ≤ m then IntKind.i64.wrap (n.1 + 1) else n.1, if (delV p.sq v).1 ≤ m then IntKind.i64.wrap (n.2 + 1) else n.2) l
theorem arrG_le {v m : Int} (hv : spE v = 0) : ∀ {l : List Pth} {n : Int × Int}, (∀ p ∈ l, pthE p = 0) → 0 ≤ n.1 → n.1 ≤ n.2 → n.2 + l.length ≤ 1000000 → (arrG v m n l).1 ≤ (arrG v m n l).2
  | [], n, _, _, h, _ => h
  | p :: l, n, hok, h0, h1, h2 => by
    rw [List.length_cons] at h2
    obtain ⟨_, s1, s2⟩ := pthE_zero (hok p (by simp))
    obtain ⟨g1, g2, g3⟩ := delV_bd s1 s2 hv
    have w1 : IntKind.i64.wrap (n.1 + 1) = n.1 + 1 := W_eq (by omega) (by omega)
    have w2 : IntKind.i64.wrap (n.2 + 1) = n.2 + 1 := W_eq (by omega) (by omega)
    rw [arrG, w1, w2]
    refine arrG_le hv (fun q hq => hok q (by simp [hq])) ?_ ?_ ?_
    · dsimp only; split <;> omega
    · dsimp only; split <;> split <;> omega
    · dsimp only; split <;> omega
noncomputable def arE (l : List Pth) (v m : Int) : Int := fstL [lsE l, spE v, unl (within m 0 10000000) 2]
set_option maxRecDepth 100000 in
set_option maxHeartbeats 8000000 in
theorem d53 {l : List Pth} (hl : l.length < 100000) (hok : ∀ p ∈ l, pthE p = 0) {v : Int} (hv : spE v = 0) (m : Int) : PCall Tryz.prog 53 [.isl 3 (l.map pv), I v, I m] ⟨P2 (arrG v m (0, 0) l).1 (arrG v m (0, 0) l).2, []⟩ := by
  have l1 := pv_len l
  have hk : PCOK Tryz.prog (ins 45 (r45 v) pt0) := famA_ok (fun s hs => d45 hs.1 hs.2 hv) pt0_ok
  refine bs.pv (sx := nos) hk Tryz.func53 (by kernel_rfl) (by kernel_rfl) rfl ?_
  conv => whnf
  refine loopV (S := Nat × Int × Int × Int) (fun t => l.length - t.1) (fun t => [(0, .isl 3 (l.map pv)), (1, I v), (2, I m), (6, .ptr 0 0 0), (7, .ptr 1 0 0), (8, I t.2.1)]) (fun t => [(1, .row 2 [[I t.2.2.1, I t.2.2.2]] true false), (0, .row 2 [[I 0, I 0]] true false)]) 2 2
    (fun t => t.2.1 = t.1 ∧ t.1 ≤ l.length ∧ arrG v m (t.2.2.1, t.2.2.2) (l.drop t.1) = arrG v m (0, 0) l) (0, 0, 0, 0) ⟨rfl, Nat.zero_le _, rfl⟩ (Nat.le_refl _) [] rfl (kps) (kps) ?_
  rintro ⟨k, i, x, y⟩ ⟨hi, hk1, hh⟩
  dsimp only at hi hk1 hh ⊢
  subst hi
  generalize arrG v m (0, 0) l = R at *
  refine bs.av (sx := nos) hk ?_
  by_cases hlt : k < l.length
  · have e1 := pv_get hlt
    have f1 := r45_hit (v := v) (pthE_zero (hok _ (List.getElem_mem hlt))).2
    rw [List.drop_eq_getElem_cons hlt, arrG] at hh
    generalize l[k] = p at *
    generalize delV p.sq v = X at *
    obtain ⟨X1, X2⟩ := X
    dsimp only at hh f1
    by_cases z1 : X2 ≤ m <;> by_cases z2 : X1 ≤ m
    all_goals
      simp only [z1, z2, if_true, if_false] at hh
      repeat' (first | refine wk3 ?_ | (refine wk2 ?_ ?_ <;> intro _) | refine wk4 ?_ | fail); all_goals (conv => whnf)
      all_goals first
        | exact Done.mk ⟨(k + 1, _, _, _), [], rfl, kps, kps, ⟨W_succ (by omega), hlt, hh⟩, by dsimp only; omega⟩
        | (exfalso; simp_all; done)
  · rw [List.drop_of_length_le (by omega), arrG] at hh
    subst hh
    repeat' (first | refine wk3 ?_ | (refine wk2 ?_ ?_ <;> intro _) | refine wk4 ?_ | fail); all_goals (conv => whnf)
    exact ret_of rfl rfl
set_option maxRecDepth 100000 in
set_option maxHeartbeats 8000000 in
theorem d50 {l : List Pth} (hl : l.length < 100000) (v m : Int) : PCall Tryz.prog 50 [.isl 3 (l.map pv), I v, I m] ⟨.tup [P2 (okP (arE l v m) (arrG v m (0, 0) l)).1 (okP (arE l v m) (arrG v m (0, 0) l)).2, I (arE l v m)], []⟩ := by
  have h1 := d111 hl
  have h2 := d99s v
  have l1 := pv_len l
  by_cases c : arE l v m = 0
  rotate_left
  · rw [show okP (arE l v m) (arrG v m (0, 0) l) = (0, 0) from if_neg c]
    unfold arE at c ⊢
    have h3 := one_ok h1 (one_ok h2 kI0_ok)
    generalize lsE l = E at *
    generalize spE v = F at *
    refine bs.pv (sx := nos) h3 Tryz.func50 (by kernel_rfl) (by kernel_rfl) rfl ?_
    repeat' (first | refine wk3 ?_ | (refine wk2 ?_ ?_ <;> intro _) | refine wk4 ?_ | fail); all_goals (conv => whnf)
    all_goals first | exact ret_of rfl rfl | (exfalso; rename_i q; exact c (nd_of q))
  obtain ⟨c1, c2, c3⟩ := fst_three.1 c
  rw [show okP (arE l v m) (arrG v m (0, 0) l) = arrG v m (0, 0) l from if_pos c, c]
  have hok := (lsE_ok c1).1
  have h3 := one_ok h1 (one_ok h2 (famA_ok (f0 := 100) (fun p (hp : pthE p = 0) => d100 (v := v) hp c2) kI0_ok))
  change PCOK Tryz.prog (ins 111 _ (ins 99 _ (ins 100 (r100 v) kI0))) at h3
  rw [c1, c2] at h3
  cases hw : within m 0 10000000
  · rw [hw] at c3; cases c3
  refine bs.pv (sx := nos) h3 Tryz.func50 (by kernel_rfl) (by kernel_rfl) rfl ?_
  repeat' (first | refine wk3 ?_ | (refine wk2 ?_ ?_ <;> intro _) | refine wk4 ?_ | fail); all_goals (conv => whnf)
  · exfalso; rename_i q; rw [hw] at q; exact absurd q (by decide)
  refine loopV (S := Nat × Int × Int × Int) (fun t => l.length - t.1) (fun t => [(1, I v), (2, I m), (6, .ptr 0 0 0), (9, .ptr 2 0 0), (28, .isl 3 (l.map pv)), (29, I (l.map pv).length), (30, I t.2.1)]) (fun t => [(2, .row 2 [[I t.2.2.1, I t.2.2.2]] true false), (0, .row 2 [[I 0, I 0]] true false)]) 3 3
    (fun t => t.2.1 = t.1 ∧ t.1 ≤ l.length ∧ arrG v m (t.2.2.1, t.2.2.2) (l.drop t.1) = arrG v m (0, 0) l) (0, 0, 0, 0) ⟨rfl, Nat.zero_le _, rfl⟩ (Nat.le_refl _) [] rfl (kps) (kps) ?_
  rintro ⟨k, i, x, y⟩ ⟨hi, hk1, hh⟩
  dsimp only at hi hk1 hh ⊢
  subst hi
  generalize arrG v m (0, 0) l = R at *
  refine bs.av (sx := nos) h3 ?_
  by_cases hlt : k < l.length
  · have e1 := pv_get hlt
    have f1 := r100_hit (v := v) (hok _ (List.getElem_mem hlt))
    rw [List.drop_eq_getElem_cons hlt, arrG] at hh
    generalize l[k] = p at *
    generalize delV p.sq v = X at *
    obtain ⟨X1, X2⟩ := X
    dsimp only at hh f1
    by_cases z1 : X2 ≤ m <;> by_cases z2 : X1 ≤ m
    all_goals
      simp only [z1, z2, if_true, if_false] at hh
      repeat' (first | refine wk3 ?_ | (refine wk2 ?_ ?_ <;> intro _) | refine wk4 ?_ | fail); all_goals (conv => whnf)
      refine LpM.start 4 ?_
      refine LpM.succ (bs.av (sx := nos) h3 ?_)
      repeat' (first | refine wk3 ?_ | (refine wk2 ?_ ?_ <;> intro _) | refine wk4 ?_ | fail); all_goals (conv => whnf)
      refine LpM.succ (bs.av (sx := nos) h3 ?_)
      repeat' (first | refine wk3 ?_ | (refine wk2 ?_ ?_ <;> intro _) | refine wk4 ?_ | fail); all_goals (conv => whnf)
      refine LpM.succ (bs.av (sx := nos) h3 ?_)
      repeat' (first | refine wk3 ?_ | (refine wk2 ?_ ?_ <;> intro _) | refine wk4 ?_ | fail); all_goals (conv => whnf)
      all_goals first
        | exact Done.mk ⟨(k + 1, _, _, _), [], rfl, kps, kps, ⟨W_succ (by omega), hlt, hh⟩, by dsimp only; omega⟩
        | (exfalso; simp_all; done)
  · rw [List.drop_of_length_le (by omega), arrG] at hh
    subst hh
    repeat' (first | refine wk3 ?_ | (refine wk2 ?_ ?_ <;> intro _) | refine wk4 ?_ | fail); all_goals (conv => whnf)
    exact ret_of rfl rfl
end Go.Proofs.YtdaliaafmcjikaaGreat
