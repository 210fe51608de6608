/- A part of the proof: lemmas. -/
import Derived.Test.YtddhjopopelkjaaGreatZJ5
import Derived.Test.YtddhjopopelkjaaGreatZJn
set_option linter.unusedVariables false
set_option linter.unusedSimpArgs false
namespace Go.Proofs.YtddhjopopelkjaaGreat
open Go Go.Sx
/-! ### The text of a walk -/
def nmAt (h : Hal) (n : Int) : ByteArray := ((surf h)[n.toNat]?).getD ⟨#[]⟩
def fwS (h : Hal) (l : List Int) : ByteArray := if suE h l = 0 then (if l = [] then ⟨#[45]⟩ else jnS (l.map (nmAt h)) ⟨#[32]⟩) else ⟨#[]⟩
theorem surf_size {h : Hal} (hk : h.ok) : ∀ b ∈ surf h, b.data.toList.length < 100000 := by
  intro b hb
  unfold surf at hb
  rw [List.mem_append, List.mem_append] at hb
  obtain ⟨_, t⟩ := hk
  rcases hb with (hb | hb) | hb
  · unfold wNames at hb
    obtain ⟨m, hm, rfl⟩ := List.mem_map.1 hb
    exact t.ws m hm
  · simp only [List.mem_cons, List.not_mem_nil, or_false] at hb
    rcases hb with rfl | rfl <;> decide
  · unfold kNames at hb
    obtain ⟨m, hm, rfl⟩ := List.mem_map.1 hb
    exact t.ks m hm
theorem nmAt_size {h : Hal} (hk : h.ok) (n : Int) : (nmAt h n).data.toList.length < 100000 := by
  unfold nmAt
  cases hq : (surf h)[n.toNat]? with
  | none => decide
  | some b => exact surf_size hk b (List.mem_of_getElem? hq)
theorem lens_bd {h : Hal} (hk : h.ok) : ∀ l : List Int, Lib.lens ((l.map (nmAt h)).map (·.data.toList)) ≤ 100000 * l.length
  | [] => by simp [Lib.lens]
  | x :: l => by
    have ih := lens_bd hk l
    have := nmAt_size hk x
    unfold Lib.lens at ih ⊢
    simp only [List.map_cons, List.sum_cons, List.length_cons] at ih ⊢
    omega
theorem jn_bd {h : Hal} (hk : h.ok) {l : List Int} (hl : l.length ≤ 4) : (Lib.join ((l.map (nmAt h)).map (·.data.toList)) (ByteArray.mk #[32]).data.toList).length ≤ 140737488355328 := by
  cases l with
  | nil => exact Nat.zero_le _
  | cons x l =>
    have h1 := lens_bd hk (x :: l)
    simp only [List.map_cons] at h1 ⊢
    rw [Lib.join_length, show (ByteArray.mk #[32]).data.toList.length = 1 from rfl, Nat.one_mul]
    simp only [List.length_cons, List.length_map] at hl h1 ⊢
    omega
theorem sl_getn {h : Hal} {n : Int} (h0 : 0 ≤ n) (h1 : n ≤ nsur h - 1) : (sl (surf h))[n.toNat]? = some [.str (nmAt h n)] := by
  have l := surf_len h
  have e := nsN_eq h
  rw [sl_length] at l
  have hi : n.toNat < (surf h).length := by omega
  unfold sl nmAt
  rw [List.getElem?_map, List.getElem?_eq_getElem hi]
  rfl
set_option maxRecDepth 100000 in
set_option maxHeartbeats 16000000 in
theorem d87 {h : Hal} (hk : h.ok) (he : h.err = 0) (l : List Int) (hl : l.length < 1000) : PCall Tryz.prog 87 [h.av, .isl 1 (nl l)] ⟨.tup [.str (fwS h l), I (suE h l)], []⟩ := by
  have l2 := nl_length l
  have h164 := d164 hk
  rw [he] at h164
  have h165 := d165 hk he l hl
  have h64 := c64 hk
  rw [he, if_pos rfl] at h64
  by_cases z : suE h l = 0
  rotate_left
  · have h0 := one_ok h164 (one_ok h165 pt0_ok)
    unfold fwS
    rw [if_neg z]
    generalize suE h l = E at *
    refine bs.pv (sx := nos) h0 Tryz.func87 (by kernel_rfl) (by kernel_rfl) rfl ?_
    repeat' (first | refine wk3 ?_ | (refine wk2 ?_ ?_ <;> intro _) | refine wk4 ?_ | fail); all_goals (conv => whnf)
    all_goals exact ret_of rfl rfl
  unfold fwS
  rw [if_pos z]
  rw [z] at h165 ⊢
  have hl4 : l.length ≤ 4 := by
    unfold suE at z
    by_cases c : 4 < (l.length : Int)
    · rw [if_pos c] at z; cases z
    · omega
  have hw : wkG (nsur h - 1) none l = 0 := by unfold suE at z; rwa [if_neg (by omega)] at z
  have hin := wkG_in hw
  have hjn := d167 (l := l.map (nmAt h)) (sep := ⟨#[32]⟩) (by simp; omega) (jn_bd hk hl4)
  have et : sl (l.map (nmAt h)) = ((sl (l.map (nmAt h))).drop 0).take (sl (l.map (nmAt h))).length := by rw [List.drop_zero, List.take_length]
  rw [et] at hjn
  have hj := one_ok hjn (one_ok h164 (one_ok h165 (one_ok h64 pt0_ok)))
  have ln := surf_len h
  have en := nsN_eq h
  cases hq : l with
  | nil =>
    subst hq
    rw [if_pos rfl]
    refine bs.pv (sx := nos) hj Tryz.func87 (by kernel_rfl) (by kernel_rfl) rfl ?_
    repeat' (first | refine wk3 ?_ | (refine wk2 ?_ ?_ <;> intro _) | refine wk4 ?_ | fail); all_goals (conv => whnf)
    exact ret_of rfl rfl
  | cons x0 l0 =>
    rw [if_neg (by simp), ← hq]
    have hpos : 0 < l.length := by rw [hq]; simp
    clear hq
    refine bs.pv (sx := nos) hj Tryz.func87 (by kernel_rfl) (by kernel_rfl) rfl ?_
    repeat' (first | refine wk3 ?_ | (refine wk2 ?_ ?_ <;> intro _) | refine wk4 ?_ | fail); all_goals (conv => whnf)
    have hz : (nl l).length = l.length := l2
    refine loopV (S := Nat × Int × Nat × List (List AV)) (fun t => l.length - t.1) (fun t => [(8, .isl 1 (sl (surf h))), (10, gv 1 t.1 t.2.2.1), (32, .isl 1 (nl l)), (33, I (nl l).length), (34, I t.2.1)]) (fun t => gz 1 1 t.1 t.2.2.2 []) 1 2
      (fun t => t.2.1 = t.1 ∧ t.1 ≤ l.length ∧ t.2.2.1 = t.2.2.2.length ∧ t.2.2.2 = sl ((l.take t.1).map (nmAt h))) (0, 0, 0, []) ⟨rfl, Nat.zero_le _, rfl, rfl⟩ (Nat.le_refl _) [] rfl (kps) (kps) ?_
    rintro ⟨k, i, len, els⟩ ⟨hi, hk1, hlen, hels⟩
    dsimp only at hi hk1 hlen hels ⊢
    subst hi
    have e4 : els.length < 2000 := by rw [hels, sl_length, List.length_map, List.length_take]; omega
    by_cases hlt : k < l.length
    · have e1 := nl_get hlt
      have hx := hin _ (List.getElem_mem hlt)
      have e2 := sl_getn hx.1 hx.2
      have e3 : sl ((l.take (k + 1)).map (nmAt h)) = sl ((l.take k).map (nmAt h)) ++ [[.str (nmAt h l[k])]] := by
        rw [List.take_succ_eq_append_getElem hlt, List.map_append]
        unfold sl
        rw [List.map_append]; rfl
      generalize l[k] = x at *
      refine bs.av (sx := nos) hj ?_
      cases k with
      | zero =>
        repeat' (first | refine wk3 ?_ | (refine wk2 ?_ ?_ <;> intro _) | refine wk4 ?_ | fail); all_goals (conv => whnf)
        exact Done.mk ⟨(1, _, _, _), [(1, 3)], rfl, kps, kps, ⟨W_succ (k := 0) (by omega), hlt, rfl, e3.symm⟩, by dsimp only; omega⟩
      | succ k =>
        repeat' (first | refine wk3 ?_ | (refine wk2 ?_ ?_ <;> intro _) | refine wk4 ?_ | fail); all_goals (conv => whnf)
        exact Done.mk ⟨(k + 1 + 1, _, _, _), [(1, 3)], rfl, kps, kps, ⟨W_succ (k := k + 1) (by omega), hlt, by exact List.length_append.symm, by show _ = sl _; rw [e3, ← hels]; rfl⟩, by dsimp only; omega⟩
    · rw [List.take_of_length_le (by omega)] at hels
      subst hels
      cases k with
      | zero => exfalso; omega
      | succ k =>
        subst hlen
        refine bs.av (sx := nos) hj ?_
        repeat' (first | refine wk3 ?_ | (refine wk2 ?_ ?_ <;> intro _) | refine wk4 ?_ | fail); all_goals (conv => whnf)
        exact ret_of rfl rfl
/-! ### Copies of paths -/
set_option maxRecDepth 100000 in
set_option maxHeartbeats 4000000 in
theorem d21 {p : Pth} (h1 : p.ss.length < 100000) (h2 : p.ps.length < 100000) : PCall Tryz.prog 21 [p.av] ⟨p.av, []⟩ := by
  have o1 : oneEls (p.ps.map hp4) = true := by simp [oneEls, AV.one]
  have l2 : (p.ps.map hp4).length = p.ps.length := by simp
  have hk := one_ok (c25f p.ss h1) pt0_ok
  have key : PCall Tryz.prog 21 [p.av] ⟨.agg [.isl 1 (nl p.ss), .asl 0 0 (p.ps.map hp4).length, I p.sq], [(4, p.ps.map hp4)]⟩ := by
    obtain ⟨ss, ps, sq⟩ := p
    dsimp only at *
    cases ps with
    | nil =>
      refine bs.pv (sx := nos) hk Tryz.func21 (by kernel_rfl) (by kernel_rfl) rfl ?_
      repeat' (first | refine wk3 ?_ | (refine wk2 ?_ ?_ <;> intro _) | refine wk4 ?_ | fail); all_goals (conv => whnf)
      exact ret_rows [5] rfl rfl rfl
    | cons q ps =>
      refine bs.pv (sx := nos) hk Tryz.func21 (by kernel_rfl) (by kernel_rfl) rfl ?_
      repeat' (first | refine wk3 ?_ | (refine wk2 ?_ ?_ <;> intro _) | refine wk4 ?_ | fail); all_goals (conv => whnf)
      refine aop_app (ys := (q :: ps).map hp4) rfl rfl rfl rfl rfl rfl rfl rfl rfl o1 (by simp) rfl (by show 0 + _ ≤ _; rw [l2]; omega) ?_
      repeat' (first | refine wk3 ?_ | (refine wk2 ?_ ?_ <;> intro _) | refine wk4 ?_ | fail); all_goals (conv => whnf)
      refine ret_rows [8] rfl ?_ rfl
      show AV.agg [.isl 1 (nl ss), .asl 8 0 (0 + ((q :: ps).map hp4).length), I sq] = AV.agg [.isl 1 (nl ss), .asl 8 0 ((q :: ps).map hp4).length, I sq]
      rw [Nat.zero_add]
  exact key.freeze ⟨⟨rfl, rfl⟩, ⟨rfl, rfl, rfl⟩, ⟨rfl, rfl⟩, trivial⟩
end Go.Proofs.YtddhjopopelkjaaGreat
