/- A part of the proof: lemmas. -/
import Derived.Test.YtddhjopopelkjaaGreatZY1
import Derived.Test.YtddhjopopelkjaaGreatZV2
set_option linter.unusedVariables false
set_option linter.unusedSimpArgs false
namespace Go.Proofs.YtddhjopopelkjaaGreat
open Go Go.Sx
/-! ### A hall that is moved as a whole: its errors -/
theorem fe_all0 : ∀ {l : List (Int × Int × Int)}, (firstErr l).2.2 = 0 → ∀ x ∈ l, x.2.2 = 0
  | [], _, x, hx => by simp at hx
  | y :: l, h, x, hx => by
    obtain ⟨h1, h2⟩ := fe_zero h
    rw [List.mem_cons] at hx
    rcases hx with rfl | hx
    · exact h1
    · exact fe_all0 h2 x hx
theorem fe_two : ∀ {l : List (Int × Int × Int)}, (∀ x ∈ l, x.2.2 = 0 ∨ x.2.2 = 2) → (firstErr l).2.2 = 0 ∨ (firstErr l).2.2 = 2
  | [], _ => .inl rfl
  | y :: l, h => by
    rw [firstErr]
    split
    · exact fe_two fun x hx => h x (List.mem_cons_of_mem _ hx)
    · exact h y List.mem_cons_self
theorem corGo_two : ∀ (l : List (Int × Int)) (i : Nat), (corGo i l).2 = 0 ∨ (corGo i l).2 = 2
  | [], _ => .inl rfl
  | p :: l, i => by
    rw [corGo]
    split
    · exact corGo_two l (i + 1)
    · exact .inr rfl
theorem walGo_mv {cs : List (Int × Int)} (a b : Int) (ms : List ByteArray) : ∀ (l : List Wal) (i : Nat) (ns : List ByteArray), i + l.length ≤ cs.length → walGo (cs.map (mvC a b)) ms i ns l = walGo cs ms i ns l
  | [], _, _, _ => rfl
  | w :: l, i, ns, h => by
    rw [List.length_cons] at h
    have e : wErr (cs.map (mvC a b)) ms i w = wErr cs ms i w := by
      unfold wErr wErrL
      rw [mv_wlOf a b (show i < cs.length by omega), mv_lineErr]
    rw [walGo, walGo, e, walGo_mv a b ms l (i + 1) _ (by omega)]
theorem canErr_mv {h : Hal} {a b : Int} (hm : MvB h a b) {c : Can} (h0 : canErr h c = 0) : canErr (h.mv a b) (c.mv a b) = 0 ∨ canErr (h.mv a b) (c.mv a b) = 2 := by
  unfold canErr at h0 ⊢
  show (if within c.hs.length 1 4 then (if hsErr h.ht none c.hs = 0 then (if corOk (c.fx + a) (c.fy + b) && corOk (c.tx + a) (c.ty + b) then (if decide (c.fx + a = c.tx + a) || decide (c.fy + b = c.ty + b) then 11 else unl (insideR (h.mv a b) (rcOf (c.fx + a) (c.fy + b) (c.tx + a) (c.ty + b))) 24) else 2) else hsErr h.ht none c.hs) else 10) = 0 ∨
    (if within c.hs.length 1 4 then (if hsErr h.ht none c.hs = 0 then (if corOk (c.fx + a) (c.fy + b) && corOk (c.tx + a) (c.ty + b) then (if decide (c.fx + a = c.tx + a) || decide (c.fy + b = c.ty + b) then 11 else unl (insideR (h.mv a b) (rcOf (c.fx + a) (c.fy + b) (c.tx + a) (c.ty + b))) 24) else 2) else hsErr h.ht none c.hs) else 10) = 2
  have e1 : decide (c.fx + a = c.tx + a) = decide (c.fx = c.tx) := by rw [decide_eq_decide]; omega
  have e2 : decide (c.fy + b = c.ty + b) = decide (c.fy = c.ty) := by rw [decide_eq_decide]; omega
  rw [mv_rcOf, mv_insideR hm, e1, e2]
  generalize (corOk (c.fx + a) (c.fy + b) && corOk (c.tx + a) (c.ty + b)) = k
  split at h0
  · rename_i c1
    rw [if_pos c1]
    split at h0
    · rename_i c2
      rw [if_pos c2]
      split at h0
      · cases k
        · exact .inr rfl
        · exact .inl h0
      · cases h0
    · rename_i c2
      exact absurd h0 c2
  · cases h0
theorem cErr_mv {h : Hal} {a b : Int} (hm : MvB h a b) {ms : List ByteArray} {c : Can} (h0 : cErr h ms c = 0) : cErr (h.mv a b) ms (c.mv a b) = 0 ∨ cErr (h.mv a b) ms (c.mv a b) = 2 := by
  unfold cErr at h0 ⊢
  show (if elemK c.mt ms then canErr (h.mv a b) (c.mv a b) else 6) = 0 ∨ (if elemK c.mt ms then canErr (h.mv a b) (c.mv a b) else 6) = 2
  split at h0
  · rename_i c1
    rw [if_pos c1]
    exact canErr_mv hm h0
  · cases h0
theorem canGo_mv {h : Hal} {a b : Int} (hm : MvB h a b) {ms : List ByteArray} : ∀ (l : List Can) (i : Nat) (ns : List ByteArray), (canGo h ms i ns l).2.1 = 0 → (canGo (h.mv a b) ms i ns (l.map fun c => c.mv a b)).2.1 = 0 ∨ (canGo (h.mv a b) ms i ns (l.map fun c => c.mv a b)).2.1 = 2
  | [], _, _, _ => .inl rfl
  | c :: l, i, ns, h0 => by
    rw [canGo] at h0
    rw [List.map_cons, canGo, show (c.mv a b).nm = c.nm from rfl]
    split at h0
    · rename_i c1
      rw [if_pos c1]
      split at h0
      · rename_i c2
        rcases cErr_mv hm c2 with k | k
        · rw [if_pos k]; exact canGo_mv hm l (i + 1) _ h0
        · rw [if_neg (by omega)]; exact .inr k
      · rename_i c2; exact absurd h0 c2
    · rename_i c1; exact absurd h0 c1
theorem plErr_mv {h : Hal} {a b : Int} (hm : MvB h a b) {x y z : Int} (h0 : plErr h x y z = 0) : plErr (h.mv a b) (x + a) (y + b) z = 0 ∨ plErr (h.mv a b) (x + a) (y + b) z = 2 := by
  unfold plErr at h0 ⊢
  rw [mv_hasPt hm]
  split at h0
  · split
    · exact .inl h0
    · exact .inr rfl
  · cases h0
theorem seaGo_mv {h : Hal} {a b : Int} (hm : MvB h a b) : ∀ (l : List Sea) (i : Nat) (ns : List ByteArray), (seaGo h i ns l).2.1 = 0 → (seaGo (h.mv a b) i ns (l.map fun c => c.mv a b)).2.1 = 0 ∨ (seaGo (h.mv a b) i ns (l.map fun c => c.mv a b)).2.1 = 2
  | [], _, _, _ => .inl rfl
  | c :: l, i, ns, h0 => by
    rw [seaGo] at h0
    rw [List.map_cons, seaGo, show (c.mv a b).nm = c.nm from rfl, show (c.mv a b).x = c.x + a from rfl, show (c.mv a b).y = c.y + b from rfl, show (c.mv a b).z = c.z from rfl]
    split at h0
    · rename_i c1
      rw [if_pos c1]
      split at h0
      · rename_i c2
        rcases plErr_mv hm c2 with k | k
        · rw [if_pos k]; exact seaGo_mv hm l (i + 1) _ h0
        · rw [if_neg (by omega)]; exact .inr k
      · rename_i c2; exact absurd h0 c2
    · rename_i c1; exact absurd h0 c1
theorem err_mv {h : Hal} (hk : h.ok) (he : h.err = 0) {a b : Int} (ha : -1000 ≤ a ∧ a ≤ 1000) (hb : -1000 ≤ b ∧ b ≤ 1000) : (h.mv a b).err = 0 ∨ (h.mv a b).err = 2 := by
  have g := fine_of hk he
  have hm := mvB_of g.bd ha hb
  unfold Hal.err chk at he ⊢
  have h0 := fe_all0 he
  have e1 : set7 (h.mv a b) = set7 h := by unfold set7 Hal.mv; simp only [List.length_map]
  have e2 : (h.mv a b).wal = h.wal := by
    unfold Hal.wal
    show walGo (h.cs.map (mvC a b)) h.names 0 su0 h.ws = _
    exact walGo_mv a b _ _ _ _ (by have := g.le; omega)
  have e3 : twArea (h.mv a b) = twArea h := mv_area a b (by intro c; have := g.le; rw [c] at this; simp at this)
  refine fe_two fun x hx => ?_
  unfold chkList at h0 hx
  rw [e1, e2, e3, mv_simple hm] at hx
  simp only [List.mem_cons, List.not_mem_nil, or_false] at hx
  have z : ∀ y ∈ chkList h, y.2.2 = 0 := h0
  unfold chkList at z
  rcases hx with rfl | rfl | rfl | rfl | rfl | rfl | rfl | rfl | rfl | rfl | rfl | rfl | rfl | rfl | rfl
  · exact .inl (z (0, 0, unl (set7 h).a 4) (by simp))
  · exact .inl (z (0, 0, unl (set7 h).b 2) (by simp))
  · exact .inl (z (0, 0, unl (set7 h).c 8) (by simp))
  · exact .inl (z (1, (matsGo 0 [] h.ms).1, (matsGo 0 [] h.ms).2.1) (by simp))
  · exact .inl (z (0, 0, flErr h h.names) (by simp))
  · exact .inl (z (0, 0, unl (set7 h).d 10) (by simp))
  · exact .inl (z (0, 0, unl (set7 h).e 8) (by simp))
  · exact corGo_two _ _
  · exact .inl (z (3, h.wal.1, h.wal.2.1) (by simp))
  · exact .inl (z (0, 0, unl (isSimple h) 24) (by simp))
  · exact .inl (z (0, 0, unl (decide (0 < twArea h)) 9) (by simp))
  · exact .inl (z (0, 0, unl (set7 h).f 8) (by simp))
  · have := z (4, h.can.1, h.can.2.1) (by simp)
    have := canGo_mv hm h.ks 0 h.wal.2.2 this
    unfold Hal.can
    rw [e2]
    exact this
  · exact .inl (z (0, 0, unl (set7 h).g 8) (by simp))
  · have := z (5, (seaGo h 0 [] h.ss).1, (seaGo h 0 [] h.ss).2.1) (by simp)
    exact seaGo_mv hm h.ss 0 [] this
theorem ok_mv {h : Hal} (hk : h.ok) (a b : Int) : (h.mv a b).ok := by
  obtain ⟨⟨f1, f2, f3, f4, f5, f6⟩, t1, t2, t3, t4, t5⟩ := hk
  refine ⟨⟨f1, by unfold Hal.mv; simpa using f2, f3, by unfold Hal.mv; simpa using f4, by unfold Hal.mv; simpa using f5, fun c hc => ?_⟩, t1, t2, t3, fun c hc => ?_, fun c hc => ?_⟩
  · obtain ⟨c', hc', rfl⟩ := List.mem_map.1 hc
    exact f6 c' hc'
  · obtain ⟨c', hc', rfl⟩ := List.mem_map.1 hc
    exact t4 c' hc'
  · obtain ⟨c', hc', rfl⟩ := List.mem_map.1 hc
    exact t5 c' hc'
theorem kLen_mv (h : Hal) (a b : Int) (i : Nat) : kLen (h.mv a b) i = kLen h i := by
  unfold kLen
  show (match (h.ks.map fun c => c.mv a b)[i]? with
    | some c => _
    | none => _) = _
  rw [List.getElem?_map]
  cases h.ks[i]? <;> rfl
theorem hgE_mv (h : Hal) (a b : Int) : ∀ (l : List Int) (i : Nat), hgE (h.mv a b) i l = hgE h i l
  | [], _ => rfl
  | c :: l, i => by rw [hgE, hgE, hgE_mv h a b l, kLen_mv]
theorem drE_mv (h : Hal) (a b : Int) : ∀ (l : List Int) (p : Option Int), drE (h.mv a b) p l = drE h p l
  | [], _ => rfl
  | c :: l, p => by rw [drE, drE, drE_mv h a b l, show drOk (h.mv a b) c = drOk h c from rfl]
theorem setE_mv (h : Hal) (a b : Int) (s : Stg) : setE (h.mv a b) s = setE h s := by
  unfold setE
  rw [hgE_mv, drE_mv]
  show (if (s.hs.length : Int) = ((h.ks.map fun c => c.mv a b).length : Int) then _ else _) = _
  rw [List.length_map]
theorem hgtAt_mv (h : Hal) (a b : Int) (s : Stg) (j : Nat) : hgtAt (h.mv a b) s j = hgtAt h s j := by
  unfold hgtAt
  show (match (h.ks.map fun c => c.mv a b)[j]?, s.hs[j]? with
    | some c, some n => _
    | _, _ => _) = _
  rw [List.getElem?_map]
  cases h.ks[j]? <;> cases s.hs[j]? <;> rfl
/-! ### Ways in a hall that is moved -/
def mvP (p : Pt) (a b : Int) : Pt := ⟨p.x + a * p.d, p.y + b * p.d, p.z, p.d⟩
theorem mv_bsP (w : Wl) (a b sx sy : Int) (p : Pt) : bsP (w.mv a b) sx sy (mvP p a b).pl = bsP w sx sy p.pl := by
  unfold bsP bes Wl.mv mvP Pt.pl
  dsimp only
  rw [Int.add_mul, Int.add_mul, show p.y + b * p.d - (w.fy * p.d + b * p.d) = p.y - w.fy * p.d by omega, show p.x + a * p.d - (w.fx * p.d + a * p.d) = p.x - w.fx * p.d by omega]
theorem mv_alP (w : Wl) (a b sx sy : Int) (p : Pt) : alP (w.mv a b) sx sy (mvP p a b).pl = alP w sx sy p.pl := by
  unfold alP alo Wl.mv mvP Pt.pl
  dsimp only
  rw [Int.add_mul, Int.add_mul, show p.y + b * p.d - (w.fy * p.d + b * p.d) = p.y - w.fy * p.d by omega, show p.x + a * p.d - (w.fx * p.d + a * p.d) = p.x - w.fx * p.d by omega]
theorem mv_meetW (w : Wl) (a b n sx sy : Int) (p q : Pt) : meetW (w.mv a b) n sx sy (mvP p a b).pl (mvP q a b).pl ↔ meetW w n sx sy p.pl q.pl := by
  unfold meetW
  rw [mv_bsP, mv_bsP, mv_alP, mv_alP]
  exact Iff.rfl
theorem mv_rcN (r : Rc) (a b : Int) (p q : Pt) : rcN (r.mv a b) (mvP p a b).pl (mvP q a b).pl = rcN r p.pl q.pl := by
  unfold rcN Rc.mv mvP Pt.pl
  dsimp only
  simp only [Int.add_mul]
  rw [show p.x + a * p.d - (r.xl * p.d + a * p.d) = p.x - r.xl * p.d by omega, show q.x + a * q.d - (r.xl * q.d + a * q.d) = q.x - r.xl * q.d by omega, show r.xh * p.d + a * p.d - (p.x + a * p.d) = r.xh * p.d - p.x by omega, show r.xh * q.d + a * q.d - (q.x + a * q.d) = r.xh * q.d - q.x by omega,
    show p.y + b * p.d - (r.yl * p.d + b * p.d) = p.y - r.yl * p.d by omega, show q.y + b * q.d - (r.yl * q.d + b * q.d) = q.y - r.yl * q.d by omega, show r.yh * p.d + b * p.d - (p.y + b * p.d) = r.yh * p.d - p.y by omega, show r.yh * q.d + b * q.d - (q.y + b * q.d) = r.yh * q.d - q.y by omega]
theorem mv_blkS (r : Rc) (a b ht : Int) (p q : Pt) : blkS (r.mv a b) ht (mvP p a b) (mvP q a b) ↔ blkS r ht p q := by
  unfold blkS
  rw [mv_rcN]
  exact Iff.rfl
theorem mv_str {w : Wl} {n sx sy m tx ty : Int} {a b : Int} (h : Str w n sx sy) (g : Str (w.mv a b) m tx ty) : n = m ∧ sx = tx ∧ sy = ty := by
  have k : Str (w.mv a b) n sx sy := ⟨h.hn, h.hx, h.hy, h.hxy, by have := h.tx; show w.tx + a = w.fx + a + n * sx; omega, by have := h.ty; show w.ty + b = w.fy + b + n * sy; omega, g.b1, g.b2, g.b3, g.b4⟩
  exact str_uniq k g
theorem mv_rc (c : Can) (a b : Int) : (c.mv a b).rc = c.rc.mv a b := mv_rcOf _ _ _ _ _ _
theorem mv_free {h : Hal} {s : Stg} {a b : Int} (g : Sit h s) (g' : Sit (h.mv a b) s) (hm : MvB h a b) {p q : Pt} (hp : PtH p) (hq : PtH q) (hp' : PtH (mvP p a b)) (hq' : PtH (mvP q a b)) (d1 : p.d = 1) (d2 : q.d = 1) :
    freeP (h.mv a b) s (mvP p a b) (mvP q a b) = freeP h s p q := by
  rw [Bool.eq_iff_iff, free_iff g' hp' hq', free_iff g hp hq]
  have ez : zBad (h.mv a b) (mvP p a b) (mvP q a b) = zBad h p q := rfl
  have em : inPlan (h.mv a b) (midX (mvP p a b) (mvP q a b)) (midY (mvP p a b) (mvP q a b)) (midD (mvP p a b) (mvP q a b)) = inPlan h (midX p q) (midY p q) (midD p q) := by
    obtain ⟨e1, e2, e3⟩ := mid_eq hp.r hq.r
    obtain ⟨f1, f2, f3⟩ := mid_eq hp'.r hq'.r
    rw [e1, e2, e3, f1, f2, f3]
    unfold mvP
    dsimp only
    rw [d1, d2]
    have := mv_inPlan hm (d := 2) (.inr rfl) (p.x + q.x) (p.y + q.y)
    simp only [Int.mul_one] at this ⊢
    rw [show p.x + a + (q.x + a) = p.x + q.x + a * 2 by omega, show p.y + b + (q.y + b) = p.y + q.y + b * 2 by omega]
    exact this
  have ek : ∀ i, (hi : i < h.ks.length) → (blkS ((h.mv a b).ks[i]'(by show i < (h.ks.map _).length; simpa using hi)).rc (hgtAt (h.mv a b) s i) (mvP p a b) (mvP q a b) ↔ blkS h.ks[i].rc (hgtAt h s i) p q) := by
    intro i hi
    have : (h.mv a b).ks[i]'(by show i < (h.ks.map _).length; simpa using hi) = (h.ks[i]).mv a b := by
      show (h.ks.map fun c => c.mv a b)[i]'(by simpa using hi) = _
      rw [List.getElem_map]
    rw [this, mv_rc, hgtAt_mv]
    exact mv_blkS _ _ _ _ _ _
  have hw : ∀ w' ∈ wls (h.mv a b).cs, ∃ w ∈ wls h.cs, w' = w.mv a b := by
    intro w' hw'
    have hw' : w' ∈ wls (h.cs.map (mvC a b)) := hw'
    rw [mv_wls] at hw'
    obtain ⟨w, h1, h2⟩ := List.mem_map.1 hw'
    exact ⟨w, h1, h2.symm⟩
  constructor
  · rintro ⟨h1, h2, h3, h4⟩
    refine ⟨ez ▸ h1, fun w hw1 n sx sy hs hme => ?_, em ▸ h3, fun i hi hb => h4 i (by show i < (h.ks.map _).length; simpa using hi) ((ek i hi).2 hb)⟩
    have hw2 : w.mv a b ∈ wls (h.mv a b).cs := by
      show _ ∈ wls (h.cs.map (mvC a b))
      rw [mv_wls]
      exact List.mem_map.2 ⟨w, hw1, rfl⟩
    obtain ⟨m, tx, ty, hs'⟩ := wls_str g'.fine.st _ hw2
    obtain ⟨rfl, rfl, rfl⟩ := mv_str hs hs'
    exact h2 _ hw2 _ _ _ hs' ((mv_meetW w a b _ _ _ p q).2 hme)
  · rintro ⟨h1, h2, h3, h4⟩
    refine ⟨ez.trans h1, fun w' hw1 n sx sy hs hme => ?_, em.trans h3, fun i hi hb => ?_⟩
    · obtain ⟨w, hw2, rfl⟩ := hw w' hw1
      obtain ⟨m, tx, ty, hs'⟩ := wls_str g.fine.st _ hw2
      obtain ⟨rfl, rfl, rfl⟩ := mv_str hs' hs
      exact h2 w hw2 _ _ _ hs' ((mv_meetW w a b _ _ _ p q).1 hme)
    · have hi : i < (h.ks.map fun c => c.mv a b).length := hi
      have hi2 : i < h.ks.length := by simpa using hi
      exact h4 i hi2 ((ek i hi2).1 hb)
/-! ### The seats that are seen -/
theorem seeL_mv {f f' : Pt → Pt → Bool} (a b x y z : Int) : ∀ (l : List Sea) (i : Nat), (∀ c ∈ l, f' ⟨x + a, y + b, z, 1⟩ ⟨c.x + a, c.y + b, c.z, 1⟩ = f ⟨x, y, z, 1⟩ ⟨c.x, c.y, c.z, 1⟩) → seeL f' (x + a) (y + b) z i (l.map fun c => c.mv a b) = seeL f x y z i l
  | [], _, _ => rfl
  | c :: l, i, h => by
    have e1 : plcEq (c.mv a b) (x + a) (y + b) z = plcEq c x y z := by
      unfold plcEq Sea.mv
      dsimp only
      rw [show decide (c.x + a = x + a) = decide (c.x = x) by rw [decide_eq_decide]; omega, show decide (c.y + b = y + b) = decide (c.y = y) by rw [decide_eq_decide]; omega]
    rw [List.map_cons, seeL, seeL, e1, seeL_mv a b x y z l (i + 1) fun c hc => h c (List.mem_cons_of_mem _ hc)]
    show (if plcEq c x y z || f' ⟨x + a, y + b, z, 1⟩ ⟨c.x + a, c.y + b, c.z, 1⟩ then _ else _) = _
    rw [h c List.mem_cons_self]
theorem see_mv {h : Hal} {s : Stg} {a b : Int} (g : Sit h s) (g' : Sit (h.mv a b) s) (hm : MvB h a b) {i : Nat} (hi : i < h.ss.length) :
    seeL (freeP (h.mv a b) s) (h.ss[i].x + a) (h.ss[i].y + b) h.ss[i].z 0 (h.mv a b).ss = seeL (freeP h s) h.ss[i].x h.ss[i].y h.ss[i].z 0 h.ss := by
  have key : ∀ c ∈ h.ss, PtH ⟨c.x, c.y, c.z, 1⟩ ∧ PtH ⟨c.x + a, c.y + b, c.z, 1⟩ := by
    intro c hc
    obtain ⟨k, hk, rfl⟩ := List.mem_iff_getElem.1 hc
    refine ⟨sea_pt g.fine hk, ?_⟩
    have hk' : k < (h.mv a b).ss.length := by show k < (h.ss.map _).length; simpa using hk
    have := sea_pt g'.fine hk'
    have e : (h.mv a b).ss[k] = (h.ss[k]).mv a b := by
      show (h.ss.map fun c => c.mv a b)[k]'(by simpa using hk) = _
      rw [List.getElem_map]
    rw [e] at this
    exact this
  refine seeL_mv a b _ _ _ h.ss 0 fun c hc => ?_
  obtain ⟨k1, k2⟩ := key _ (List.getElem_mem hi)
  obtain ⟨k3, k4⟩ := key c hc
  have e : ∀ x y z : Int, mvP ⟨x, y, z, 1⟩ a b = ⟨x + a, y + b, z, 1⟩ := fun x y z => by unfold mvP; simp
  have := mv_free g g' hm k1 k3 (by rw [e]; exact k2) (by rw [e]; exact k4) rfl rfl
  rwa [e, e] at this
end Go.Proofs.YtddhjopopelkjaaGreat
