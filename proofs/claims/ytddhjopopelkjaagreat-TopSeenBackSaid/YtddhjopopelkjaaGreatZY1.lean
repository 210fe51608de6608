/- A part of the proof: lemmas. -/
import Derived.Test.YtddhjopopelkjaaGreatZB1
import Derived.Test.YtddhjopopelkjaaGreatZP9
set_option linter.unusedVariables false
set_option linter.unusedSimpArgs false
namespace Go.Proofs.YtddhjopopelkjaaGreat
open Go Go.Sx
/-! ### A hall that is moved as a whole: walls and rectangles -/
def Wl.mv (w : Wl) (a b : Int) : Wl := ⟨w.n, w.fx + a, w.fy + b, w.tx + a, w.ty + b⟩
def Rc.mv (r : Rc) (a b : Int) : Rc := ⟨r.xl + a, r.xh + a, r.yl + b, r.yh + b⟩
def Can.mv (c : Can) (a b : Int) : Can := ⟨c.nm, c.mt, c.fx + a, c.fy + b, c.tx + a, c.ty + b, c.hs⟩
def Sea.mv (c : Sea) (a b : Int) : Sea := ⟨c.nm, c.x + a, c.y + b, c.z⟩
def mvC (a b : Int) (p : Int × Int) : Int × Int := (p.1 + a, p.2 + b)
def Hal.mv (h : Hal) (a b : Int) : Hal := ⟨h.nm, h.ht, h.fl, h.ce, h.ms, h.cs.map (mvC a b), h.ws, h.ks.map fun c => c.mv a b, h.ss.map fun c => c.mv a b⟩
/-- Coordinates of a wall within bounds. -/
structure WB (w : Wl) : Prop where
  b1 : -6000 ≤ w.fx ∧ w.fx ≤ 6000
  b2 : -6000 ≤ w.fy ∧ w.fy ≤ 6000
  b3 : -6000 ≤ w.tx ∧ w.tx ≤ 6000
  b4 : -6000 ≤ w.ty ∧ w.ty ≤ 6000
theorem W_sub_W (a b : Int) : IntKind.i64.wrap (a - IntKind.i64.wrap b) = IntKind.i64.wrap (a - b) := by simp only [IntKind.wrap_i64]; omega
theorem mv_dx (w : Wl) (a b : Int) : (w.mv a b).dx = w.dx := by
  unfold Wl.dx Wl.mv
  dsimp only
  rw [show w.tx + a - (w.fx + a) = w.tx - w.fx by omega]
theorem mv_dy (w : Wl) (a b : Int) : (w.mv a b).dy = w.dy := by
  unfold Wl.dy Wl.mv
  dsimp only
  rw [show w.ty + b - (w.fy + b) = w.ty - w.fy by omega]
theorem mv_straight (w : Wl) (a b : Int) : (w.mv a b).straight = w.straight := by unfold Wl.straight; rw [mv_dx, mv_dy]
theorem mv_side (w : Wl) (a b x y d : Int) : (w.mv a b).side (x + a * d) (y + b * d) d = w.side x y d := by
  unfold Wl.side
  rw [mv_dx, mv_dy]
  unfold Wl.mv
  dsimp only
  rw [W_sub_W (y + b * d), W_sub_W (x + a * d), W_sub_W y, W_sub_W x, Int.add_mul, Int.add_mul, show y + b * d - (w.fy * d + b * d) = y - w.fy * d by omega, show x + a * d - (w.fx * d + a * d) = x - w.fx * d by omega]
theorem mv_side1 (w : Wl) (a b x y : Int) : (w.mv a b).side (x + a) (y + b) 1 = w.side x y 1 := by
  have := mv_side w a b x y 1
  rwa [Int.mul_one, Int.mul_one] at this
theorem mv_has {w : Wl} {a b : Int} (h : WB w) (g : WB (w.mv a b)) {d : Int} (hd : d = 1 ∨ d = 2) (x y : Int) : (w.mv a b).has (x + a * d) (y + b * d) d = w.has x y d := by
  unfold Wl.has
  rw [mv_side, Bool.eq_iff_iff]
  simp only [Bool.and_eq_true, within_iff, imin_eq, imax_eq]
  obtain ⟨h1, h2, h3, h4⟩ := h
  obtain ⟨g1, g2, g3, g4⟩ := g
  unfold Wl.mv at g1 g2 g3 g4 ⊢
  dsimp only at g1 g2 g3 g4 ⊢
  generalize decide (w.side x y d = 0) = s
  generalize w.fx = p at *
  generalize w.fy = q at *
  generalize w.tx = r at *
  generalize w.ty = t at *
  rcases hd with rfl | rfl
  all_goals
    rw [W_eq (n := min (p + a) (r + a) * _) (by omega) (by omega), W_eq (n := max (p + a) (r + a) * _) (by omega) (by omega), W_eq (n := min (q + b) (t + b) * _) (by omega) (by omega), W_eq (n := max (q + b) (t + b) * _) (by omega) (by omega),
      W_eq (n := min p r * _) (by omega) (by omega), W_eq (n := max p r * _) (by omega) (by omega), W_eq (n := min q t * _) (by omega) (by omega), W_eq (n := max q t * _) (by omega) (by omega)]
    constructor
    · rintro ⟨⟨k1, k2⟩, k3⟩; exact ⟨⟨k1, by omega⟩, by omega⟩
    · rintro ⟨⟨k1, k2⟩, k3⟩; exact ⟨⟨k1, by omega⟩, by omega⟩
theorem mv_has1 {w : Wl} {a b : Int} (h : WB w) (g : WB (w.mv a b)) (x y : Int) : (w.mv a b).has (x + a) (y + b) 1 = w.has x y 1 := by
  have := mv_has h g (.inl rfl) x y
  rwa [Int.mul_one, Int.mul_one] at this
theorem mv_flips {w : Wl} {a b : Int} (h : WB w) (g : WB (w.mv a b)) {d : Int} (hd : d = 1 ∨ d = 2) (x y : Int) : flips (x + a * d) (y + b * d) d (w.mv a b) = flips x y d w := by
  unfold flips
  rw [mv_side]
  obtain ⟨h1, h2, h3, h4⟩ := h
  obtain ⟨g1, g2, g3, g4⟩ := g
  unfold Wl.mv at g1 g2 g3 g4 ⊢
  dsimp only at g1 g2 g3 g4 ⊢
  generalize w.side x y d = s
  have e1 : decide (IntKind.i64.wrap ((w.fy + b) * d) ≤ y + b * d) = decide (IntKind.i64.wrap (w.fy * d) ≤ y) := by
    rw [decide_eq_decide]
    rcases hd with rfl | rfl
    all_goals
      rw [W_eq (n := (w.fy + b) * _) (by omega) (by omega), W_eq (n := w.fy * _) (by omega) (by omega)]
      omega
  have e2 : decide (y + b * d < IntKind.i64.wrap ((w.ty + b) * d)) = decide (y < IntKind.i64.wrap (w.ty * d)) := by
    rw [decide_eq_decide]
    rcases hd with rfl | rfl
    all_goals
      rw [W_eq (n := (w.ty + b) * _) (by omega) (by omega), W_eq (n := w.ty * _) (by omega) (by omega)]
      omega
  have e3 : decide (IntKind.i64.wrap ((w.ty + b) * d) ≤ y + b * d) = decide (IntKind.i64.wrap (w.ty * d) ≤ y) := by
    rw [decide_eq_decide]
    rcases hd with rfl | rfl
    all_goals
      rw [W_eq (n := (w.ty + b) * _) (by omega) (by omega), W_eq (n := w.ty * _) (by omega) (by omega)]
      omega
  have e4 : decide (y + b * d < IntKind.i64.wrap ((w.fy + b) * d)) = decide (y < IntKind.i64.wrap (w.fy * d)) := by
    rw [decide_eq_decide]
    rcases hd with rfl | rfl
    all_goals
      rw [W_eq (n := (w.fy + b) * _) (by omega) (by omega), W_eq (n := w.fy * _) (by omega) (by omega)]
      omega
  rw [e1, e2, e3, e4]
theorem mv_inPl {a b : Int} {d : Int} (hd : d = 1 ∨ d = 2) (x y : Int) : ∀ (l : List Wl) (c : Bool), (∀ w ∈ l, WB w ∧ WB (w.mv a b)) → inPl (x + a * d) (y + b * d) d c (l.map fun w => w.mv a b) = inPl x y d c l
  | [], _, _ => rfl
  | w :: l, c, h => by
    obtain ⟨h1, h2⟩ := h w List.mem_cons_self
    rw [List.map_cons, inPl, inPl, mv_has h1 h2 hd, mv_flips h1 h2 hd, mv_inPl hd x y l _ fun w hw => h w (List.mem_cons_of_mem _ hw)]
theorem mv_cor (a b : Int) {cs : List (Int × Int)} {i : Nat} (hi : i < cs.length) : cor (cs.map (mvC a b)) i = mvC a b (cor cs i) := by
  rw [cor_get hi, cor_get (by simpa using hi), List.getElem_map]
theorem mv_wlOf (a b : Int) {cs : List (Int × Int)} {i : Nat} (hi : i < cs.length) : wlOf (cs.map (mvC a b)) i = (wlOf cs i).mv a b := by
  unfold wlOf Wl.mv
  have h2 : (i + 1) % cs.length < cs.length := Nat.mod_lt _ (by omega)
  rw [List.length_map, mv_cor a b hi, mv_cor a b h2]
  rfl
theorem mv_wls (a b : Int) (cs : List (Int × Int)) : wls (cs.map (mvC a b)) = (wls cs).map fun w => w.mv a b := by
  unfold wls
  rw [List.length_map, List.map_map]
  refine List.map_congr_left fun i hi => ?_
  exact mv_wlOf a b (List.mem_range.1 hi)
/-- All walls of a hall and of the moved hall have small coordinates. -/
def MvB (h : Hal) (a b : Int) : Prop := ∀ w ∈ wls h.cs, WB w ∧ WB (w.mv a b)
theorem mvB_of {h : Hal} {a b : Int} (h1 : CorOk h.cs) (ha : -1000 ≤ a ∧ a ≤ 1000) (hb : -1000 ≤ b ∧ b ≤ 1000) : MvB h a b := by
  intro w hw
  unfold wls at hw
  obtain ⟨i, hi, rfl⟩ := List.mem_map.1 hw
  have hi := List.mem_range.1 hi
  obtain ⟨⟨k1, k2⟩, k3, k4⟩ := wl_bd h1 hi
  unfold Wl.mv
  exact ⟨⟨by omega, by omega, by omega, by omega⟩, ⟨by dsimp only; omega, by dsimp only; omega, by dsimp only; omega, by dsimp only; omega⟩⟩
theorem mv_inPlan {h : Hal} {a b : Int} (hm : MvB h a b) {d : Int} (hd : d = 1 ∨ d = 2) (x y : Int) : inPlan (h.mv a b) (x + a * d) (y + b * d) d = inPlan h x y d := by
  unfold inPlan
  show inPl _ _ d false (wls (h.cs.map (mvC a b))) = _
  rw [mv_wls, mv_inPl hd x y _ _ hm]
theorem mv_inPlan1 {h : Hal} {a b : Int} (hm : MvB h a b) (x y : Int) : inPlan (h.mv a b) (x + a) (y + b) 1 = inPlan h x y 1 := by
  have := mv_inPlan hm (.inl rfl) x y
  rwa [Int.mul_one, Int.mul_one] at this
theorem mv_touches {w o : Wl} {a b : Int} (h : WB w ∧ WB (w.mv a b)) (g : WB o ∧ WB (o.mv a b)) : (w.mv a b).touches (o.mv a b) = w.touches o := by
  unfold Wl.touches
  rw [show (o.mv a b).fx = o.fx + a from rfl, show (o.mv a b).fy = o.fy + b from rfl, show (o.mv a b).tx = o.tx + a from rfl, show (o.mv a b).ty = o.ty + b from rfl,
    show (w.mv a b).fx = w.fx + a from rfl, show (w.mv a b).fy = w.fy + b from rfl, show (w.mv a b).tx = w.tx + a from rfl, show (w.mv a b).ty = w.ty + b from rfl]
  rw [mv_side1, mv_side1, mv_side1, mv_side1, mv_has1 h.1 h.2, mv_has1 h.1 h.2, mv_has1 g.1 g.2, mv_has1 g.1 g.2]
theorem mv_turns (w o : Wl) (a b : Int) : (w.mv a b).turnsBack (o.mv a b) = w.turnsBack o := by
  unfold Wl.turnsBack
  rw [mv_dx, mv_dy, mv_dx, mv_dy]
theorem mv_okPair {w o : Wl} {a b : Int} (n : Int) (h : WB w ∧ WB (w.mv a b)) (g : WB o ∧ WB (o.mv a b)) : okPair n (w.mv a b) (o.mv a b) = okPair n w o := by
  unfold okPair
  rw [mv_touches h g, mv_turns, mv_turns]
  rfl
theorem all_congr {α : Type} {f g : α → Bool} : ∀ {l : List α}, (∀ x ∈ l, f x = g x) → l.all f = l.all g
  | [], _ => rfl
  | x :: l, h => by rw [List.all_cons, List.all_cons, h x List.mem_cons_self, all_congr fun y hy => h y (List.mem_cons_of_mem _ hy)]
theorem mv_simple {h : Hal} {a b : Int} (hm : MvB h a b) : isSimple (h.mv a b) = isSimple h := by
  unfold isSimple
  show ((wls (h.cs.map (mvC a b))).all fun u => (wls (h.cs.map (mvC a b))).all fun v => okPair (h.cs.map (mvC a b)).length u v) = _
  rw [mv_wls, List.length_map, List.all_map]
  refine all_congr fun u hu => ?_
  show ((wls h.cs).map fun w => w.mv a b).all (fun v => okPair h.cs.length (u.mv a b) v) = _
  rw [List.all_map]
  exact all_congr fun v hv => mv_okPair _ (hm u hu) (hm v hv)
theorem mv_meets (q : Rc) (w : Wl) (a b : Int) : (q.mv a b).meets (w.mv a b) = q.meets w := by
  unfold Rc.meets
  rw [show (w.mv a b).fx = w.fx + a from rfl, show (w.mv a b).fy = w.fy + b from rfl, show (w.mv a b).tx = w.tx + a from rfl, show (w.mv a b).ty = w.ty + b from rfl,
    show (q.mv a b).xl = q.xl + a from rfl, show (q.mv a b).xh = q.xh + a from rfl, show (q.mv a b).yl = q.yl + b from rfl, show (q.mv a b).yh = q.yh + b from rfl]
  rw [mv_side1, mv_side1, mv_side1, mv_side1, imax_eq (w.fx + a), imax_eq w.fx, imin_eq (w.fx + a), imin_eq w.fx, imax_eq (w.fy + b), imax_eq w.fy, imin_eq (w.fy + b), imin_eq w.fy]
  have e1 : decide (max (w.fx + a) (w.tx + a) < q.xl + a) = decide (max w.fx w.tx < q.xl) := by rw [decide_eq_decide]; omega
  have e2 : decide (q.xh + a < min (w.fx + a) (w.tx + a)) = decide (q.xh < min w.fx w.tx) := by rw [decide_eq_decide]; omega
  have e3 : decide (max (w.fy + b) (w.ty + b) < q.yl + b) = decide (max w.fy w.ty < q.yl) := by rw [decide_eq_decide]; omega
  have e4 : decide (q.yh + b < min (w.fy + b) (w.ty + b)) = decide (q.yh < min w.fy w.ty) := by rw [decide_eq_decide]; omega
  rw [e1, e2, e3, e4]
theorem mv_insideR {h : Hal} {a b : Int} (hm : MvB h a b) (q : Rc) : insideR (h.mv a b) (q.mv a b) = insideR h q := by
  unfold insideR
  rw [show (q.mv a b).xl = q.xl + a from rfl, show (q.mv a b).yl = q.yl + b from rfl, mv_inPlan1 hm]
  show (((wls (h.cs.map (mvC a b))).all fun w => !(q.mv a b).meets w) && _) = _
  rw [mv_wls, List.all_map]
  congr 1
  exact all_congr fun w _ => by show (!(q.mv a b).meets (w.mv a b)) = _; rw [mv_meets]
theorem mv_rcOf (fx fy tx ty a b : Int) : rcOf (fx + a) (fy + b) (tx + a) (ty + b) = (rcOf fx fy tx ty).mv a b := by
  unfold rcOf Rc.mv
  simp only [imin_eq, imax_eq, Rc.mk.injEq]
  omega
theorem mv_hasPt {h : Hal} {a b : Int} (hm : MvB h a b) (x y z : Int) : hasPt (h.mv a b) (x + a) (y + b) z 1 = hasPt h x y z 1 := by
  unfold hasPt
  rw [mv_inPlan1 hm]
  rfl
theorem mv_lineErr (w : Wl) (a b : Int) : lineErr (w.mv a b) = lineErr w := by
  unfold lineErr
  rw [mv_straight]
  have e1 : decide ((w.mv a b).fx = (w.mv a b).tx) = decide (w.fx = w.tx) := by rw [decide_eq_decide]; show w.fx + a = w.tx + a ↔ _; omega
  have e2 : decide ((w.mv a b).fy = (w.mv a b).ty) = decide (w.fy = w.ty) := by rw [decide_eq_decide]; show w.fy + b = w.ty + b ↔ _; omega
  rw [e1, e2]
/-! ### The area -/
def sumD (f g : Wl → Int) : List Wl → Int
  | [] => 0
  | w :: l => (g w - f w) + sumD f g l
theorem sumD_append (f g : Wl → Int) : ∀ l m : List Wl, sumD f g (l ++ m) = sumD f g l + sumD f g m
  | [], m => by simp [sumD]
  | w :: l, m => by simp [sumD, sumD_append f g l m]; omega
theorem sumA_mv (a b : Int) : ∀ l : List Wl, sumA (l.map fun w => w.mv a b) = sumA l + a * sumD Wl.fy Wl.ty l - b * sumD Wl.fx Wl.tx l
  | [] => by simp [sumA, sumD]
  | w :: l => by
    rw [List.map_cons, sumA, sumA, sumD, sumD, sumA_mv a b l]
    unfold Wl.mv
    dsimp only
    grind
theorem tele_sum (G : Nat → Int) (cs : List (Int × Int)) (f g : Wl → Int) (hf : ∀ i, i < cs.length → f (wlOf cs i) = G i) (hg : ∀ i, i < cs.length → g (wlOf cs i) = G ((i + 1) % cs.length)) :
    ∀ k, k ≤ cs.length → sumD f g ((List.range k).map (wlOf cs)) = G (k % cs.length) - G 0
  | 0, _ => by simp [sumD]
  | k + 1, hk => by
    rw [List.range_succ, List.map_append, sumD_append, tele_sum G cs f g hf hg k (by omega), Nat.mod_eq_of_lt (show k < cs.length by omega)]
    simp only [List.map_cons, List.map_nil, sumD]
    rw [hf k (by omega), hg k (by omega)]
    omega
theorem tele_all (cs : List (Int × Int)) : sumD Wl.fx Wl.tx (wls cs) = 0 ∧ sumD Wl.fy Wl.ty (wls cs) = 0 := by
  unfold wls
  refine ⟨?_, ?_⟩
  · rw [tele_sum (fun i => (cor cs i).1) cs Wl.fx Wl.tx (fun i _ => rfl) (fun i _ => rfl) cs.length (Nat.le_refl _), Nat.mod_self]; omega
  · rw [tele_sum (fun i => (cor cs i).2) cs Wl.fy Wl.ty (fun i _ => rfl) (fun i _ => rfl) cs.length (Nat.le_refl _), Nat.mod_self]; omega
theorem area_sum {cs : List (Int × Int)} (hn : cs ≠ []) : twAreaR cs = IntKind.i64.wrap (sumA (wls cs)) := by
  unfold twAreaR
  have h1 : wls cs ≠ [] := by
    intro h
    have := congrArg List.length h
    rw [wls_length] at this
    exact hn (List.eq_nil_of_length_eq_zero this)
  rw [← area_wrapped _ _ h1, fold_sumA, Int.zero_add]
theorem mv_area {h : Hal} (a b : Int) (hn : h.cs ≠ []) : twArea (h.mv a b) = twArea h := by
  rw [twArea_eq, twArea_eq]
  show twAreaR (h.cs.map (mvC a b)) = _
  rw [area_sum hn, area_sum (by simpa using hn), mv_wls, sumA_mv, (tele_all h.cs).1, (tele_all h.cs).2]
  congr 1; omega
end Go.Proofs.YtddhjopopelkjaaGreat
