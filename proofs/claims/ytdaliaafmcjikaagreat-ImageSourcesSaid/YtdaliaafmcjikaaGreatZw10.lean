/- A part of the proof: lemmas. -/
import Derived.Test.YtdaliaafmcjikaaGreatZw9
import Derived.Test.YtdaliaafmcjikaaGreatZx6
import Derived.Test.YtdaliaafmcjikaaGreatZx7
set_option linter.unusedVariables false
set_option linter.unusedSimpArgs false
namespace Go.Proofs.YtdaliaafmcjikaaGreat
open Go Go.Sx

/-! ### The reference's CheckHall -/
/-- The first number with an error. -/
def fIx (f : Nat → Int) : Nat → Nat → Int × Int
  | _, 0 => (0, 0)
  | k, m + 1 => if f k = 0 then fIx f (k + 1) m else (k, f k)
theorem fIx_step {f : Nat → Int} {k n : Nat} (h : k < n) : fIx f k (n - k) = if f k = 0 then fIx f (k + 1) (n - (k + 1)) else (k, f k) := by
  rw [show n - k = (n - (k + 1)) + 1 by omega]; rfl
theorem fIx_end {f : Nat → Int} {k n : Nat} (h : n ≤ k) : fIx f k (n - k) = (0, 0) := by rw [show n - k = 0 by omega]; rfl
def mErr (h : Hal) (i : Nat) (m : Mat) : Int := if isNameR m.nm then (if decide (matIx m.nm 0 h.ms < (i : Int)) then 5 else if (thou m.a && (thou m.b && (thou m.c && thou m.d))) && thou m.sc then 0 else 2) else 4
def mErrR (h : Hal) (i : Nat) : Int := match h.ms[i]? with
  | some m => mErr h i m
  | none => 0
def coErrR (h : Hal) (i : Nat) : Int := if plc (cor h.cs i).1 && plc (cor h.cs i).2 then 0 else 2
def waErrR (h : Hal) (i : Nat) : Int := match h.ws[i]? with
  | some w => wErrR h i w
  | none => 0
def caErrR (h : Hal) (i : Nat) : Int := match h.ks[i]? with
  | some w => cErrR h i w
  | none => 0
def seErrR (h : Hal) (i : Nat) : Int := match h.ss[i]? with
  | some w => sErrR h i w
  | none => 0
def flErrR (h : Hal) : Int := if decide (matIx h.fl 0 h.ms < 0) || decide (matIx h.ce 0 h.ms < 0) then 6 else 0
def chkListR (h : Hal) : List (Int × Int × Int) :=
  [(0, 0, unl (isNameR h.nm) 4), (0, 0, unl (within h.ht 2 5000) 2), (0, 0, unl (decide ((h.ms.length : Int) ≤ 10)) 8), (1, fIx (mErrR h) 0 h.ms.length), (0, 0, flErrR h), (0, 0, unl (decide (3 ≤ (h.cs.length : Int)) && decide ((h.ws.length : Int) = h.cs.length)) 10),
   (0, 0, unl (decide ((h.ws.length : Int) ≤ 12)) 8), (2, fIx (coErrR h) 0 h.cs.length), (3, fIx (waErrR h) 0 h.ws.length), (0, 0, unl (simpleR h.cs) 24), (0, 0, unl (decide (0 < twAreaR h.cs)) 9), (0, 0, unl (decide ((h.ks.length : Int) ≤ 4)) 8), (4, fIx (caErrR h) 0 h.ks.length),
   (0, 0, unl (decide ((h.ss.length : Int) ≤ 40)) 8), (5, fIx (seErrR h) 0 h.ss.length)]
def chkR (h : Hal) : Int × Int × Int := firstErr (chkListR h)
theorem ret_R {X x : Int × Int × Int} {l : List (Int × Int × Int)} {σ : St} {a b e : Int} (hE : X = firstErr (x :: l)) (hx : x = (a, b, e)) (he : e ≠ 0) : Ret ⟨chkV X, []⟩ (.tup [.agg [I a, I b], I e]) σ := by
  subst hx
  rw [hE, firstErr, if_neg he]
  exact ret_of rfl rfl
theorem next_R {X x : Int × Int × Int} {l : List (Int × Int × Int)} (hE : X = firstErr (x :: l)) (hx : x.2.2 = 0) : X = firstErr l := by rw [hE, firstErr, if_pos hx]
theorem unl_t {b : Bool} {e : Int} (h : b = true) : unl b e = 0 := by rw [h]; rfl
theorem unl_f {b : Bool} {e : Int} (h : b = false) : unl b e = e := by rw [h]; rfl

/-- Contracts by numbers. -/
theorem fam_hitN {h : Hal} {r : Nat → PRes} {n k : Nat} (hk : k < n) : fam (fun k => [h.av, I (k : Int)]) r n [h.av, I (k : Int)] = some (r k) :=
  fam_hit (g := fun k => [h.av, I (k : Int)]) (r := r) (fun j hj => by
    simp only [List.cons.injEq, AV.int.injEq, Int.natCast_inj, true_and, and_true] at hj
    rw [hj]) hk
theorem fail_M {X : Int × Int × Int} {M T : Int × Int} {c k e : Int} {l : List (Int × Int × Int)} {σ : St} (hE : X = firstErr ((c, M) :: l)) (hh : (if e = 0 then T else (k, e)) = M) (he : e ≠ 0) : Ret ⟨chkV X, []⟩ (.tup [.agg [I c, I k], I e]) σ := by
  rw [if_neg he] at hh
  subst hh
  exact ret_R hE rfl he
abbrev E65 (l : List (Nat × AV)) : Env := (1, .ptr 0 0 0) :: (2, .ptr 1 0 0) :: (3, I 0) :: l
abbrev Z65 (h : Hal) : List (Nat × ABlk) := [(1, .row 2 [[I 0, I 0]] true false), (0, .row 9 [h.cells] true false)]
def sx65 : FuncId → Bool := fun f => Nat.beq f 182 || Nat.beq f 183

end Go.Proofs.YtdaliaafmcjikaaGreat
namespace Go.Proofs.YtdaliaafmcjikaaGreat
open Go Go.Sx

/-! ### Plain law: both CheckHall answer alike -/
theorem elemK_iff (s : ByteArray) : ∀ l : List ByteArray, elemK s l = true ↔ s ∈ l
  | [] => by simp [elemK]
  | a :: l => by rw [elemK, Bool.or_eq_true, elemK_iff s l, beq_ba, decide_eq_true_eq, List.mem_cons]
theorem addK_mem (s a : ByteArray) (l : List ByteArray) : s ∈ addK a l ↔ s = a ∨ s ∈ l := by
  unfold addK
  cases h : elemK a l with
  | true =>
    have := (elemK_iff a l).1 h
    constructor
    · exact .inr
    · rintro (rfl | h)
      · exact this
      · exact h
  | false => simp [or_comm]
theorem matIx_ge (s : ByteArray) : ∀ (l : List Mat) (i : Nat), matIx s i l = -1 ∨ (i : Int) ≤ matIx s i l
  | [], i => .inl rfl
  | m :: l, i => by
    rw [matIx]
    split
    · exact .inr (by omega)
    · rcases matIx_ge s l (i + 1) with h | h
      · exact .inl h
      · exact .inr (by omega)
theorem matIx_neg (s : ByteArray) : ∀ (l : List Mat) (i : Nat), matIx s i l < 0 ↔ ¬∃ m ∈ l, m.nm = s
  | [], i => by simp [matIx]
  | m :: l, i => by
    rw [matIx, beq_ba]
    by_cases h : m.nm = s
    · simp [h]
    · simp only [h, decide_false, Bool.false_eq_true, if_false]
      rw [matIx_neg s l (i + 1)]
      simp [h]
theorem matIx_lt (s : ByteArray) : ∀ (l : List Mat) (i k : Nat), (∃ m ∈ l, m.nm = s) → (matIx s i l < ((i + k : Nat) : Int) ↔ ∃ m ∈ l.take k, m.nm = s)
  | [], i, k, h => by simp at h
  | m :: l, i, 0, h => by
    rw [matIx]
    split
    · simp
    · rename_i hx
      rw [beq_ba, decide_eq_true_eq] at hx
      have h1 : ∃ m ∈ l, m.nm = s := by
        obtain ⟨u, hu, e⟩ := h
        rcases List.mem_cons.1 hu with rfl | hu
        · exact absurd e hx
        · exact ⟨u, hu, e⟩
      have h2 := mt (matIx_neg s l (i + 1)).1 (by simpa using h1)
      have h3 := matIx_ge s l (i + 1)
      simp
      omega
  | m :: l, i, k + 1, h => by
    rw [matIx, beq_ba]
    by_cases hx : m.nm = s
    · simp [hx]; omega
    · have h1 : ∃ m ∈ l, m.nm = s := by
        obtain ⟨u, hu, e⟩ := h
        rcases List.mem_cons.1 hu with rfl | hu
        · exact absurd e hx
        · exact ⟨u, hu, e⟩
      have := matIx_lt s l (i + 1) k h1
      simp only [hx, decide_false, Bool.false_eq_true, if_false]
      rw [show i + (k + 1) = i + 1 + k by omega, this]
      simp [hx]

/-- A check of the names in a row and of what else there is: the first error. -/
theorem mats_same (h : Hal) (n : Nat) (hn : n = h.ms.length) : ∀ (m k : Nat) (ns : List ByteArray), m = n - k → k ≤ n → (∀ s, s ∈ ns ↔ ∃ u ∈ h.ms.take k, u.nm = s) →
    ((matsGo k ns (h.ms.drop k)).1, (matsGo k ns (h.ms.drop k)).2.1) = fIx (mErrR h) k (n - k) ∧ ((matsGo k ns (h.ms.drop k)).2.1 = 0 → ∀ s, s ∈ (matsGo k ns (h.ms.drop k)).2.2 ↔ ∃ u ∈ h.ms, u.nm = s)
  | 0, k, ns, hm, hk, hs => by
    have : k = n := by omega
    rw [fIx_end (by omega), List.drop_of_length_le (by omega)]
    refine ⟨rfl, fun _ s => ?_⟩
    rw [matsGo, hs s, List.take_of_length_le (by omega)]
  | m + 1, k, ns, hm, hk, hs => by
    have hlt : k < h.ms.length := by omega
    rw [fIx_step (by omega : k < n), List.drop_eq_getElem_cons hlt, matsGo]
    have e1 : mErrR h k = mErr h k h.ms[k] := by unfold mErrR; rw [List.getElem?_eq_getElem hlt]
    have e2 : mErr h k h.ms[k] = if addErr h.ms[k].nm ns = 0 then matErr h.ms[k] else addErr h.ms[k].nm ns := by
      unfold mErr addErr
      rw [isNameR_eq]
      cases isName h.ms[k].nm with
      | false => simp
      | true =>
        have h1 : (matIx h.ms[k].nm 0 h.ms < (k : Int)) ↔ elemK h.ms[k].nm ns = true := by
          have := matIx_lt h.ms[k].nm h.ms 0 k ⟨h.ms[k], List.getElem_mem hlt, rfl⟩
          rw [Nat.zero_add] at this
          rw [this, elemK_iff, hs]
        rw [show decide (matIx h.ms[k].nm 0 h.ms < (k : Int)) = elemK h.ms[k].nm ns by rw [Bool.eq_iff_iff, decide_eq_true_eq, h1]]
        cases elemK h.ms[k].nm ns with
        | true => simp
        | false =>
          simp only [if_true, Bool.false_eq_true, if_false, matErr]
          cases thou h.ms[k].a <;> cases thou h.ms[k].b <;> cases thou h.ms[k].c <;> cases thou h.ms[k].d <;> cases thou h.ms[k].sc <;> rfl
    rw [e1, e2]
    by_cases c1 : addErr h.ms[k].nm ns = 0
    · rw [if_pos c1, if_pos c1]
      by_cases c2 : matErr h.ms[k] = 0
      · rw [if_pos c2, if_pos c2]
        refine mats_same h n hn m (k + 1) _ (by omega) (by omega) fun s => ?_
        rw [addK_mem, hs, List.take_succ_eq_append_getElem hlt]
        simp only [List.mem_append, List.mem_singleton]
        constructor
        · rintro (rfl | ⟨u, hu, e⟩)
          · exact ⟨_, .inr rfl, rfl⟩
          · exact ⟨u, .inl hu, e⟩
        · rintro ⟨u, hu | rfl, e⟩
          · exact .inr ⟨u, hu, e⟩
          · exact .inl e.symm
      · rw [if_neg c2, if_neg c2]
        exact ⟨rfl, fun hh => absurd hh c2⟩
    · rw [if_neg c1, if_neg c1, if_neg c1]
      exact ⟨rfl, fun hh => absurd hh c1⟩
/-- A set of names against the names that stand ahead. -/
theorem names_step {A : List ByteArray} {ns : List ByteArray} {P : ByteArray → Prop} {a : ByteArray} (hs : ∀ s, s ∈ ns ↔ P s) : ∀ s, s ∈ addK a ns ↔ s = a ∨ P s := fun s => by rw [addK_mem, hs]

theorem small_plc (x : Int) : small x 5000 = plc x := by
  unfold small plc
  rw [show IntKind.i64.wrap (0 - 5000) = -5000 by decide]
theorem cors_same (h : Hal) (n : Nat) (hn : n = h.cs.length) : ∀ (m k : Nat), m = n - k → k ≤ n → corGo k (h.cs.drop k) = fIx (coErrR h) k (n - k)
  | 0, k, hm, hk => by
    rw [fIx_end (by omega), List.drop_of_length_le (by omega)]; rfl
  | m + 1, k, hm, hk => by
    have hlt : k < h.cs.length := by omega
    rw [fIx_step (by omega : k < n), List.drop_eq_getElem_cons hlt, corGo]
    have e1 : coErrR h k = if corOk h.cs[k].1 h.cs[k].2 then 0 else 2 := by
      unfold coErrR corOk
      rw [cor_get hlt, small_plc, small_plc]
    rw [e1]
    have ih := cors_same h n hn m (k + 1) (by omega) (by omega)
    cases corOk h.cs[k].1 h.cs[k].2
    · simp
    · simpa using ih
end Go.Proofs.YtdaliaafmcjikaaGreat
namespace Go.Proofs.YtdaliaafmcjikaaGreat
open Go Go.Sx

theorem fIx_zero {f : Nat → Int} {n : Nat} : ∀ (m k : Nat), m = n - k → (fIx f k (n - k)).2 = 0 → ∀ i, k ≤ i → i < n → f i = 0
  | 0, k, hm, h, i, h1, h2 => by omega
  | m + 1, k, hm, h, i, h1, h2 => by
    rw [fIx_step (by omega : k < n)] at h
    by_cases c : f k = 0
    · rw [if_pos c] at h
      by_cases e : i = k
      · subst e; exact c
      · exact fIx_zero m (k + 1) (by omega) h i (by omega) h2
    · rw [if_neg c] at h
      exact absurd h c
theorem fIx_none {f : Nat → Int} {n : Nat} : ∀ (m k : Nat), m = n - k → (∀ i, k ≤ i → i < n → f i = 0) → fIx f k (n - k) = (0, 0)
  | 0, k, hm, h => fIx_end (by omega)
  | m + 1, k, hm, h => by
    rw [fIx_step (by omega : k < n), if_pos (h k (by omega) (by omega))]
    exact fIx_none m (k + 1) (by omega) fun i h1 h2 => h i (by omega) h2
/-- The corners lie within the bounds. -/
def CorOk (cs : List (Int × Int)) : Prop := ∀ i, i < cs.length → (-5000 ≤ (cor cs i).1 ∧ (cor cs i).1 ≤ 5000) ∧ (-5000 ≤ (cor cs i).2 ∧ (cor cs i).2 ≤ 5000)
theorem corOk_of {h : Hal} (hz : (fIx (coErrR h) 0 h.cs.length).2 = 0) : CorOk h.cs := by
  intro i hi
  have := fIx_zero (n := h.cs.length) _ 0 rfl hz i (Nat.zero_le _) hi
  unfold coErrR at this
  have h1 : (plc (cor h.cs i).1 && plc (cor h.cs i).2) = true := by
    cases hq : (plc (cor h.cs i).1 && plc (cor h.cs i).2)
    · rw [hq] at this; simp at this
    · rfl
  rw [Bool.and_eq_true] at h1
  exact ⟨within_iff.1 h1.1, within_iff.1 h1.2⟩
theorem wl_bd {cs : List (Int × Int)} (hb : CorOk cs) {i : Nat} (hi : i < cs.length) : ((-5000 ≤ (wlOf cs i).fx ∧ (wlOf cs i).fx ≤ 5000) ∧ (-5000 ≤ (wlOf cs i).fy ∧ (wlOf cs i).fy ≤ 5000)) ∧ ((-5000 ≤ (wlOf cs i).tx ∧ (wlOf cs i).tx ≤ 5000) ∧ (-5000 ≤ (wlOf cs i).ty ∧ (wlOf cs i).ty ≤ 5000)) :=
  ⟨hb i hi, hb _ (Nat.mod_lt _ (by omega))⟩
theorem size_bd {n : Int} (h : -10000 ≤ n ∧ n ≤ 10000) : size n = if n < 0 then -n else n := size_eq (by omega)
theorem line_same {w : Wl} (h1 : (-5000 ≤ w.fx ∧ w.fx ≤ 5000) ∧ (-5000 ≤ w.fy ∧ w.fy ≤ 5000)) (h2 : (-5000 ≤ w.tx ∧ w.tx ≤ 5000) ∧ (-5000 ≤ w.ty ∧ w.ty ≤ 5000)) : lineErr w = lineErrR w.ln := by
  unfold lineErr lineErrR Wl.straight Wl.dx Wl.dy Wl.ln
  dsimp only
  rw [W_eq (n := w.tx - w.fx) (by omega) (by omega), W_eq (n := w.ty - w.fy) (by omega) (by omega)]
  have e1 : decide (w.fx = w.tx) = decide (w.tx - w.fx = 0) := by rw [decide_eq_decide]; omega
  have e2 : decide (w.fy = w.ty) = decide (w.ty - w.fy = 0) := by rw [decide_eq_decide]; omega
  rw [e1, e2]
  cases decide (w.tx - w.fx = 0) <;> cases decide (w.ty - w.fy = 0) <;> cases decide (size (w.tx - w.fx) = size (w.ty - w.fy)) <;> rfl
theorem str_of {w : Wl} (h1 : (-5000 ≤ w.fx ∧ w.fx ≤ 5000) ∧ (-5000 ≤ w.fy ∧ w.fy ≤ 5000)) (h2 : (-5000 ≤ w.tx ∧ w.tx ≤ 5000) ∧ (-5000 ≤ w.ty ∧ w.ty ≤ 5000)) (hz : lineErr w = 0) : ∃ n sx sy, Str w n sx sy := by
  unfold lineErr Wl.straight Wl.dx Wl.dy at hz
  rw [W_eq (n := w.tx - w.fx) (by omega) (by omega), W_eq (n := w.ty - w.fy) (by omega) (by omega), size_bd (by omega), size_bd (by omega)] at hz
  have g1 : ¬(w.fx = w.tx ∧ w.fy = w.ty) := by
    rintro ⟨a, b⟩
    rw [decide_eq_true a, decide_eq_true b] at hz
    simp at hz
  have g2 : w.tx - w.fx = 0 ∨ w.ty - w.fy = 0 ∨ w.tx - w.fx = w.ty - w.fy ∨ w.tx - w.fx = -(w.ty - w.fy) := by
    have g3 : (decide (w.fx = w.tx) && decide (w.fy = w.ty)) = false := by
      rw [Bool.eq_false_iff]; intro hq; simp only [Bool.and_eq_true, decide_eq_true_eq] at hq; exact g1 hq
    rw [g3] at hz
    simp only [Bool.false_eq_true, if_false] at hz
    have g4 : (decide (w.tx - w.fx = 0) || decide (w.ty - w.fy = 0) || decide ((if w.tx - w.fx < 0 then -(w.tx - w.fx) else w.tx - w.fx) = if w.ty - w.fy < 0 then -(w.ty - w.fy) else w.ty - w.fy)) = true := by
      cases hq : (decide (w.tx - w.fx = 0) || decide (w.ty - w.fy = 0) || decide ((if w.tx - w.fx < 0 then -(w.tx - w.fx) else w.tx - w.fx) = if w.ty - w.fy < 0 then -(w.ty - w.fy) else w.ty - w.fy))
      · rw [hq] at hz; simp at hz
      · rfl
    simp only [Bool.or_eq_true, decide_eq_true_eq] at g4
    omega
  obtain ⟨⟨b1, b2⟩, b3, b4⟩ := h1
  rcases Int.lt_trichotomy (w.tx - w.fx) 0 with c1 | c1 | c1 <;> rcases Int.lt_trichotomy (w.ty - w.fy) 0 with c2 | c2 | c2
  · exact ⟨w.fx - w.tx, -1, -1, by omega, by omega, by omega, by omega, by omega, by omega, by omega, by omega, by omega, by omega⟩
  · exact ⟨w.fx - w.tx, -1, 0, by omega, by omega, by omega, by omega, by omega, by omega, by omega, by omega, by omega, by omega⟩
  · exact ⟨w.fx - w.tx, -1, 1, by omega, by omega, by omega, by omega, by omega, by omega, by omega, by omega, by omega, by omega⟩
  · exact ⟨w.fy - w.ty, 0, -1, by omega, by omega, by omega, by omega, by omega, by omega, by omega, by omega, by omega, by omega⟩
  · exact absurd ⟨by omega, by omega⟩ g1
  · exact ⟨w.ty - w.fy, 0, 1, by omega, by omega, by omega, by omega, by omega, by omega, by omega, by omega, by omega, by omega⟩
  · exact ⟨w.tx - w.fx, 1, -1, by omega, by omega, by omega, by omega, by omega, by omega, by omega, by omega, by omega, by omega⟩
  · exact ⟨w.tx - w.fx, 1, 0, by omega, by omega, by omega, by omega, by omega, by omega, by omega, by omega, by omega, by omega⟩
  · exact ⟨w.tx - w.fx, 1, 1, by omega, by omega, by omega, by omega, by omega, by omega, by omega, by omega, by omega, by omega⟩
theorem wErrR_line {h : Hal} {i : Nat} {w : Wal} (hz : wErrR h i w = 0) : lineErrR (lnOf h.cs i) = 0 := by
  unfold wErrR at hz
  split at hz
  · split at hz
    · cases hz
    · split at hz
      · cases hz
      · split at hz
        · cases hz
        · exact hz
  · cases hz
theorem allStr_of {h : Hal} (hb : CorOk h.cs) (hwc : h.ws.length = h.cs.length) (hz : (fIx (waErrR h) 0 h.ws.length).2 = 0) : AllStr h.cs := by
  intro i hi
  have h1 := fIx_zero (n := h.ws.length) _ 0 rfl hz i (Nat.zero_le _) (by omega)
  unfold waErrR at h1
  rw [List.getElem?_eq_getElem (by omega)] at h1
  have h2 := wErrR_line h1
  rw [lnOf_eq, ← line_same (wl_bd hb hi).1 (wl_bd hb hi).2] at h2
  exact str_of (wl_bd hb hi).1 (wl_bd hb hi).2 h2
theorem nz_of {h : Hal} (hs : AllStr h.cs) : h.nz := by
  intro k hk
  obtain ⟨n, sx, sy, g⟩ := hs k hk
  rw [lnOf_eq, g.ln.2.2.1]
  have := g.hn
  omega

theorem any_nm {α : Type} {f : α → ByteArray} {l : List α} {s : ByteArray} : (l.any fun v => f v == s) = true ↔ ∃ u ∈ l, f u = s := by
  rw [List.any_eq_true]
  simp only [beq_ba, decide_eq_true_eq]
theorem elem_dec {s : ByteArray} {l : List ByteArray} {p : Prop} [Decidable p] (h : s ∈ l ↔ p) : elemK s l = decide p := dec_of ((elemK_iff s l).trans h)
theorem mat_dec {h : Hal} {ms : List ByteArray} (hms : ∀ s, s ∈ ms ↔ ∃ u ∈ h.ms, u.nm = s) (s : ByteArray) : elemK s ms = !decide (matIx s 0 h.ms < 0) := by
  rw [Bool.eq_iff_iff, elemK_iff, hms, Bool.not_eq_true', decide_eq_false_iff_not, matIx_neg, Classical.not_not]

theorem wals_same (h : Hal) (n : Nat) (hn : n = h.ws.length) (hwc : h.ws.length = h.cs.length) (hb : CorOk h.cs) {ms : List ByteArray} (hms : ∀ s, s ∈ ms ↔ ∃ u ∈ h.ms, u.nm = s) : ∀ (m k : Nat) (ns : List ByteArray), m = n - k → k ≤ n → (∀ s, s ∈ ns ↔ (s = floorS ∨ s = ceilS) ∨ ∃ u ∈ h.ws.take k, u.nm = s) →
    ((walGo h.cs ms k ns (h.ws.drop k)).1, (walGo h.cs ms k ns (h.ws.drop k)).2.1) = fIx (waErrR h) k (n - k) ∧ ((walGo h.cs ms k ns (h.ws.drop k)).2.1 = 0 → ∀ s, s ∈ (walGo h.cs ms k ns (h.ws.drop k)).2.2 ↔ (s = floorS ∨ s = ceilS) ∨ ∃ u ∈ h.ws, u.nm = s)
  | 0, k, ns, hm, hk, hs => by
    rw [fIx_end (by omega), List.drop_of_length_le (by omega)]
    refine ⟨rfl, fun _ s => ?_⟩
    rw [walGo, hs s, List.take_of_length_le (by omega)]
  | m + 1, k, ns, hm, hk, hs => by
    have hlt : k < h.ws.length := by omega
    rw [fIx_step (by omega : k < n), List.drop_eq_getElem_cons hlt, walGo]
    have e1 : waErrR h k = wErrR h k h.ws[k] := by unfold waErrR; rw [List.getElem?_eq_getElem hlt]
    have e2 : wErrR h k h.ws[k] = if addErr h.ws[k].nm ns = 0 then wErr h.cs ms k h.ws[k] else addErr h.ws[k].nm ns := by
      unfold wErrR addErr
      rw [isNameR_eq]
      cases isName h.ws[k].nm with
      | false => simp
      | true =>
        have h1 : elemK h.ws[k].nm ns = (((h.ws[k].nm == floorS) || (h.ws[k].nm == ceilS)) || (h.ws.take k).any fun v => v.nm == h.ws[k].nm) := by
          rw [Bool.eq_iff_iff, elemK_iff, hs, Bool.or_eq_true, Bool.or_eq_true, any_nm, beq_ba, beq_ba, decide_eq_true_eq, decide_eq_true_eq]
        rw [h1]
        have h2 : wErr h.cs ms k h.ws[k] = if decide (matIx h.ws[k].mt 0 h.ms < 0) || (!(h.ws[k].cu == ⟨#[]⟩) && decide (matIx h.ws[k].cu 0 h.ms < 0)) then 6 else lineErrR (lnOf h.cs k) := by
          unfold wErr wErrL
          rw [mat_dec hms, mat_dec hms, lnOf_eq, ← line_same (wl_bd hb (by omega)).1 (wl_bd hb (by omega)).2]
          cases decide (matIx h.ws[k].mt 0 h.ms < 0) <;> cases (h.ws[k].cu == ⟨#[]⟩) <;> cases decide (matIx h.ws[k].cu 0 h.ms < 0) <;> rfl
        rw [← h2]
        cases (h.ws.take k).any (fun v => v.nm == h.ws[k].nm) <;> cases (h.ws[k].nm == floorS) <;> cases (h.ws[k].nm == ceilS) <;> rfl
    rw [e1, e2]
    by_cases c1 : addErr h.ws[k].nm ns = 0
    · rw [if_pos c1, if_pos c1]
      by_cases c2 : wErr h.cs ms k h.ws[k] = 0
      · rw [if_pos c2, if_pos c2]
        refine wals_same h n hn hwc hb hms m (k + 1) _ (by omega) (by omega) fun s => ?_
        rw [addK_mem, hs, List.take_succ_eq_append_getElem hlt]
        simp only [List.mem_append, List.mem_singleton]
        constructor
        · rintro (rfl | hl | ⟨u, hu, e⟩)
          · exact .inr ⟨_, .inr rfl, rfl⟩
          · exact .inl hl
          · exact .inr ⟨u, .inl hu, e⟩
        · rintro (hl | ⟨u, hu | rfl, e⟩)
          · exact .inr (.inl hl)
          · exact .inr (.inr ⟨u, hu, e⟩)
          · exact .inl e.symm
      · rw [if_neg c2, if_neg c2]
        exact ⟨rfl, fun hh => absurd hh c2⟩
    · rw [if_neg c1, if_neg c1, if_neg c1]
      exact ⟨rfl, fun hh => absurd hh c1⟩

theorem can_same {h : Hal} (hs : AllStr h.cs) (c : Can) : canErr h c = if within c.hs.length 1 4 then (if hsErr h.ht none c.hs = 0 then (if plc c.fx && plc c.fy && plc c.tx && plc c.ty then (if decide (c.fx = c.tx) || decide (c.fy = c.ty) then 11 else if rectOk h c then 0 else 24) else 2) else hsErr h.ht none c.hs) else 10 := by
  unfold canErr
  have e : (if corOk c.fx c.fy && corOk c.tx c.ty then (if decide (c.fx = c.tx) || decide (c.fy = c.ty) then 11 else unl (insideR h (rcOf c.fx c.fy c.tx c.ty)) 24) else 2) = if plc c.fx && plc c.fy && plc c.tx && plc c.ty then (if decide (c.fx = c.tx) || decide (c.fy = c.ty) then 11 else if rectOk h c then (0 : Int) else 24) else 2 := by
    unfold corOk
    rw [small_plc, small_plc, small_plc, small_plc, ← Bool.and_assoc]
    by_cases hp : (plc c.fx && plc c.fy && plc c.tx && plc c.ty) = true
    · rw [if_pos hp, if_pos hp]
      by_cases hd : (decide (c.fx = c.tx) || decide (c.fy = c.ty)) = true
      · rw [if_pos hd, if_pos hd]
      · rw [if_neg hd, if_neg hd]
        simp only [Bool.and_eq_true] at hp
        simp only [Bool.or_eq_true, decide_eq_true_eq, not_or] at hd
        rw [show rcOf c.fx c.fy c.tx c.ty = c.rc from rfl, rect_eq hs ⟨within_iff.1 hp.1.1.1, within_iff.1 hp.1.1.2, within_iff.1 hp.1.2, within_iff.1 hp.2, hd.1, hd.2⟩]
        cases rectOk h c <;> rfl
    · rw [if_neg hp, if_neg hp]
  rw [e]
theorem cans_same (h : Hal) (n : Nat) (hn : n = h.ks.length) (hst : AllStr h.cs) {ms : List ByteArray} (hms : ∀ s, s ∈ ms ↔ ∃ u ∈ h.ms, u.nm = s) : ∀ (m k : Nat) (ns : List ByteArray), m = n - k → k ≤ n → (∀ s, s ∈ ns ↔ ((s = floorS ∨ s = ceilS) ∨ ∃ u ∈ h.ws, u.nm = s) ∨ ∃ u ∈ h.ks.take k, u.nm = s) →
    ((canGo h ms k ns (h.ks.drop k)).1, (canGo h ms k ns (h.ks.drop k)).2.1) = fIx (caErrR h) k (n - k)
  | 0, k, ns, hm, hk, hs => by
    rw [fIx_end (by omega), List.drop_of_length_le (by omega)]; rfl
  | m + 1, k, ns, hm, hk, hs => by
    have hlt : k < h.ks.length := by omega
    rw [fIx_step (by omega : k < n), List.drop_eq_getElem_cons hlt, canGo]
    have e1 : caErrR h k = cErrR h k h.ks[k] := by unfold caErrR; rw [List.getElem?_eq_getElem hlt]
    have e2 : cErrR h k h.ks[k] = if addErr h.ks[k].nm ns = 0 then cErr h ms h.ks[k] else addErr h.ks[k].nm ns := by
      unfold cErrR addErr
      rw [isNameR_eq]
      cases isName h.ks[k].nm with
      | false => simp
      | true =>
        have h1 : elemK h.ks[k].nm ns = ((((h.ks[k].nm == floorS) || (h.ks[k].nm == ceilS)) || (h.ws.any fun v => v.nm == h.ks[k].nm)) || (h.ks.take k).any fun v => v.nm == h.ks[k].nm) := by
          rw [Bool.eq_iff_iff, elemK_iff, hs, Bool.or_eq_true, Bool.or_eq_true, Bool.or_eq_true, any_nm, any_nm, beq_ba, beq_ba, decide_eq_true_eq, decide_eq_true_eq]
        rw [h1]
        unfold cErr
        rw [mat_dec hms, ← can_same hst]
        cases (h.ks.take k).any (fun v => v.nm == h.ks[k].nm) <;> cases (h.ws.any fun v => v.nm == h.ks[k].nm) <;> cases (h.ks[k].nm == floorS) <;> cases (h.ks[k].nm == ceilS) <;> cases decide (matIx h.ks[k].mt 0 h.ms < 0) <;> rfl
    rw [e1, e2]
    by_cases c1 : addErr h.ks[k].nm ns = 0
    · rw [if_pos c1, if_pos c1]
      by_cases c2 : cErr h ms h.ks[k] = 0
      · rw [if_pos c2, if_pos c2]
        refine cans_same h n hn hst hms m (k + 1) _ (by omega) (by omega) fun s => ?_
        rw [addK_mem, hs, List.take_succ_eq_append_getElem hlt]
        simp only [List.mem_append, List.mem_singleton]
        constructor
        · rintro (rfl | hl | ⟨u, hu, e⟩)
          · exact .inr ⟨_, .inr rfl, rfl⟩
          · exact .inl hl
          · exact .inr ⟨u, .inl hu, e⟩
        · rintro (hl | ⟨u, hu | rfl, e⟩)
          · exact .inr (.inl hl)
          · exact .inr (.inr ⟨u, hu, e⟩)
          · exact .inl e.symm
      · rw [if_neg c2, if_neg c2]
    · rw [if_neg c1, if_neg c1, if_neg c1]

theorem sea_same {h : Hal} (hst : AllStr h.cs) (x y z : Int) : plErr h x y z = if plc x && plc y && plc z then (if isInsR h ⟨x, y, z, 1⟩ then 0 else 24) else 2 := by
  unfold plErr
  rw [small_plc, small_plc, small_plc]
  by_cases hp : (plc x && plc y && plc z) = true
  · rw [if_pos hp, if_pos hp]
    simp only [Bool.and_eq_true] at hp
    unfold hasPt isInsR
    rw [inPlan_eq hst z (ptOk_c (within_iff.1 hp.1.1) (within_iff.1 hp.1.2))]
  · rw [if_neg hp, if_neg hp]
theorem seas_same (h : Hal) (n : Nat) (hn : n = h.ss.length) (hst : AllStr h.cs) : ∀ (m k : Nat) (ns : List ByteArray), m = n - k → k ≤ n → (∀ s, s ∈ ns ↔ ∃ u ∈ h.ss.take k, u.nm = s) →
    ((seaGo h k ns (h.ss.drop k)).1, (seaGo h k ns (h.ss.drop k)).2.1) = fIx (seErrR h) k (n - k)
  | 0, k, ns, hm, hk, hs => by
    rw [fIx_end (by omega), List.drop_of_length_le (by omega)]; rfl
  | m + 1, k, ns, hm, hk, hs => by
    have hlt : k < h.ss.length := by omega
    rw [fIx_step (by omega : k < n), List.drop_eq_getElem_cons hlt, seaGo]
    have e1 : seErrR h k = sErrR h k h.ss[k] := by unfold seErrR; rw [List.getElem?_eq_getElem hlt]
    have e2 : sErrR h k h.ss[k] = if addErr h.ss[k].nm ns = 0 then plErr h h.ss[k].x h.ss[k].y h.ss[k].z else addErr h.ss[k].nm ns := by
      unfold sErrR addErr
      rw [isNameR_eq, ← sea_same hst]
      cases isName h.ss[k].nm with
      | false => simp
      | true =>
        have h1 : elemK h.ss[k].nm ns = (h.ss.take k).any fun v => v.nm == h.ss[k].nm := by
          rw [Bool.eq_iff_iff, elemK_iff, hs, any_nm]
        rw [h1]
        cases (h.ss.take k).any (fun v => v.nm == h.ss[k].nm) <;> rfl
    rw [e1, e2]
    by_cases c1 : addErr h.ss[k].nm ns = 0
    · rw [if_pos c1, if_pos c1]
      by_cases c2 : plErr h h.ss[k].x h.ss[k].y h.ss[k].z = 0
      · rw [if_pos c2, if_pos c2]
        refine seas_same h n hn hst m (k + 1) _ (by omega) (by omega) fun s => ?_
        rw [addK_mem, hs, List.take_succ_eq_append_getElem hlt]
        simp only [List.mem_append, List.mem_singleton]
        constructor
        · rintro (rfl | ⟨u, hu, e⟩)
          · exact ⟨_, .inr rfl, rfl⟩
          · exact ⟨u, .inl hu, e⟩
        · rintro ⟨u, hu | rfl, e⟩
          · exact .inr ⟨u, hu, e⟩
          · exact .inl e.symm
      · rw [if_neg c2, if_neg c2]
    · rw [if_neg c1, if_neg c1, if_neg c1]

theorem fe_cons {x y : Int × Int × Int} {l m : List (Int × Int × Int)} (h : x = y) (hl : y.2.2 = 0 → firstErr l = firstErr m) : firstErr (x :: l) = firstErr (y :: m) := by
  subst h
  rw [firstErr, firstErr]
  by_cases c : x.2.2 = 0
  · rw [if_pos c, if_pos c, hl c]
  · rw [if_neg c, if_neg c]
/-- Both CheckHall answer alike. -/
theorem chk_eq {h : Hal} (hf : h.few) : chkR h = chk h := by
  unfold chkR chkListR chk chkList
  refine fe_cons (by rw [isNameR_eq]; rfl) fun _ => fe_cons rfl fun _ => fe_cons rfl fun _ => ?_
  obtain ⟨m1, m2⟩ := mats_same h h.ms.length rfl _ 0 [] rfl (Nat.zero_le _) (fun s => by simp)
  rw [List.drop_zero, Nat.sub_zero] at m1
  rw [List.drop_zero] at m2
  refine fe_cons (by rw [← m1]) fun z1 => ?_
  have hms := m2 z1
  refine fe_cons ?_ fun _ => fe_cons rfl fun z2 => fe_cons rfl fun _ => ?_
  · unfold flErrR flErr Hal.names
    rw [mat_dec hms, mat_dec hms]
    cases decide (matIx h.fl 0 h.ms < 0) <;> cases decide (matIx h.ce 0 h.ms < 0) <;> rfl
  have hwc : 3 ≤ h.cs.length ∧ h.ws.length = h.cs.length := by
    have := unl_zero z2 (by decide)
    simp only [set7, Bool.and_eq_true, decide_eq_true_eq] at this
    omega
  have c1 := cors_same h h.cs.length rfl _ 0 rfl (Nat.zero_le _)
  rw [List.drop_zero, Nat.sub_zero] at c1
  refine fe_cons (by rw [c1]) fun z3 => ?_
  have hb : CorOk h.cs := corOk_of (by rw [c1] at z3; exact z3)
  obtain ⟨w1, w2⟩ := wals_same h h.ws.length rfl hwc.2 hb hms _ 0 su0 rfl (Nat.zero_le _) (fun s => by
    rw [su0, addK_mem, addK_mem]; simp [or_comm])
  rw [List.drop_zero, Nat.sub_zero] at w1
  rw [List.drop_zero] at w2
  refine fe_cons (by rw [← w1]; rfl) fun z4 => ?_
  have hst : AllStr h.cs := allStr_of hb hwc.2 (by rw [← w1]; exact z4)
  refine fe_cons (by rw [simple_eq hst hwc.1 hf.2.1]) fun _ => fe_cons (by rw [twArea_eq]) fun _ => fe_cons rfl fun _ => ?_
  have k1 := cans_same h h.ks.length rfl hst hms _ 0 h.wal.2.2 rfl (Nat.zero_le _) (fun s => by
    have := w2 z4 s
    rw [show h.wal.2.2 = (walGo h.cs h.names 0 su0 h.ws).2.2 from rfl]
    simp only [List.take_zero, List.not_mem_nil, false_and, exists_false, or_false]
    exact this)
  rw [List.drop_zero, Nat.sub_zero] at k1
  refine fe_cons (by rw [← k1]; rfl) fun _ => fe_cons rfl fun _ => ?_
  have s1 := seas_same h h.ss.length rfl hst _ 0 [] rfl (Nat.zero_le _) (fun s => by simp)
  rw [List.drop_zero, Nat.sub_zero] at s1
  exact fe_cons (by rw [← s1]) fun _ => rfl
end Go.Proofs.YtdaliaafmcjikaaGreat
namespace Go.Proofs.YtdaliaafmcjikaaGreat
open Go Go.Sx

/-! ### The reference's CheckHall, walked -/
set_option maxRecDepth 100000 in
set_option maxHeartbeats 16000000 in
theorem c65 {h : Hal} (hf : h.few) (ht : h.texts) : PCall Tryz.prog 127 [h.av] ⟨chkV (chkR h), []⟩ := by
  have hk7 := kR7_ok hf
  have e0 : chkR h = firstErr (chkListR h) := rfl
  have ha := asr_of (res := ⟨Bo (isNameR h.nm), []⟩) ht.nm
  have l1 := mt_length h.ms
  have l2 : (h.cs.map pt).length = h.cs.length := by simp
  have l3 := wa_length h.ws
  have l4 := ca_length h.ks
  have l5 := se_length h.ss
  generalize chkR h = X at *
  unfold chkListR at e0
  refine bs.pv (sx := sx65) hk7 Tryz.func127 (by kernel_rfl) (by kernel_rfl) rfl ?_
  repeat' (first | refine wk0 ?_ | (refine wk2 ?_ ?_ <;> intro _) | refine wk4 ?_ | fail); all_goals (conv => whnf)
  · rename_i hx
    exact ret_R e0 (by rw [unl_f (by simpa using hx)]) (by decide)
  · rename_i h1 hx
    exact ret_R (next_R e0 (unl_t (by simpa using h1))) (by rw [unl_f (by simpa using hx)]) (by decide)
  · rename_i h1 h2 hx
    exact ret_R (next_R (next_R e0 (unl_t (by simpa using h1))) (unl_t (by simpa using h2))) (by rw [unl_f (by rw [l1] at hx; simpa using hx)]) (by decide)
  rename_i h1 h2 h3
  have e3 := next_R (next_R (next_R e0 (unl_t (by simpa using h1))) (unl_t (by simpa using h2))) (unl_t (by rw [l1] at h3; simpa using h3))
  clear e0 h1 h2 h3 ha
  generalize hM : fIx (mErrR h) 0 h.ms.length = M at e3
  refine loopV (S := Nat × Int) (fun t => h.ms.length - t.1) (fun t => E65 [(4, I t.2)]) (fun _ => Z65 h) 2 2 (fun t => t.2 = t.1 ∧ t.1 ≤ h.ms.length ∧ fIx (mErrR h) t.1 (h.ms.length - t.1) = M) (0, 0) ⟨rfl, Nat.zero_le _, hM⟩ (Nat.le_refl _) [] rfl (kps) (kps) ?_
  clear hM
  rintro ⟨k, i⟩ ⟨hi, hk, hh⟩
  dsimp only at hi hk hh ⊢
  subst hi
  by_cases hlt : k < h.ms.length
  · have e1 := mt_get hlt
    have hs := ht.ms _ (List.getElem_mem hlt)
    rw [fIx_step hlt] at hh
    have hq : mErrR h k = mErr h k h.ms[k] := by unfold mErrR; rw [List.getElem?_eq_getElem hlt]
    rw [hq] at hh
    clear hq
    generalize h.ms[k] = m at *
    have ha := asr_of (res := ⟨Bo (isNameR m.nm), []⟩) hs
    have hm := mats_hit h m.nm
    refine bs.av (sx := nos) hk7 ?_
    repeat' (first | refine wk1 ?_ | (refine wk2 ?_ ?_ <;> intro _) | refine wk4 ?_ | fail); all_goals (conv => whnf)
    · have hv : mErr h k m = 4 := by clear hh e3 e1 hm hk7; simp_all [mErr]
      rw [hv] at hh; exact fail_M e3 hh (by decide)
    · have hv : mErr h k m = 5 := by clear hh e3 e1 hm hk7; simp_all [mErr]
      rw [hv] at hh; exact fail_M e3 hh (by decide)
    rename_i n1 n2
    have hv : mErr h k m = if (thou m.a && (thou m.b && (thou m.c && thou m.d))) && thou m.sc then 0 else 2 := by unfold mErr; rw [show isNameR m.nm = true by simpa using n1, n2]; rfl
    rw [hv] at hh
    clear hv n1 n2
    refine LpM.start 5 ?_
    refine LpM.succ (bs.av (sx := nos) hk7 ?_)
    repeat' (first | refine wk1 ?_ | (refine wk2 ?_ ?_ <;> intro _) | refine wk4 ?_ | fail); all_goals (conv => whnf)
    · rename_i hx; rw [show thou m.a = false by unfold thou; simpa using hx] at hh; exact fail_M (e := 2) e3 hh (by decide)
    rename_i hx; rw [show thou m.a = true by unfold thou; simpa using hx] at hh; clear hx
    refine LpM.succ (bs.av (sx := nos) hk7 ?_)
    repeat' (first | refine wk1 ?_ | (refine wk2 ?_ ?_ <;> intro _) | refine wk4 ?_ | fail); all_goals (conv => whnf)
    · rename_i hx; rw [show thou m.b = false by unfold thou; simpa using hx] at hh; exact fail_M (e := 2) e3 hh (by decide)
    rename_i hx; rw [show thou m.b = true by unfold thou; simpa using hx] at hh; clear hx
    refine LpM.succ (bs.av (sx := nos) hk7 ?_)
    repeat' (first | refine wk1 ?_ | (refine wk2 ?_ ?_ <;> intro _) | refine wk4 ?_ | fail); all_goals (conv => whnf)
    · rename_i hx; rw [show thou m.c = false by unfold thou; simpa using hx] at hh; exact fail_M (e := 2) e3 hh (by decide)
    rename_i hx; rw [show thou m.c = true by unfold thou; simpa using hx] at hh; clear hx
    refine LpM.succ (bs.av (sx := nos) hk7 ?_)
    repeat' (first | refine wk1 ?_ | (refine wk2 ?_ ?_ <;> intro _) | refine wk4 ?_ | fail); all_goals (conv => whnf)
    · rename_i hx; rw [show thou m.d = false by unfold thou; simpa using hx] at hh; exact fail_M (e := 2) e3 hh (by decide)
    rename_i hx; rw [show thou m.d = true by unfold thou; simpa using hx] at hh; clear hx
    refine LpM.succ (bs.av (sx := nos) hk7 ?_)
    repeat' (first | refine wk1 ?_ | (refine wk2 ?_ ?_ <;> intro _) | refine wk4 ?_ | fail); all_goals (conv => whnf)
    · rename_i hx; rw [show thou m.sc = false by unfold thou; simpa using hx] at hh; exact fail_M (e := 2) e3 hh (by decide)
    rename_i hx; rw [show thou m.sc = true by unfold thou; simpa using hx] at hh
    exact Done.mk ⟨(k + 1, _), [], rfl, kps, kps, ⟨W_succ (by have := hf.1; omega), hlt, hh⟩, by dsimp only; omega⟩
  rw [fIx_end (by omega)] at hh
  have e4 := next_R e3 (by rw [← hh])
  clear e3 hh
  have hm1 := mats_hit h h.fl
  have hm2 := mats_hit h h.ce
  refine bs.av (sx := nos) hk7 ?_
  repeat' (first | refine wk1 ?_ | (refine wk2 ?_ ?_ <;> intro _) | refine wk4 ?_ | fail); all_goals (conv => whnf)
  · rename_i hx
    refine ret_R e4 (by unfold flErrR; simp_all; done) (by decide)
  · rename_i h0 hx
    refine ret_R e4 (by unfold flErrR; simp_all; done) (by decide)
  · rename_i h0 h1 hx
    exact ret_R (next_R e4 (by unfold flErrR; rw [h0, show decide (matIx h.ce 0 h.ms < 0) = false by simpa using h1]; rfl)) (by rw [l2] at hx; rw [unl_f (by have := of_decide_eq_true hx; rw [decide_eq_false (by omega)]; rfl)]) (by decide)
  · rename_i h0 h1 h2 hx
    exact ret_R (next_R e4 (by unfold flErrR; rw [h0, show decide (matIx h.ce 0 h.ms < 0) = false by simpa using h1]; rfl)) (by rw [l3, l2] at hx; rw [unl_f (by rw [show decide ((h.ws.length : Int) = h.cs.length) = false by simpa using hx]; simp)]) (by decide)
  · rename_i h0 h1 h2 h3 hx
    have e5 := next_R e4 (by unfold flErrR; rw [h0, show decide (matIx h.ce 0 h.ms < 0) = false by simpa using h1]; rfl)
    have e6 := next_R e5 (unl_t (by rw [l2] at h2; rw [l3, l2] at h3; have := of_decide_eq_false h2; rw [decide_eq_true (by omega), show decide ((h.ws.length : Int) = h.cs.length) = true by simpa using h3]; rfl))
    exact ret_R e6 (by rw [l3] at hx; have := of_decide_eq_true hx; rw [unl_f (by rw [decide_eq_false (by omega)])]) (by decide)
  rename_i h0 h1 h2 h3 h4
  have e5 := next_R e4 (by unfold flErrR; rw [h0, show decide (matIx h.ce 0 h.ms < 0) = false by simpa using h1]; rfl)
  have hwc : h.ws.length = h.cs.length := by rw [l3, l2] at h3; have : ((h.ws.length : Int) = h.cs.length) := by simpa using h3
                                             omega
  have e6 := next_R e5 (unl_t (by rw [l2] at h2; have := of_decide_eq_false h2; rw [decide_eq_true (by omega), decide_eq_true (by omega)]; rfl))
  have e7 := next_R e6 (unl_t (by rw [l3] at h4; have := of_decide_eq_false h4; rw [decide_eq_true (by omega)]))
  clear e4 e5 e6 h0 h1 h2 h3 h4 hm1 hm2 hlt hk
  generalize hM : fIx (coErrR h) 0 h.cs.length = M at e7
  refine loopV (S := Nat × Int) (fun t => h.cs.length - t.1) (fun t => E65 [(7, I t.2)]) (fun _ => Z65 h) 2 2 (fun t => t.2 = t.1 ∧ t.1 ≤ h.cs.length ∧ fIx (coErrR h) t.1 (h.cs.length - t.1) = M) (0, 0) ⟨rfl, Nat.zero_le _, hM⟩ (Nat.le_refl _) [] rfl (kps) (kps) ?_
  rintro ⟨k, i⟩ ⟨hi, hk, hh⟩
  dsimp only at hi hk hh ⊢
  subst hi
  by_cases hlt : k < h.cs.length
  · clear hM
    have e1 := es_get hlt
    rw [fIx_step hlt] at hh
    refine bs.av (sx := nos) hk7 ?_
    unfold coErrR at hh
    generalize cor h.cs k = q at *
    have hv : ∀ b c, plc q.1 = b → plc q.2 = c → (if plc q.1 && plc q.2 then (0 : Int) else 2) = if b && c then 0 else 2 := fun b c h1 h2 => by rw [h1, h2]
    unfold plc at hh hv
    repeat' (first | refine wk1 ?_ | (refine wk2 ?_ ?_ <;> intro _) | refine wk4 ?_ | fail); all_goals (conv => whnf)
    · rename_i hx
      rw [hv false _ (by simpa using hx) rfl] at hh; exact fail_M (e := 2) e7 hh (by decide)
    · rename_i h1 hx
      rw [hv true false (by simpa using h1) (by simpa using hx)] at hh; exact fail_M (e := 2) e7 hh (by decide)
    · rename_i h1 hx
      rw [hv true true (by simpa using h1) (by simpa using hx)] at hh
      exact Done.mk ⟨(k + 1, _), [], rfl, kps, kps, ⟨W_succ (by have := hf.2.1; omega), hlt, hh⟩, by dsimp only; omega⟩
  rw [fIx_end (by omega)] at hh
  have hb : CorOk h.cs := corOk_of (by rw [hM, ← hh])
  have e8 := next_R e7 (by rw [← hh])
  clear e7 hh hM
  refine bs.av (sx := nos) hk7 ?_
  repeat' (first | refine wk1 ?_ | (refine wk2 ?_ ?_ <;> intro _) | refine wk4 ?_ | fail); all_goals (conv => whnf)
  have hkw : PCOK Tryz.prog (ins 181 (fam (fun k => [h.av, I (k : Int)]) (fun k => ⟨I (waErrR h k), []⟩) h.ws.length) (kR7 h)) := fam_ok (fun k hk => by
    have := c164 hf ht hwc hk
    rw [show waErrR h k = wErrR h k h.ws[k] by unfold waErrR; rw [List.getElem?_eq_getElem hk]]
    exact this) hk7
  clear hlt hk
  generalize hM : fIx (waErrR h) 0 h.ws.length = M at e8
  refine loopV (S := Nat × Int) (fun t => h.ws.length - t.1) (fun t => E65 [(8, I t.2)]) (fun _ => Z65 h) 2 2 (fun t => t.2 = t.1 ∧ t.1 ≤ h.ws.length ∧ fIx (waErrR h) t.1 (h.ws.length - t.1) = M) (0, 0) ⟨rfl, Nat.zero_le _, hM⟩ (Nat.le_refl _) [] rfl (kps) (kps) ?_
  rintro ⟨k, i⟩ ⟨hi, hk, hh⟩
  dsimp only at hi hk hh ⊢
  subst hi
  by_cases hlt : k < h.ws.length
  · clear hM
    have e1 := fam_hitN (h := h) (r := fun k => ⟨I (waErrR h k), []⟩) hlt
    rw [fIx_step hlt] at hh
    refine bs.av (sx := nos) hkw ?_
    try dsimp only at e1
    generalize waErrR h k = E at *
    repeat' (first | refine wk1 ?_ | (refine wk2 ?_ ?_ <;> intro _) | refine wk4 ?_ | fail); all_goals (conv => whnf)
    · rename_i hx
      exact fail_M e8 hh (by simpa using hx)
    · rename_i hx
      rw [if_pos (by simpa using hx)] at hh
      exact Done.mk ⟨(k + 1, _), [], rfl, kps, kps, ⟨W_succ (by have := hf.2.2.1; omega), hlt, hh⟩, by dsimp only; omega⟩
  rw [fIx_end (by omega)] at hh
  have hst : AllStr h.cs := allStr_of hb hwc (by rw [hM, ← hh])
  have hz : h.nz := nz_of hst
  have e9 := next_R e8 (by rw [← hh])
  clear e8 hh hM hkw hb
  refine bs.av (sx := sx65) hk7 ?_
  repeat' (first | refine wk1 ?_ | (refine wk2 ?_ ?_ <;> intro _) | refine wk4 ?_ | fail); all_goals (conv => whnf)
  clear hlt hk
  refine SCt.pc (c165 hf hwc hz) (by kernel_rfl) ?_
  repeat' (first | refine wk1 ?_ | (refine wk2 ?_ ?_ <;> intro _) | refine wk4 ?_ | fail); all_goals (conv => whnf)
  · rename_i hx
    exact ret_R e9 (by rw [unl_f (by simpa using hx)]) (by decide)
  rename_i hx
  have e10 := next_R e9 (unl_t (by simpa using hx))
  clear e9 hx
  refine SCt.pc (c46 hf) (by kernel_rfl) ?_
  repeat' (first | refine wk1 ?_ | (refine wk2 ?_ ?_ <;> intro _) | refine wk4 ?_ | fail); all_goals (conv => whnf)
  · rename_i hx
    exact ret_R e10 (by rw [unl_f (by have := of_decide_eq_true hx; rw [decide_eq_false (by omega)])]) (by decide)
  · rename_i h1 hx
    exact ret_R (next_R e10 (unl_t (by have := of_decide_eq_false h1; rw [decide_eq_true (by omega)]))) (by rw [l4] at hx; have := of_decide_eq_true hx; rw [unl_f (by rw [decide_eq_false (by omega)])]) (by decide)
  rename_i h1 h2
  have e11 := next_R (next_R e10 (unl_t (by have := of_decide_eq_false h1; rw [decide_eq_true (by omega)]))) (unl_t (by rw [l4] at h2; have := of_decide_eq_false h2; rw [decide_eq_true (by omega)]))
  clear e10 h1 h2
  have hkw : PCOK Tryz.prog (ins 184 (fam (fun k => [h.av, I (k : Int)]) (fun k => ⟨I (caErrR h k), []⟩) h.ks.length) (kR7 h)) := fam_ok (fun k hk => by
    have := c166 hf ht hwc hz hk
    rw [show caErrR h k = cErrR h k h.ks[k] by unfold caErrR; rw [List.getElem?_eq_getElem hk]]
    exact this) hk7
  generalize hM : fIx (caErrR h) 0 h.ks.length = M at e11
  refine loopV (S := Nat × Int) (fun t => h.ks.length - t.1) (fun t => E65 [(10, I t.2)]) (fun _ => Z65 h) 2 2 (fun t => t.2 = t.1 ∧ t.1 ≤ h.ks.length ∧ fIx (caErrR h) t.1 (h.ks.length - t.1) = M) (0, 0) ⟨rfl, Nat.zero_le _, hM⟩ (Nat.le_refl _) [] rfl (kps) (kps) ?_
  clear hM
  rintro ⟨k, i⟩ ⟨hi, hk, hh⟩
  dsimp only at hi hk hh ⊢
  subst hi
  by_cases hlt : k < h.ks.length
  · have e1 := fam_hitN (h := h) (r := fun k => ⟨I (caErrR h k), []⟩) hlt
    rw [fIx_step hlt] at hh
    refine bs.av (sx := nos) hkw ?_
    try dsimp only at e1
    generalize caErrR h k = E at *
    repeat' (first | refine wk1 ?_ | (refine wk2 ?_ ?_ <;> intro _) | refine wk4 ?_ | fail); all_goals (conv => whnf)
    · rename_i hx
      exact fail_M e11 hh (by simpa using hx)
    · rename_i hx
      rw [if_pos (by simpa using hx)] at hh
      exact Done.mk ⟨(k + 1, _), [], rfl, kps, kps, ⟨W_succ (by have := hf.2.2.2.1; omega), hlt, hh⟩, by dsimp only; omega⟩
  rw [fIx_end (by omega)] at hh
  have e12 := next_R e11 (by rw [← hh])
  clear e11 hh hkw
  refine bs.av (sx := nos) hk7 ?_
  repeat' (first | refine wk1 ?_ | (refine wk2 ?_ ?_ <;> intro _) | refine wk4 ?_ | fail); all_goals (conv => whnf)
  · rename_i hx
    exact ret_R e12 (by rw [l5] at hx; have := of_decide_eq_true hx; rw [unl_f (by rw [decide_eq_false (by omega)])]) (by decide)
  clear hlt hk
  rename_i h1
  have e13 := next_R e12 (unl_t (by rw [l5] at h1; have := of_decide_eq_false h1; rw [decide_eq_true (by omega)]))
  clear e12 h1
  have hkw : PCOK Tryz.prog (ins 185 (fam (fun k => [h.av, I (k : Int)]) (fun k => ⟨I (seErrR h k), []⟩) h.ss.length) (kR7 h)) := fam_ok (fun k hk => by
    have := c167 hf ht hwc hz hk
    rw [show seErrR h k = sErrR h k h.ss[k] by unfold seErrR; rw [List.getElem?_eq_getElem hk]]
    exact this) hk7
  generalize hM : fIx (seErrR h) 0 h.ss.length = M at e13
  refine loopV (S := Nat × Int) (fun t => h.ss.length - t.1) (fun t => E65 [(12, I t.2)]) (fun _ => Z65 h) 2 2 (fun t => t.2 = t.1 ∧ t.1 ≤ h.ss.length ∧ fIx (seErrR h) t.1 (h.ss.length - t.1) = M) (0, 0) ⟨rfl, Nat.zero_le _, hM⟩ (Nat.le_refl _) [] rfl (kps) (kps) ?_
  clear hM
  rintro ⟨k, i⟩ ⟨hi, hk, hh⟩
  dsimp only at hi hk hh ⊢
  subst hi
  by_cases hlt : k < h.ss.length
  · have e1 := fam_hitN (h := h) (r := fun k => ⟨I (seErrR h k), []⟩) hlt
    rw [fIx_step hlt] at hh
    refine bs.av (sx := nos) hkw ?_
    try dsimp only at e1
    generalize seErrR h k = E at *
    repeat' (first | refine wk1 ?_ | (refine wk2 ?_ ?_ <;> intro _) | refine wk4 ?_ | fail); all_goals (conv => whnf)
    · rename_i hx
      exact fail_M e13 hh (by simpa using hx)
    · rename_i hx
      rw [if_pos (by simpa using hx)] at hh
      exact Done.mk ⟨(k + 1, _), [], rfl, kps, kps, ⟨W_succ (by have := hf.2.2.2.2.1; omega), hlt, hh⟩, by dsimp only; omega⟩
  rw [fIx_end (by omega)] at hh
  have e14 := next_R e13 (by rw [← hh])
  clear e13 hh hkw
  refine bs.av (sx := nos) hk7 ?_
  repeat' (first | refine wk1 ?_ | (refine wk2 ?_ ?_ <;> intro _) | refine wk4 ?_ | fail); all_goals (conv => whnf)
  subst e14
  exact ret_of rfl rfl
end Go.Proofs.YtdaliaafmcjikaaGreat
namespace Go.Proofs.YtdaliaafmcjikaaGreat
open Go Go.Sx

/-! ### The bounds of the laws -/
def mostB (n a b : Int) : Bool := decide (n ≤ a) || (decide (b < n) && decide (n ≤ IntKind.i64.wrap (b + 2)))
def r74 : List AV → Option PRes
  | [.int .i64 n, .int .i64 a, .int .i64 b] => some ⟨Bo (mostB n a b), []⟩
  | _ => none
def kQ1 : PC := pt0
theorem kQ1_ok : PCOK Tryz.prog kQ1 := pt0_ok
def short20 (s : ByteArray) : Bool := !decide ((20 : Int) < (s.size : Int))
def fewM (m : Mat) : Bool := short20 m.nm
def fewW (w : Wal) : Bool := short20 w.nm && short20 w.mt && short20 w.cu
def fewC (c : Can) : Bool := short20 c.nm && short20 c.mt && !decide ((6 : Int) < (c.hs.length : Int))
def fewS (s : Sea) : Bool := short20 s.nm
def fewL (h : Hal) : Bool := mostB h.cs.length 8 12 && mostB h.ws.length 8 12 && mostB h.ms.length 3 10 && mostB h.ks.length 3 4 && mostB h.ss.length 3 40
def fewB (h : Hal) : Bool := fewL h && (short20 h.nm && short20 h.fl && short20 h.ce) && (h.ms.all fewM && (h.ws.all fewW && (h.ks.all fewC && h.ss.all fewS)))
theorem mostB_le {n : Nat} {a b : Int} (h : mostB n a b = true) (hb : 0 ≤ b ∧ b ≤ 100) (ha : a ≤ b) : (n : Int) ≤ b + 2 := by
  unfold mostB at h
  rw [W_eq (by omega) (by omega)] at h
  simp only [Bool.or_eq_true, Bool.and_eq_true, decide_eq_true_eq] at h
  omega
end Go.Proofs.YtdaliaafmcjikaaGreat
namespace Go.Proofs.YtdaliaafmcjikaaGreat
open Go Go.Sx

/-! ### Copies -/
theorem oneEls_nl (ns : List Int) : oneEls (nl ns) = true := by simp [oneEls, nl, AV.one]
theorem c25 (ns : List Int) (hl : ns.length < 100000) : PCall Tryz.prog 17 [.isl 1 (nl ns)] ⟨.asl 0 0 (nl ns).length, [(1, nl ns)]⟩ := by
  have h1 := oneEls_nl ns
  have h2 := nl_length ns
  refine bs.pv (sx := nos) pt0_ok Tryz.func17 (by kernel_rfl) (by kernel_rfl) rfl ?_
  repeat' (first | refine wk0 ?_ | (refine wk2 ?_ ?_ <;> intro _) | refine wk4 ?_ | fail); all_goals (conv => whnf)
  refine ret_rows [1] rfl ?_ rfl
  show AV.asl 1 0 (0 + (nl ns).length) = AV.asl 1 0 (nl ns).length
  rw [Nat.zero_add]
theorem c25f (ns : List Int) (hl : ns.length < 100000) : PCall Tryz.prog 17 [.isl 1 (nl ns)] ⟨.isl 1 (nl ns), []⟩ := (c25 ns hl).freeze ⟨rfl, rfl, rfl⟩
theorem oneEls_ms (l : List Mat) : oneEls (l.map Mat.av) = true := by simp [oneEls, AV.one]
theorem oneEls_cs (l : List (Int × Int)) : oneEls (l.map pt) = true := by simp [oneEls, AV.one, pt]
theorem oneEls_ws (l : List Wal) : oneEls (l.map Wal.av) = true := by simp [oneEls, AV.one]
theorem oneEls_ss (l : List Sea) : oneEls (l.map Sea.av) = true := by simp [oneEls, AV.one]
def r25 : List AV → Option PRes
  | [.isl 1 els] => none
  | _ => none
/-- Copies of lists of numbers, as trees. -/
noncomputable abbrev cints : List AV → Option PRes := famA (fun ns : List Int => ns.length < 100000) (fun ns => [.isl 1 (nl ns)]) (fun ns => ⟨.isl 1 (nl ns), []⟩)
theorem nl_inj {a b : List Int} (h : nl a = nl b) : a = b := by
  unfold nl at h
  exact List.map_inj_right (fun x y hxy => by simpa using hxy) |>.1 h
theorem cints_hit {ns : List Int} (h : ns.length < 100000) : cints [.isl 1 (nl ns)] = some ⟨.isl 1 (nl ns), []⟩ :=
  famA_hit (p := fun ns : List Int => ns.length < 100000) (g := fun ns => [.isl 1 (nl ns)]) (r := fun ns => ⟨.isl 1 (nl ns), []⟩) (fun j hj => by
    simp only [List.cons.injEq, AV.isl.injEq, true_and, and_true] at hj
    rw [hj]) h
noncomputable def kQ2 : PC := ins 17 cints kQ1
theorem kQ2_ok : PCOK Tryz.prog kQ2 := famA_ok (fun ns hl => c25f ns hl) kQ1_ok
abbrev canL (l : List Can) : List (List AV) := l.map Can.av
theorem canL_take {l : List Can} {k : Nat} (h : k < l.length) : canL (l.take (k + 1)) = canL (l.take k) ++ [Can.av l[k]] := by unfold canL; rw [List.take_succ_eq_append_getElem h, List.map_append]; rfl
/-- A hall's copy, with its rows. -/
def cpyV (h : Hal) : AV := .agg [.str h.nm, I h.ht, .str h.fl, .str h.ce, .asl 0 0 (h.ms.map Mat.av).length, .asl 1 0 (h.cs.map pt).length, .asl 2 0 (h.ws.map Wal.av).length, (match h.ks with
  | [] => .nils
  | _ => .asl 4 0 (canL h.ks).length), .asl 3 0 (h.ss.map Sea.av).length]
def cpyB (h : Hal) : List (Nat × List (List AV)) := [(6, h.ms.map Mat.av), (2, h.cs.map pt), (3, h.ws.map Wal.av), (4, h.ss.map Sea.av)] ++ (match h.ks with
  | [] => []
  | _ => [(7, canL h.ks)])
abbrev Z22 (h : Hal) : List (Nat × ABlk) := [(0, .row 9 [[.str h.nm, I h.ht, .str h.fl, .str h.ce, .asl 3 0 (0 + (h.ms.map Mat.av).length), .asl 5 0 (0 + (h.cs.map pt).length), .asl 7 0 (0 + (h.ws.map Wal.av).length), .isl 7 (h.ks.map Can.av), .asl 9 0 (0 + (h.ss.map Sea.av).length)]] true false),
  (1, .row 9 [[.str ⟨#[]⟩, I 0, .str ⟨#[]⟩, .str ⟨#[]⟩, .nils, .nils, .nils, .nils, .nils]] true false), (3, .row 6 (h.ms.map Mat.av) true true), (5, .row 2 (h.cs.map pt) true true), (7, .row 3 (h.ws.map Wal.av) true true), (9, .row 4 (h.ss.map Sea.av) true true)]
set_option maxRecDepth 100000 in
set_option maxHeartbeats 16000000 in
theorem c22 {h : Hal} (hf : h.few) : PCall Tryz.prog 15 [h.av] ⟨cpyV h, cpyB h⟩ := by
  have o1 := oneEls_ms h.ms
  have o2 := oneEls_cs h.cs
  have o3 := oneEls_ws h.ws
  have o4 := oneEls_ss h.ss
  have l1 := mt_length h.ms
  have l2 : (h.cs.map pt).length = h.cs.length := by simp
  have l3 := wa_length h.ws
  have l4 := ca_length h.ks
  have l5 := se_length h.ss
  obtain ⟨f1, f2, f3, f4, f5, f6⟩ := hf
  refine bs.pv (sx := nos) kQ2_ok Tryz.func15 (by kernel_rfl) (by kernel_rfl) (by unfold cpyV cpyB; cases h.ks <;> rfl) ?_
  repeat' (first | refine wk0 ?_ | (refine wk2 ?_ ?_ <;> intro _) | refine wk4 ?_ | fail); all_goals (conv => whnf)
  refine Lp.ren (env2 := [(1, .ptr 0 0 0), (2, .ptr 1 0 0), (3, .nils), (4, I 0)]) (σ2 := ⟨Z22 h, 10⟩) (Ren.of [] rfl (kps) (kps)) ?_
  refine loopV (S := Nat × Int × Nat × List (List AV)) (fun t => h.ks.length - t.1) (fun t => [(1, .ptr 0 0 0), (2, .ptr 1 0 0), (3, match t.1 with
    | 0 => .nils
    | _ => .asl 10 0 t.2.2.1), (4, I t.2.1)]) (fun t => (match t.1 with
    | 0 => Z22 h
    | _ => (10, .row 7 t.2.2.2 true true) :: Z22 h)) 10 11 (fun t => t.2.1 = t.1 ∧ t.1 ≤ h.ks.length ∧ t.2.2.1 = t.2.2.2.length ∧ t.2.2.2 = canL (h.ks.take t.1)) (0, 0, 0, []) ⟨rfl, Nat.zero_le _, rfl, rfl⟩ (Nat.le_refl _) [] rfl (kps) (kps) ?_
  rintro ⟨k, i, len, els⟩ ⟨hi, hk, hlen, hels⟩
  dsimp only at hi hk hlen hels ⊢
  subst hi
  refine bs.av (sx := nos) kQ2_ok ?_
  by_cases hlt : k < h.ks.length
  · have e1 := ca_get hlt
    have e2 := cints_hit (ns := h.ks[k].hs) (by have := f6 _ (List.getElem_mem hlt); omega)
    have e3 := canL_take hlt
    have e4 : els.length < 2000 := by rw [hels]; simp [canL]; omega
    cases k with
    | zero =>
      repeat' (first | refine wk1 ?_ | (refine wk2 ?_ ?_ <;> intro _) | refine wk4 ?_ | fail); all_goals (conv => whnf)
      exact Done.mk ⟨(1, _, _, _), [(10, 13)], rfl, kps, kps, ⟨W_succ (k := 0) (by omega), hlt, rfl, e3.symm⟩, by dsimp only; omega⟩
    | succ k =>
      repeat' (first | refine wk1 ?_ | (refine wk2 ?_ ?_ <;> intro _) | refine wk4 ?_ | fail); all_goals (conv => whnf)
      exact Done.mk ⟨(k + 1 + 1, _, _, _), [(10, 13)], rfl, kps, kps, ⟨W_succ (k := k + 1) (by omega), hlt, by exact List.length_append.symm, by show _ = canL _; rw [e3, ← hels]; rfl⟩, by dsimp only; omega⟩
  rw [List.take_of_length_le (by omega)] at hels
  subst hels
  subst hlen
  cases k with
  | zero =>
    have hks : h.ks = [] := List.eq_nil_of_length_eq_zero (by omega)
    have v1 : cpyV h = .agg [.str h.nm, I h.ht, .str h.fl, .str h.ce, .asl 0 0 (h.ms.map Mat.av).length, .asl 1 0 (h.cs.map pt).length, .asl 2 0 (h.ws.map Wal.av).length, .nils, .asl 3 0 (h.ss.map Sea.av).length] := by unfold cpyV; rw [hks]
    have v2 : cpyB h = [(6, h.ms.map Mat.av), (2, h.cs.map pt), (3, h.ws.map Wal.av), (4, h.ss.map Sea.av)] := by unfold cpyB; rw [hks]; rfl
    rw [v1, v2]
    clear v1 v2
    repeat' (first | refine wk1 ?_ | (refine wk2 ?_ ?_ <;> intro _) | refine wk4 ?_ | fail); all_goals (conv => whnf)
    refine ret_rows [3, 5, 7, 9] rfl ?_ rfl
    show AV.agg [_, _, _, _, .asl 3 0 (0 + (h.ms.map Mat.av).length), .asl 5 0 (0 + (h.cs.map pt).length), .asl 7 0 (0 + (h.ws.map Wal.av).length), _, .asl 9 0 (0 + (h.ss.map Sea.av).length)] = AV.agg [_, _, _, _, .asl 3 0 (h.ms.map Mat.av).length, .asl 5 0 (h.cs.map pt).length, .asl 7 0 (h.ws.map Wal.av).length, _, .asl 9 0 (h.ss.map Sea.av).length]
    simp only [Nat.zero_add]; rfl
  | succ k =>
    have hks : ∃ c l, h.ks = c :: l := by
      cases hq : h.ks with
      | nil => rw [hq] at hk; simp at hk
      | cons c l => exact ⟨c, l, rfl⟩
    have v1 : cpyV h = .agg [.str h.nm, I h.ht, .str h.fl, .str h.ce, .asl 0 0 (h.ms.map Mat.av).length, .asl 1 0 (h.cs.map pt).length, .asl 2 0 (h.ws.map Wal.av).length, .asl 4 0 (canL h.ks).length, .asl 3 0 (h.ss.map Sea.av).length] := by obtain ⟨c, l, hq⟩ := hks; unfold cpyV; rw [hq]
    have v2 : cpyB h = [(6, h.ms.map Mat.av), (2, h.cs.map pt), (3, h.ws.map Wal.av), (4, h.ss.map Sea.av), (7, canL h.ks)] := by obtain ⟨c, l, hq⟩ := hks; unfold cpyB; rw [hq]; rfl
    rw [v1, v2]
    clear v1 v2
    repeat' (first | refine wk1 ?_ | (refine wk2 ?_ ?_ <;> intro _) | refine wk4 ?_ | fail); all_goals (conv => whnf)
    refine ret_rows [3, 5, 7, 9, 10] rfl ?_ rfl
    show AV.agg [_, _, _, _, .asl 3 0 (0 + (h.ms.map Mat.av).length), .asl 5 0 (0 + (h.cs.map pt).length), .asl 7 0 (0 + (h.ws.map Wal.av).length), _, .asl 9 0 (0 + (h.ss.map Sea.av).length)] = AV.agg [_, _, _, _, .asl 3 0 (h.ms.map Mat.av).length, .asl 5 0 (h.cs.map pt).length, .asl 7 0 (h.ws.map Wal.av).length, _, .asl 9 0 (h.ss.map Sea.av).length]
    simp only [Nat.zero_add]; rfl
theorem c22f {h : Hal} (hf : h.few) : PCall Tryz.prog 15 [h.av] ⟨h.av, []⟩ := by
  refine (c22 hf).freeze ?_
  unfold cpyV cpyB
  cases hq : h.ks with
  | nil =>
    exact ⟨⟨rfl, rfl⟩, ⟨rfl, rfl⟩, ⟨rfl, rfl⟩, ⟨rfl, rfl⟩, ⟨rfl, rfl, rfl⟩, ⟨rfl, rfl, rfl⟩, ⟨rfl, rfl, rfl⟩, by rw [hq]; rfl, ⟨rfl, rfl, rfl⟩, trivial⟩
  | cons c l =>
    exact ⟨⟨rfl, rfl⟩, ⟨rfl, rfl⟩, ⟨rfl, rfl⟩, ⟨rfl, rfl⟩, ⟨rfl, rfl, rfl⟩, ⟨rfl, rfl, rfl⟩, ⟨rfl, rfl, rfl⟩, ⟨by rw [hq]; rfl, rfl, by rw [hq]⟩, ⟨rfl, rfl, rfl⟩, trivial⟩
end Go.Proofs.YtdaliaafmcjikaaGreat
namespace Go.Proofs.YtdaliaafmcjikaaGreat
open Go Go.Sx

/-! ### Settings -/
structure Stg where
  hs : List Int
  dr : List Int
abbrev Stg.cells (s : Stg) : List AV := [.isl 1 (nl s.hs), .isl 1 (nl s.dr)]
abbrev Stg.av (s : Stg) : AV := .agg [.isl 1 (nl s.hs), .isl 1 (nl s.dr)]
def Stg.few (s : Stg) : Prop := s.hs.length < 1000 ∧ s.dr.length < 1000
def kLen (h : Hal) (i : Nat) : Int := match h.ks[i]? with
  | some c => (c.hs.length : Int)
  | none => 0
def curt (h : Hal) (n : Int) : ByteArray := match h.ws[n.toNat]? with
  | some w => w.cu
  | none => ⟨#[]⟩
def hgE (h : Hal) : Nat → List Int → Int
  | _, [] => 0
  | i, n :: l => if within n 0 (IntKind.i64.wrap (kLen h i - 1)) then hgE h (i + 1) l else 6
def drOk (h : Hal) (n : Int) : Bool := within n 0 (IntKind.i64.wrap ((h.ws.length : Int) - 1)) && !(curt h n == ⟨#[]⟩)
def notUp (p : Option Int) (n : Int) : Bool := match p with
  | some q => decide (n ≤ q)
  | none => false
def drE (h : Hal) : Option Int → List Int → Int
  | _, [] => 0
  | p, n :: l => if drOk h n then (if notUp p n then 9 else drE h (some n) l) else 6
def setE (h : Hal) (s : Stg) : Int := if (s.hs.length : Int) = h.ks.length then (if hgE h 0 s.hs = 0 then drE h none s.dr else hgE h 0 s.hs) else 10
theorem kLen_eq {h : Hal} {i : Nat} (hi : i < h.ks.length) : kLen h i = ((nl h.ks[i].hs).length : Int) := by unfold kLen; rw [List.getElem?_eq_getElem hi, nl_length]
theorem ws_at {h : Hal} {n : Int} (hw : within n 0 (IntKind.i64.wrap ((h.ws.length : Int) - 1)) = true) (hl : h.ws.length < 1000) : ∃ w, (h.ws.map Wal.av)[n.toNat]? = some (Wal.av w) ∧ curt h n = w.cu ∧ 0 ≤ n ∧ n < h.ws.length := by
  rw [W_eq (by omega) (by omega)] at hw
  have hw := within_iff.1 hw
  have hi : n.toNat < h.ws.length := by omega
  exact ⟨h.ws[n.toNat], by simp [hi], by unfold curt; rw [List.getElem?_eq_getElem hi], by omega, by omega⟩
def r30 : List AV → Option PRes
  | [.int .i64 n, .int .i64 lo, .int .i64 hi] => some ⟨Bo (within n lo hi), []⟩
  | _ => none
abbrev Z123 (h : Hal) (s : Stg) : List (Nat × ABlk) := [(1, .row 2 [s.cells] true false), (0, .row 9 [h.cells] true false)]
set_option maxRecDepth 100000 in
set_option maxHeartbeats 16000000 in
theorem c123 {h : Hal} (hf : h.few) {s : Stg} (hs : s.few) : PCall Tryz.prog 134 [h.av, s.av] ⟨I (setE h s), []⟩ := by
  have l1 := nl_length s.hs
  have l2 := nl_length s.dr
  have l3 := ca_length h.ks
  have l4 := wa_length h.ws
  obtain ⟨f1, f2, f3, f4, f5, f6⟩ := hf
  obtain ⟨g1, g2⟩ := hs
  refine bs.pv (sx := nos) k93_ok Tryz.func134 (by kernel_rfl) (by kernel_rfl) rfl ?_
  by_cases hlen : (s.hs.length : Int) = h.ks.length
  · unfold setE
    rw [if_pos hlen]
    repeat' (first | refine wk1 ?_ | (refine wk2 ?_ ?_ <;> intro _) | refine wk4 ?_ | fail); all_goals (conv => whnf)
    refine loopV (S := Nat × Int) (fun t => s.hs.length - t.1) (fun t => [(2, .ptr 0 0 0), (3, .ptr 1 0 0), (4, I 0), (18, .isl 1 (nl s.hs)), (19, I (nl s.hs).length), (20, I t.2)]) (fun _ => Z123 h s) 2 2 (fun t => t.2 = t.1 ∧ t.1 ≤ s.hs.length ∧ hgE h t.1 (s.hs.drop t.1) = hgE h 0 s.hs) (0, 0) ⟨rfl, Nat.zero_le _, rfl⟩ (Nat.le_refl _) [] rfl (kps) (kps) ?_
    rintro ⟨k, i⟩ ⟨hi, hk, hh⟩
    dsimp only at hi hk hh ⊢
    subst hi
    generalize hgE h 0 s.hs = V at *
    refine bs.av (sx := nos) k93_ok ?_
    by_cases hlt : k < s.hs.length
    · have e1 := nl_get hlt
      have e2 := ca_get (l := h.ks) (k := k) (by omega)
      have e3 := kLen_eq (h := h) (i := k) (by omega)
      rw [List.drop_eq_getElem_cons hlt, hgE, e3] at hh
      clear e3
      repeat' (first | refine wk1 ?_ | (refine wk2 ?_ ?_ <;> intro _) | refine wk4 ?_ | fail); all_goals (conv => whnf)
      · rename_i hx
        rw [show within s.hs[k] 0 (IntKind.i64.wrap (((nl (h.ks[k]'(by omega)).hs).length : Int) - 1)) = false by simpa using hx] at hh
        exact ret_int (by rw [← hh]; rfl)
      · rename_i hx
        rw [show within s.hs[k] 0 (IntKind.i64.wrap (((nl (h.ks[k]'(by omega)).hs).length : Int) - 1)) = true by simpa using hx, if_pos rfl] at hh
        exact Done.mk ⟨(k + 1, _), [], rfl, kps, kps, ⟨W_succ (by omega), hlt, hh⟩, by dsimp only; omega⟩
    rw [List.drop_of_length_le (by omega)] at hh
    have hh : 0 = V := hh
    subst hh
    rw [if_pos rfl]
    repeat' (first | refine wk1 ?_ | (refine wk2 ?_ ?_ <;> intro _) | refine wk4 ?_ | fail); all_goals (conv => whnf)
    clear hlt hk
    refine loopV (S := Nat × Int) (fun t => s.dr.length - t.1) (fun t => [(2, .ptr 0 0 0), (3, .ptr 1 0 0), (4, I 0), (39, .isl 1 (nl s.dr)), (40, I (nl s.dr).length), (41, I t.2)]) (fun _ => Z123 h s) 2 2 (fun t => t.2 = t.1 ∧ t.1 ≤ s.dr.length ∧ drE h (prevOf s.dr t.1) (s.dr.drop t.1) = drE h none s.dr) (0, 0) ⟨rfl, Nat.zero_le _, rfl⟩ (Nat.le_refl _) [] rfl (kps) (kps) ?_
    rintro ⟨k, i⟩ ⟨hi, hk, hh⟩
    dsimp only at hi hk hh ⊢
    subst hi
    generalize drE h none s.dr = V at *
    refine bs.av (sx := nos) k93_ok ?_
    by_cases hlt : k < s.dr.length
    · have e1 := nl_get hlt
      rw [List.drop_eq_getElem_cons hlt, drE] at hh
      by_cases hw : within s.dr[k] 0 (IntKind.i64.wrap ((h.ws.length : Int) - 1)) = true
      · obtain ⟨w, e2, e3, e4, e5⟩ := ws_at hw f3
        have hw' : within s.dr[k] 0 (IntKind.i64.wrap (((h.ws.map Wal.av).length : Int) - 1)) = true := by rw [l4]; exact hw
        have hd : drOk h s.dr[k] = !(w.cu == ⟨#[]⟩) := by unfold drOk; rw [hw, e3, Bool.true_and]
        rw [hd] at hh
        clear hd e3
        cases k with
        | zero =>
          have hp : prevOf s.dr (0 + 1) = some s.dr[0] := by simp [prevOf, hlt]
          rw [← hp] at hh
          clear hp
          have e8 : notUp (prevOf s.dr 0) s.dr[0] = false := rfl
          rw [e8] at hh
          clear e8
          repeat' (first | refine wk1 ?_ | (refine wk2 ?_ ?_ <;> intro _) | refine wk4 ?_ | fail); all_goals (conv => whnf)
          all_goals clear e1 e2
          all_goals try (exfalso; clear hh; simp_all; done)
          · rename_i hx; exact ret_int (by rw [← hh]; clear hh; simp_all)
          · exact Done.mk ⟨(1, _), [], rfl, kps, kps, ⟨W_succ (k := 0) (by omega), hlt, by rw [← hh]; clear hh; simp_all⟩, by dsimp only; omega⟩
        | succ k =>
          have e6 : IntKind.i64.wrap (((k + 1 : Nat) : Int) - 1) = (k : Int) := by rw [W_eq (by omega) (by omega)]; omega
          have e7 : (nl s.dr)[(IntKind.i64.wrap (((k + 1 : Nat) : Int) - 1)).toNat]? = some [I s.dr[k]] := by rw [e6]; exact nl_get (by omega)
          have e8 : notUp (prevOf s.dr (k + 1)) s.dr[k + 1] = decide (s.dr[k + 1] ≤ s.dr[k]) := by simp [prevOf, notUp, show k < s.dr.length by omega]
          rw [e8] at hh
          clear e8
          have hp : prevOf s.dr (k + 1 + 1) = some s.dr[k + 1] := by simp [prevOf, hlt]
          rw [← hp] at hh
          clear hp
          repeat' (first | refine wk1 ?_ | (refine wk2 ?_ ?_ <;> intro _) | refine wk4 ?_ | fail); all_goals (conv => whnf)
          all_goals clear e7 e1 e2
          all_goals try (exfalso; clear hh; simp_all; done)
          · rename_i hx; exact ret_int (by rw [← hh]; clear hh; simp_all)
          · exact ret_int (by rw [← hh]; clear hh; simp_all)
          · exact Done.mk ⟨(k + 1 + 1, _), [], rfl, kps, kps, ⟨W_succ (k := k + 1) (by omega), hlt, by rw [← hh]; clear hh; simp_all <;> omega⟩, by dsimp only; omega⟩
      · have hd : drOk h s.dr[k] = false := by unfold drOk; rw [show within s.dr[k] 0 (IntKind.i64.wrap ((h.ws.length : Int) - 1)) = false by simpa using hw]; rfl
        have hw' : within s.dr[k] 0 (IntKind.i64.wrap (((h.ws.map Wal.av).length : Int) - 1)) = false := by rw [l4]; simpa using hw
        rw [hd] at hh
        repeat' (first | refine wk1 ?_ | (refine wk2 ?_ ?_ <;> intro _) | refine wk4 ?_ | fail); all_goals (conv => whnf)
        all_goals try (exfalso; clear hh; simp_all; done)
        all_goals exact ret_int (by rw [← hh]; rfl)
    rw [List.drop_of_length_le (by omega)] at hh
    repeat' (first | refine wk1 ?_ | (refine wk2 ?_ ?_ <;> intro _) | refine wk4 ?_ | fail); all_goals (conv => whnf)
    exact ret_int (by rw [← hh]; cases prevOf s.dr k <;> rfl)
  · unfold setE
    rw [if_neg hlen]
    repeat' (first | refine wk1 ?_ | (refine wk2 ?_ ?_ <;> intro _) | refine wk4 ?_ | fail); all_goals (conv => whnf)
    exact ret_int rfl
end Go.Proofs.YtdaliaafmcjikaaGreat
namespace Go.Proofs.YtdaliaafmcjikaaGreat
open Go Go.Sx

/-! ### Settings: the reference -/
set_option maxRecDepth 100000 in
set_option maxHeartbeats 16000000 in
theorem c75 {h : Hal} (hf : h.few) {s : Stg} (hs : s.few) : PCall Tryz.prog 67 [h.av, s.av] ⟨I (setE h s), []⟩ := by
  have l1 := nl_length s.hs
  have l2 := nl_length s.dr
  have l3 := ca_length h.ks
  have l4 := wa_length h.ws
  obtain ⟨f1, f2, f3, f4, f5, f6⟩ := hf
  obtain ⟨g1, g2⟩ := hs
  refine bs.pv (sx := nos) k93_ok Tryz.func67 (by kernel_rfl) (by kernel_rfl) rfl ?_
  by_cases hlen : (s.hs.length : Int) = h.ks.length
  · unfold setE
    rw [if_pos hlen]
    repeat' (first | refine wk1 ?_ | (refine wk2 ?_ ?_ <;> intro _) | refine wk4 ?_ | fail); all_goals (conv => whnf)
    refine loopV (S := Nat × Int) (fun t => s.hs.length - t.1) (fun t => [(2, .ptr 0 0 0), (3, .ptr 1 0 0), (4, I 0), (5, I t.2)]) (fun _ => Z123 h s) 2 2 (fun t => t.2 = t.1 ∧ t.1 ≤ s.hs.length ∧ hgE h t.1 (s.hs.drop t.1) = hgE h 0 s.hs) (0, 0) ⟨rfl, Nat.zero_le _, rfl⟩ (Nat.le_refl _) [] rfl (kps) (kps) ?_
    rintro ⟨k, i⟩ ⟨hi, hk, hh⟩
    dsimp only at hi hk hh ⊢
    subst hi
    generalize hgE h 0 s.hs = V at *
    refine bs.av (sx := nos) k93_ok ?_
    by_cases hlt : k < s.hs.length
    · have e1 := nl_get hlt
      have e2 := ca_get (l := h.ks) (k := k) (by omega)
      have e3 := kLen_eq (h := h) (i := k) (by omega)
      rw [List.drop_eq_getElem_cons hlt, hgE, e3] at hh
      clear e3
      repeat' (first | refine wk1 ?_ | (refine wk2 ?_ ?_ <;> intro _) | refine wk4 ?_ | fail); all_goals (conv => whnf)
      · rename_i hx
        rw [show within s.hs[k] 0 (IntKind.i64.wrap (((nl (h.ks[k]'(by omega)).hs).length : Int) - 1)) = false by simpa using hx] at hh
        exact ret_int (by rw [← hh]; rfl)
      · rename_i hx
        rw [show within s.hs[k] 0 (IntKind.i64.wrap (((nl (h.ks[k]'(by omega)).hs).length : Int) - 1)) = true by simpa using hx, if_pos rfl] at hh
        exact Done.mk ⟨(k + 1, _), [], rfl, kps, kps, ⟨W_succ (by omega), hlt, hh⟩, by dsimp only; omega⟩
    rw [List.drop_of_length_le (by omega)] at hh
    have hh : 0 = V := hh
    subst hh
    rw [if_pos rfl]
    repeat' (first | refine wk1 ?_ | (refine wk2 ?_ ?_ <;> intro _) | refine wk4 ?_ | fail); all_goals (conv => whnf)
    clear hlt hk
    refine loopV (S := Nat × Int) (fun t => s.dr.length - t.1) (fun t => [(2, .ptr 0 0 0), (3, .ptr 1 0 0), (4, I 0), (6, I t.2)]) (fun _ => Z123 h s) 2 2 (fun t => t.2 = t.1 ∧ t.1 ≤ s.dr.length ∧ drE h (prevOf s.dr t.1) (s.dr.drop t.1) = drE h none s.dr) (0, 0) ⟨rfl, Nat.zero_le _, rfl⟩ (Nat.le_refl _) [] rfl (kps) (kps) ?_
    rintro ⟨k, i⟩ ⟨hi, hk, hh⟩
    dsimp only at hi hk hh ⊢
    subst hi
    generalize drE h none s.dr = V at *
    refine bs.av (sx := nos) k93_ok ?_
    by_cases hlt : k < s.dr.length
    · have e1 := nl_get hlt
      rw [List.drop_eq_getElem_cons hlt, drE] at hh
      by_cases hw : within s.dr[k] 0 (IntKind.i64.wrap ((h.ws.length : Int) - 1)) = true
      · obtain ⟨w, e2, e3, e4, e5⟩ := ws_at hw f3
        have hw' : within s.dr[k] 0 (IntKind.i64.wrap (((h.ws.map Wal.av).length : Int) - 1)) = true := by rw [l4]; exact hw
        have hd : drOk h s.dr[k] = !(w.cu == ⟨#[]⟩) := by unfold drOk; rw [hw, e3, Bool.true_and]
        rw [hd] at hh
        clear hd e3
        cases k with
        | zero =>
          have hp : prevOf s.dr (0 + 1) = some s.dr[0] := by simp [prevOf, hlt]
          rw [← hp] at hh
          clear hp
          have e8 : notUp (prevOf s.dr 0) s.dr[0] = false := rfl
          rw [e8] at hh
          clear e8
          repeat' (first | refine wk1 ?_ | (refine wk2 ?_ ?_ <;> intro _) | refine wk4 ?_ | fail); all_goals (conv => whnf)
          all_goals clear e1 e2
          all_goals try (exfalso; clear hh; simp_all; done)
          · rename_i hx; exact ret_int (by rw [← hh]; clear hh; simp_all)
          · exact Done.mk ⟨(1, _), [], rfl, kps, kps, ⟨W_succ (k := 0) (by omega), hlt, by rw [← hh]; clear hh; simp_all⟩, by dsimp only; omega⟩
        | succ k =>
          have e6 : IntKind.i64.wrap (((k + 1 : Nat) : Int) - 1) = (k : Int) := by rw [W_eq (by omega) (by omega)]; omega
          have e7 : (nl s.dr)[(IntKind.i64.wrap (((k + 1 : Nat) : Int) - 1)).toNat]? = some [I s.dr[k]] := by rw [e6]; exact nl_get (by omega)
          have e8 : notUp (prevOf s.dr (k + 1)) s.dr[k + 1] = decide (s.dr[k + 1] ≤ s.dr[k]) := by simp [prevOf, notUp, show k < s.dr.length by omega]
          rw [e8] at hh
          clear e8
          have hp : prevOf s.dr (k + 1 + 1) = some s.dr[k + 1] := by simp [prevOf, hlt]
          rw [← hp] at hh
          clear hp
          repeat' (first | refine wk1 ?_ | (refine wk2 ?_ ?_ <;> intro _) | refine wk4 ?_ | fail); all_goals (conv => whnf)
          all_goals clear e7 e1 e2
          all_goals try (exfalso; clear hh; simp_all; done)
          · rename_i hx; exact ret_int (by rw [← hh]; clear hh; simp_all)
          · exact ret_int (by rw [← hh]; clear hh; simp_all)
          · exact Done.mk ⟨(k + 1 + 1, _), [], rfl, kps, kps, ⟨W_succ (k := k + 1) (by omega), hlt, by rw [← hh]; clear hh; simp_all <;> omega⟩, by dsimp only; omega⟩
      · have hd : drOk h s.dr[k] = false := by unfold drOk; rw [show within s.dr[k] 0 (IntKind.i64.wrap ((h.ws.length : Int) - 1)) = false by simpa using hw]; rfl
        have hw' : within s.dr[k] 0 (IntKind.i64.wrap (((h.ws.map Wal.av).length : Int) - 1)) = false := by rw [l4]; simpa using hw
        rw [hd] at hh
        repeat' (first | refine wk1 ?_ | (refine wk2 ?_ ?_ <;> intro _) | refine wk4 ?_ | fail); all_goals (conv => whnf)
        all_goals try (exfalso; clear hh; simp_all; done)
        all_goals exact ret_int (by rw [← hh]; rfl)
    rw [List.drop_of_length_le (by omega)] at hh
    repeat' (first | refine wk1 ?_ | (refine wk2 ?_ ?_ <;> intro _) | refine wk4 ?_ | fail); all_goals (conv => whnf)
    exact ret_int (by rw [← hh]; cases prevOf s.dr k <;> rfl)
  · unfold setE
    rw [if_neg hlen]
    repeat' (first | refine wk1 ?_ | (refine wk2 ?_ ?_ <;> intro _) | refine wk4 ?_ | fail); all_goals (conv => whnf)
    exact ret_int rfl

/-! ### Errors of halls and settings -/
structure Hal.ok (h : Hal) : Prop where
  f : h.few
  t : h.texts
/-- The error of a hall. -/
def Hal.err (h : Hal) : Int := (chk h).2.2
abbrev chkA (h : Hal) : AV := .tup [P2 (chk h).1 (chk h).2.1, I h.err]
theorem c65k {h : Hal} (hk : h.ok) : PCall Tryz.prog 127 [h.av] ⟨chkA h, []⟩ := by have := c65 hk.f hk.t; rw [chk_eq hk.f] at this; exact this
theorem c63k {h : Hal} (hk : h.ok) : PCall Tryz.prog 153 [h.av] ⟨chkA h, []⟩ := c63 hk.f hk.t
noncomputable def kE (h : Hal) : PC := ins 153 (one [h.av] ⟨chkA h, []⟩) (ins 127 (one [h.av] ⟨chkA h, []⟩) kQ2)
theorem kE_ok {h : Hal} (hk : h.ok) : PCOK Tryz.prog (kE h) := one_ok (c63k hk) (one_ok (c65k hk) kQ2_ok)
set_option maxHeartbeats 4000000 in
theorem c76 {h : Hal} (hk : h.ok) : PCall Tryz.prog 133 [h.av] ⟨.tup [h.av, I h.err], []⟩ := by
  refine bs.pv (sx := nos) (kE_ok hk) Tryz.func133 (by kernel_rfl) (by kernel_rfl) rfl ?_
  repeat' (first | refine wk0 ?_ | (refine wk2 ?_ ?_ <;> intro _) | refine wk4 ?_ | fail); all_goals (conv => whnf)
  exact ret_of rfl rfl
/-- The error of a hall and a setting. -/
def serr (h : Hal) (s : Stg) : Int := if h.err = 0 then setE h s else h.err
noncomputable def kF (h : Hal) (s : Stg) : PC := ins 133 (one [h.av] ⟨.tup [h.av, I h.err], []⟩) (ins 67 (one [h.av, s.av] ⟨I (setE h s), []⟩) (ins 134 (one [h.av, s.av] ⟨I (setE h s), []⟩) (kE h)))
theorem kF_ok {h : Hal} (hk : h.ok) {s : Stg} (hs : s.few) : PCOK Tryz.prog (kF h s) := one_ok (c76 hk) (one_ok (c75 hk.f hs) (one_ok (c123 hk.f hs) (kE_ok hk)))
set_option maxHeartbeats 4000000 in
theorem c47 {h : Hal} (hk : h.ok) {s : Stg} (hs : s.few) : PCall Tryz.prog 77 [h.av, s.av] ⟨I (serr h s), []⟩ := by
  refine bs.pv (sx := nos) (kF_ok hk hs) Tryz.func77 (by kernel_rfl) (by kernel_rfl) rfl ?_
  repeat' (first | refine wk0 ?_ | (refine wk2 ?_ ?_ <;> intro _) | refine wk4 ?_ | fail); all_goals (conv => whnf)
  all_goals exact ret_int (by simp_all [serr])
/-- A hall with a setting, as it lies. -/
abbrev stgL (h : Hal) (s : Stg) : List AV := [.str h.nm, I h.ht, .str h.fl, .str h.ce, .isl 6 (h.ms.map Mat.av), .isl 2 (h.cs.map pt), .isl 3 (h.ws.map Wal.av), .isl 7 (h.ks.map Can.av), .isl 4 (h.ss.map Sea.av), .isl 1 (nl s.hs), .isl 1 (nl s.dr)]
set_option maxHeartbeats 4000000 in
theorem c83 {h : Hal} (hk : h.ok) {s : Stg} (hs : s.few) : PCall Tryz.prog 172 [h.av, s.av] ⟨.tup [.agg (stgL h s), I (serr h s)], []⟩ := by
  refine bs.pv (sx := nos) (kF_ok hk hs) Tryz.func172 (by kernel_rfl) (by kernel_rfl) rfl ?_
  repeat' (first | refine wk0 ?_ | (refine wk2 ?_ ?_ <;> intro _) | refine wk4 ?_ | fail); all_goals (conv => whnf)
  · rename_i hx
    have e : serr h s = setE h s := by simp_all [serr]
    rw [e]
    exact ret_of rfl rfl
  · rename_i hx
    have e : serr h s = h.err := by simp_all [serr]
    rw [e]
    exact ret_of rfl rfl
end Go.Proofs.YtdaliaafmcjikaaGreat
namespace Go.Sx
open Go Go.RowKit
theorem wt_field {T : Tab} {d : Nat} {t : TypeId} {xs : List AV} {ti : TI} {fs : Array Field} (ht : T t = some ti) (hd : ti.desc = .struct fs) (h : WT T (d + 1) t xs) (i : Nat) {f : Field} (hf : fs.toList[i]? = some f) {tf : TI} (htf : T f.type = some tf) : WT T d f.type ((xs.drop f.offset).take tf.size) := by
  obtain ⟨tf', e, w⟩ := (wt_struct ht hd h).2 f (List.mem_of_getElem? hf)
  rw [htf] at e
  cases e
  exact w
end Go.Sx
namespace Go.Proofs.YtdaliaafmcjikaaGreat
open Go Go.Sx
noncomputable abbrev TT := tget tbl
/-- A text of an argument. -/
def okS (s : ByteArray) : Prop := s.size ≤ maxLen
theorem wInt {d : Nat} {x : List AV} (h : WT TT (d + 1) 3 x) : ∃ n, x = [I n] := by
  obtain ⟨n, h1, _⟩ := wt_int (T := TT) (t := 3) rfl rfl h
  exact ⟨n, h1⟩
theorem wStr {d : Nat} {x : List AV} (h : WT TT (d + 1) 9 x) : ∃ s, x = [.str s] ∧ okS s := wt_str (T := TT) (t := 9) rfl rfl h
theorem wInts {d : Nat} {x : List AV} (h : WT TT (d + 2) 29 x) : ∃ ns : List Int, x = [.isl 1 (nl ns)] := by
  obtain ⟨els, h1, h2, h3⟩ := wt_slice (T := TT) (t := 29) rfl rfl rfl h
  have : ∃ ns : List Int, els = nl ns := by
    clear h1 h2
    induction els with
    | nil => exact ⟨[], rfl⟩
    | cons e l ih =>
      obtain ⟨ns, hns⟩ := ih (fun x hx => h3 x (by simp [hx]))
      obtain ⟨n, hn⟩ := wInt (h3 e (by simp))
      exact ⟨n :: ns, by rw [hns, hn]; rfl⟩
  obtain ⟨ns, rfl⟩ := this
  exact ⟨ns, h1⟩
theorem wP2 {d : Nat} {x : List AV} (h : WT TT (d + 2) 70 x) : ∃ p : Int × Int, x = pt p := by
  obtain ⟨ns, h1, h2, _⟩ := wt_ints (T := TT) (t := 70) rfl rfl rfl h
  have h2 : ns.length = 2 := h2
  match ns, h2 with
  | [a, b], _ => exact ⟨(a, b), by rw [h1]; rfl⟩
theorem wP3 {d : Nat} {x : List AV} (h : WT TT (d + 2) 35 x) : ∃ a b c, x = [I a, I b, I c] := by
  obtain ⟨ns, h1, h2, _⟩ := wt_ints (T := TT) (t := 35) rfl rfl rfl h
  have h2 : ns.length = 3 := h2
  match ns, h2 with
  | [a, b, c], _ => exact ⟨a, b, c, by rw [h1]; rfl⟩
theorem wI4 {d : Nat} {x : List AV} (h : WT TT (d + 2) 194 x) : ∃ a b c e, x = [I a, I b, I c, I e] := by
  obtain ⟨h1, h2⟩ := wt_array (T := TT) (t := 194) rfl rfl rfl h
  have h1 : x.length = 4 := h1
  match x, h1 with
  | [x0, x1, x2, x3], _ =>
    obtain ⟨a, ha⟩ := wInt (h2 0 (by omega))
    obtain ⟨b, hb⟩ := wInt (h2 1 (by omega))
    obtain ⟨c, hc⟩ := wInt (h2 2 (by omega))
    obtain ⟨e, he⟩ := wInt (h2 3 (by omega))
    have ha : [x0] = [I a] := ha
    have hb : [x1] = [I b] := hb
    have hc : [x2] = [I c] := hc
    have he : [x3] = [I e] := he
    cases ha; cases hb; cases hc; cases he
    exact ⟨a, b, c, e, rfl⟩
theorem wMat {d : Nat} {x : List AV} (h : WT TT (d + 3) 196 x) : ∃ m : Mat, x = m.av ∧ okS m.nm := by
  have h0 := (wt_struct (T := TT) (t := 196) rfl rfl h).1
  have h0 : x.length = 6 := h0
  match x, h0 with
  | [x0, x1, x2, x3, x4, x5], _ =>
    obtain ⟨s, hs, hs2⟩ := wStr (wt_field (T := TT) (t := 196) rfl rfl h 0 rfl rfl)
    obtain ⟨a, b, c, e, ha⟩ := wI4 (wt_field (T := TT) (t := 196) rfl rfl h 1 rfl rfl)
    obtain ⟨n, hn⟩ := wInt (wt_field (T := TT) (t := 196) rfl rfl h 2 rfl rfl)
    have hs : [x0] = [.str s] := hs
    have ha : [x1, x2, x3, x4] = [I a, I b, I c, I e] := ha
    have hn : [x5] = [I n] := hn
    cases hs; cases ha; cases hn
    exact ⟨⟨s, a, b, c, e, n⟩, rfl, hs2⟩
theorem wWal {d : Nat} {x : List AV} (h : WT TT (d + 2) 198 x) : ∃ m : Wal, x = m.av ∧ okS m.nm ∧ okS m.mt ∧ okS m.cu := by
  have h0 := (wt_struct (T := TT) (t := 198) rfl rfl h).1
  have h0 : x.length = 3 := h0
  match x, h0 with
  | [x0, x1, x2], _ =>
    obtain ⟨s, hs, hs2⟩ := wStr (wt_field (T := TT) (t := 198) rfl rfl h 0 rfl rfl)
    obtain ⟨t, ht, ht2⟩ := wStr (wt_field (T := TT) (t := 198) rfl rfl h 1 rfl rfl)
    obtain ⟨u, hu, hu2⟩ := wStr (wt_field (T := TT) (t := 198) rfl rfl h 2 rfl rfl)
    have hs : [x0] = [.str s] := hs
    have ht : [x1] = [.str t] := ht
    have hu : [x2] = [.str u] := hu
    cases hs; cases ht; cases hu
    exact ⟨⟨s, t, u⟩, rfl, hs2, ht2, hu2⟩
theorem wCan {d : Nat} {x : List AV} (h : WT TT (d + 3) 134 x) : ∃ m : Can, x = m.av ∧ okS m.nm ∧ okS m.mt := by
  have h0 := (wt_struct (T := TT) (t := 134) rfl rfl h).1
  have h0 : x.length = 7 := h0
  match x, h0 with
  | [x0, x1, x2, x3, x4, x5, x6], _ =>
    obtain ⟨s, hs, hs2⟩ := wStr (wt_field (T := TT) (t := 134) rfl rfl h 0 rfl rfl)
    obtain ⟨t, ht, ht2⟩ := wStr (wt_field (T := TT) (t := 134) rfl rfl h 1 rfl rfl)
    obtain ⟨⟨a, b⟩, ha⟩ := wP2 (wt_field (T := TT) (t := 134) rfl rfl h 2 rfl rfl)
    obtain ⟨⟨c, e⟩, hc⟩ := wP2 (wt_field (T := TT) (t := 134) rfl rfl h 3 rfl rfl)
    obtain ⟨ns, hn⟩ := wInts (wt_field (T := TT) (t := 134) rfl rfl h 4 rfl rfl)
    have hs : [x0] = [.str s] := hs
    have ht : [x1] = [.str t] := ht
    have ha : [x2, x3] = [I a, I b] := ha
    have hc : [x4, x5] = [I c, I e] := hc
    have hn : [x6] = [.isl 1 (nl ns)] := hn
    cases hs; cases ht; cases ha; cases hc; cases hn
    exact ⟨⟨s, t, a, b, c, e, ns⟩, rfl, hs2, ht2⟩
theorem wSea {d : Nat} {x : List AV} (h : WT TT (d + 3) 216 x) : ∃ m : Sea, x = m.av ∧ okS m.nm := by
  have h0 := (wt_struct (T := TT) (t := 216) rfl rfl h).1
  have h0 : x.length = 4 := h0
  match x, h0 with
  | [x0, x1, x2, x3], _ =>
    obtain ⟨s, hs, hs2⟩ := wStr (wt_field (T := TT) (t := 216) rfl rfl h 0 rfl rfl)
    obtain ⟨a, b, c, ha⟩ := wP3 (wt_field (T := TT) (t := 216) rfl rfl h 1 rfl rfl)
    have hs : [x0] = [.str s] := hs
    have ha : [x1, x2, x3] = [I a, I b, I c] := ha
    cases hs; cases ha
    exact ⟨⟨s, a, b, c⟩, rfl, hs2⟩
theorem wList {α : Type} {f : α → List AV} {P : α → Prop} {Q : List AV → Prop} (hQ : ∀ x, Q x → ∃ m, x = f m ∧ P m) : ∀ els : List (List AV), (∀ x ∈ els, Q x) → ∃ l : List α, els = l.map f ∧ ∀ m ∈ l, P m
  | [], _ => ⟨[], rfl, by simp⟩
  | e :: els, h => by
    obtain ⟨l, h1, h2⟩ := wList hQ els (fun x hx => h x (by simp [hx]))
    obtain ⟨m, h3, h4⟩ := hQ e (h e (by simp))
    refine ⟨m :: l, by rw [h3, h1]; rfl, fun u hu => ?_⟩
    rcases List.mem_cons.1 hu with rfl | hu
    · exact h4
    · exact h2 u hu
theorem hall_of {a : AV} (h : WTA TT 28 a) : ∃ h : Hal, a = h.av := by
  obtain ⟨x, m, rfl, hw⟩ := wta_agg (T := TT) (t := 28) h rfl rfl 10
  have h0 := (wt_struct (T := TT) (t := 28) rfl rfl hw).1
  have h0 : x.length = 9 := h0
  match x, h0 with
  | [x0, x1, x2, x3, x4, x5, x6, x7, x8], _ =>
    obtain ⟨s, hs, hs2⟩ := wStr (wt_field (T := TT) (t := 28) rfl rfl hw 0 rfl rfl)
    obtain ⟨n, hn⟩ := wInt (wt_field (T := TT) (t := 28) rfl rfl hw 1 rfl rfl)
    obtain ⟨t, ht, ht2⟩ := wStr (wt_field (T := TT) (t := 28) rfl rfl hw 2 rfl rfl)
    obtain ⟨u, hu, hu2⟩ := wStr (wt_field (T := TT) (t := 28) rfl rfl hw 3 rfl rfl)
    obtain ⟨e4, h4, _, g4⟩ := wt_slice (T := TT) (t := 22) rfl rfl rfl (wt_field (T := TT) (t := 28) rfl rfl hw 4 rfl rfl)
    obtain ⟨e5, h5, _, g5⟩ := wt_slice (T := TT) (t := 23) rfl rfl rfl (wt_field (T := TT) (t := 28) rfl rfl hw 5 rfl rfl)
    obtain ⟨e6, h6, _, g6⟩ := wt_slice (T := TT) (t := 24) rfl rfl rfl (wt_field (T := TT) (t := 28) rfl rfl hw 6 rfl rfl)
    obtain ⟨e7, h7, _, g7⟩ := wt_slice (T := TT) (t := 25) rfl rfl rfl (wt_field (T := TT) (t := 28) rfl rfl hw 7 rfl rfl)
    obtain ⟨e8, h8, _, g8⟩ := wt_slice (T := TT) (t := 26) rfl rfl rfl (wt_field (T := TT) (t := 28) rfl rfl hw 8 rfl rfl)
    obtain ⟨l4, k4, _⟩ := wList (f := Mat.av) (fun x hx => wMat hx) e4 g4
    obtain ⟨l5, k5, _⟩ := wList (f := pt) (P := fun _ => True) (fun x hx => (wP2 hx).imp fun p hp => ⟨hp, trivial⟩) e5 g5
    obtain ⟨l6, k6, _⟩ := wList (f := Wal.av) (fun x hx => wWal hx) e6 g6
    obtain ⟨l7, k7, _⟩ := wList (f := Can.av) (fun x hx => wCan hx) e7 g7
    obtain ⟨l8, k8, _⟩ := wList (f := Sea.av) (fun x hx => wSea hx) e8 g8
    have hs : [x0] = [.str s] := hs
    have hn : [x1] = [I n] := hn
    have ht : [x2] = [.str t] := ht
    have hu : [x3] = [.str u] := hu
    have h4 : [x4] = [.isl 6 e4] := h4
    have h5 : [x5] = [.isl 2 e5] := h5
    have h6 : [x6] = [.isl 3 e6] := h6
    have h7 : [x7] = [.isl 7 e7] := h7
    have h8 : [x8] = [.isl 4 e8] := h8
    cases hs; cases hn; cases ht; cases hu; cases h4; cases h5; cases h6; cases h7; cases h8
    exact ⟨⟨s, n, t, u, l4, l5, l6, l7, l8⟩, by rw [k4, k5, k6, k7, k8]⟩
theorem stg_of {a : AV} (h : WTA TT 31 a) : ∃ s : Stg, a = s.av := by
  obtain ⟨x, m, rfl, hw⟩ := wta_agg (T := TT) (t := 31) h rfl rfl 10
  have h0 := (wt_struct (T := TT) (t := 31) rfl rfl hw).1
  have h0 : x.length = 2 := h0
  match x, h0 with
  | [x0, x1], _ =>
    obtain ⟨a, ha⟩ := wInts (wt_field (T := TT) (t := 31) rfl rfl hw 0 rfl rfl)
    obtain ⟨b, hb⟩ := wInts (wt_field (T := TT) (t := 31) rfl rfl hw 1 rfl rfl)
    have ha : [x0] = [.isl 1 (nl a)] := ha
    have hb : [x1] = [.isl 1 (nl b)] := hb
    cases ha; cases hb
    exact ⟨⟨a, b⟩, rfl⟩
theorem short20_le {s : ByteArray} (h : short20 s = true) : s.data.toList.length < 100000 := by
  unfold short20 at h
  have hz : s.size = s.data.toList.length := by simp
  simp only [Bool.not_eq_true', decide_eq_false_iff_not] at h
  omega
/-- Within the bounds of the laws. -/
theorem few_ok {h : Hal} (hb : fewB h = true) : h.ok := by
  unfold fewB at hb
  simp only [Bool.and_eq_true] at hb
  obtain ⟨⟨hL, ⟨n1, n2⟩, n3⟩, m1, m2, m3, m4⟩ := hb
  unfold fewL at hL
  simp only [Bool.and_eq_true] at hL
  obtain ⟨⟨⟨⟨b1, b2⟩, b3⟩, b4⟩, b5⟩ := hL
  have b1 := mostB_le b1 (by omega) (by omega)
  have b2 := mostB_le b2 (by omega) (by omega)
  have b3 := mostB_le b3 (by omega) (by omega)
  have b4 := mostB_le b4 (by omega) (by omega)
  have b5 := mostB_le b5 (by omega) (by omega)
  rw [List.all_eq_true] at m1 m2 m3 m4
  refine ⟨⟨by omega, by omega, by omega, by omega, by omega, fun c hc => ?_⟩, ⟨short20_le n1, fun m hm => short20_le (m1 m hm), fun m hm => ?_, fun m hm => ?_, fun m hm => short20_le (m4 m hm)⟩⟩
  · have := m3 c hc
    unfold fewC at this
    simp only [Bool.and_eq_true, Bool.not_eq_true', decide_eq_false_iff_not] at this
    omega
  · have := m2 m hm
    unfold fewW at this
    simp only [Bool.and_eq_true] at this
    exact short20_le this.1.1
  · have := m3 m hm
    unfold fewC at this
    simp only [Bool.and_eq_true] at this
    exact short20_le this.1.1
end Go.Proofs.YtdaliaafmcjikaaGreat
namespace Go.Proofs.YtdaliaafmcjikaaGreat
open Go Go.Sx

/-! ### The names of the surfaces -/
def sl (l : List ByteArray) : List (List AV) := l.map fun s => [.str s]
theorem sl_length (l : List ByteArray) : (sl l).length = l.length := by simp [sl]
theorem sl_get {l : List ByteArray} {k : Nat} (h : k < l.length) : (sl l)[((k : Nat) : Int).toNat]? = some [.str l[k]] := by simp [sl, h]
theorem sl_append (l m : List ByteArray) : sl (l ++ m) = sl l ++ sl m := by simp [sl]
def wNames (h : Hal) : List ByteArray := h.ws.map Wal.nm
def kNames (h : Hal) : List ByteArray := h.ks.map Can.nm
def surf (h : Hal) : List ByteArray := (wNames h ++ [floorS, ceilS]) ++ kNames h
theorem wN_take {h : Hal} {k : Nat} (hk : k < h.ws.length) : sl ((wNames h).take (k + 1)) = sl ((wNames h).take k) ++ [[.str h.ws[k].nm]] := by
  have : k < (wNames h).length := by simp [wNames]; exact hk
  rw [List.take_succ_eq_append_getElem this, sl_append]
  simp [wNames, sl]
theorem kN_take {h : Hal} {k : Nat} (hk : k < h.ks.length) : sl ((kNames h).take (k + 1)) = sl ((kNames h).take k) ++ [[.str h.ks[k].nm]] := by
  have : k < (kNames h).length := by simp [kNames]; exact hk
  rw [List.take_succ_eq_append_getElem this, sl_append]
  simp [kNames, sl]
/-- A list that grows: its name, and how it lies. -/
def gv (n0 : Nat) (k len : Nat) : AV := match k with
  | 0 => .nils
  | _ => .asl n0 0 len
def gz (n0 es : Nat) (k : Nat) (els : List (List AV)) (z : List (Nat × ABlk)) : List (Nat × ABlk) := match k with
  | 0 => z
  | _ => (n0, .row es els true true) :: z
def nm2 (a b : Nat) (k : Nat) : Nat := match k with
  | 0 => a
  | _ => b
end Go.Proofs.YtdaliaafmcjikaaGreat
namespace Go.Proofs.YtdaliaafmcjikaaGreat
open Go Go.Sx

/-- In a right hall. -/
structure Hal.fine (h : Hal) : Prop where
  nms : h.names = (matsGo 0 [] h.ms).2.2
  le : h.ms.length ≤ 10 ∧ 3 ≤ h.cs.length ∧ h.ws.length = h.cs.length ∧ h.ws.length ≤ 12 ∧ h.ks.length ≤ 4 ∧ h.ss.length ≤ 40
  ht : 2 ≤ h.ht ∧ h.ht ≤ 5000
  mats : ∀ m ∈ h.ms, matErr m = 0
  fl : ∃ m ∈ h.ms, m.nm = h.fl
  ce : ∃ m ∈ h.ms, m.nm = h.ce
  bd : CorOk h.cs
  st : AllStr h.cs
  simple : isSimple h = true
  area : 0 < twArea h
  wal : ∀ i (hi : i < h.ws.length), wErrR h i h.ws[i] = 0
  can : ∀ i (hi : i < h.ks.length), cErrR h i h.ks[i] = 0
  sea : ∀ i (hi : i < h.ss.length), sErrR h i h.ss[i] = 0
theorem fe_zero {x : Int × Int × Int} {l : List (Int × Int × Int)} (h : (firstErr (x :: l)).2.2 = 0) : x.2.2 = 0 ∧ (firstErr l).2.2 = 0 := by
  rw [firstErr] at h
  by_cases c : x.2.2 = 0
  · rw [if_pos c] at h; exact ⟨c, h⟩
  · rw [if_neg c] at h; exact absurd h c
theorem fine_of {h : Hal} (hk : h.ok) (he : h.err = 0) : h.fine := by
  have h0 : (chkR h).2.2 = 0 := by rw [chk_eq hk.f]; exact he
  unfold chkR chkListR at h0
  obtain ⟨z1, h0⟩ := fe_zero h0
  obtain ⟨z2, h0⟩ := fe_zero h0
  obtain ⟨z3, h0⟩ := fe_zero h0
  obtain ⟨z4, h0⟩ := fe_zero h0
  obtain ⟨z5, h0⟩ := fe_zero h0
  obtain ⟨z6, h0⟩ := fe_zero h0
  obtain ⟨z7, h0⟩ := fe_zero h0
  obtain ⟨z8, h0⟩ := fe_zero h0
  obtain ⟨z9, h0⟩ := fe_zero h0
  obtain ⟨z10, h0⟩ := fe_zero h0
  obtain ⟨z11, h0⟩ := fe_zero h0
  obtain ⟨z12, h0⟩ := fe_zero h0
  obtain ⟨z13, h0⟩ := fe_zero h0
  obtain ⟨z14, h0⟩ := fe_zero h0
  obtain ⟨z15, h0⟩ := fe_zero h0
  have z2 := within_iff.1 (unl_zero z2 (by decide))
  have z3 := of_decide_eq_true (unl_zero z3 (by decide))
  have z6 := unl_zero z6 (by decide)
  have z7 := of_decide_eq_true (unl_zero z7 (by decide))
  have z10 := unl_zero z10 (by decide)
  have z11 := of_decide_eq_true (unl_zero z11 (by decide))
  have z12 := of_decide_eq_true (unl_zero z12 (by decide))
  have z14 := of_decide_eq_true (unl_zero z14 (by decide))
  simp only [Bool.and_eq_true, decide_eq_true_eq] at z6
  have hb : CorOk h.cs := corOk_of z8
  have hwc : h.ws.length = h.cs.length := by omega
  have hst : AllStr h.cs := allStr_of hb hwc z9
  have hfl : ¬(matIx h.fl 0 h.ms < 0) ∧ ¬(matIx h.ce 0 h.ms < 0) := by
    change flErrR h = 0 at z5
    unfold flErrR at z5
    split at z5
    · cases z5
    · rename_i hx
      simp only [Bool.or_eq_true, decide_eq_true_eq, not_or] at hx
      exact hx
  refine ⟨rfl, ⟨by omega, by omega, hwc, by omega, by omega, by omega⟩, z2, ?_, ?_, ?_, hb, hst, ?_, by rw [twArea_eq]; exact z11, ?_, ?_, ?_⟩
  · intro m hm
    obtain ⟨i, hi, rfl⟩ := List.mem_iff_getElem.1 hm
    have := fIx_zero (n := h.ms.length) _ 0 rfl z4 i (Nat.zero_le _) hi
    unfold mErrR at this
    rw [List.getElem?_eq_getElem hi] at this
    change mErr h i h.ms[i] = 0 at this
    unfold mErr at this
    unfold matErr
    split at this
    · split at this
      · cases this
      · split at this
        · rename_i hx
          rw [if_pos (by simp only [Bool.and_eq_true] at hx ⊢; simp [hx])]
        · cases this
    · cases this
  · have := mt (matIx_neg h.fl h.ms 0).2 hfl.1; exact Classical.not_not.1 this
  · have := mt (matIx_neg h.ce h.ms 0).2 hfl.2; exact Classical.not_not.1 this
  · rw [simple_eq hst (by omega) hk.f.2.1]; exact z10
  · intro i hi
    have := fIx_zero (n := h.ws.length) _ 0 rfl z9 i (Nat.zero_le _) hi
    unfold waErrR at this
    rw [List.getElem?_eq_getElem hi] at this
    exact this
  · intro i hi
    have := fIx_zero (n := h.ks.length) _ 0 rfl z13 i (Nat.zero_le _) hi
    unfold caErrR at this
    rw [List.getElem?_eq_getElem hi] at this
    exact this
  · intro i hi
    have := fIx_zero (n := h.ss.length) _ 0 rfl z15 i (Nat.zero_le _) hi
    unfold seErrR at this
    rw [List.getElem?_eq_getElem hi] at this
    exact this

/-! ### The program's names of surfaces -/
noncomputable def kS (h : Hal) : PC := ins 133 (one [h.av] ⟨.tup [h.av, I h.err], []⟩) kQ2
theorem kS_ok {h : Hal} (hk : h.ok) : PCOK Tryz.prog (kS h) := one_ok (c76 hk) kQ2_ok
set_option maxRecDepth 100000 in
set_option maxHeartbeats 16000000 in
theorem c64 {h : Hal} (hk : h.ok) : PCall Tryz.prog 112 [h.av] ⟨.tup [.isl 1 (sl (if h.err = 0 then surf h else [])), I h.err], []⟩ := by
  have hkS := kS_ok hk
  by_cases he : h.err = 0
  · have hfi := fine_of hk he
    obtain ⟨_, g2, g3, _⟩ := hfi.le
    have l3 := wa_length h.ws
    have l4 := ca_length h.ks
    obtain ⟨f1, f2, f3, f4, f5, f6⟩ := hk.f
    rw [if_pos he]
    refine PCall.freeze (res := ⟨.tup [.asl 0 0 (sl (surf h)).length, I h.err], [(1, sl (surf h))]⟩) ?_ ⟨⟨rfl, rfl, rfl⟩, ⟨rfl, rfl⟩, trivial⟩
    refine bs.pv (sx := nos) hkS Tryz.func112 (by kernel_rfl) (by kernel_rfl) rfl ?_
    repeat' (first | refine wk1 ?_ | (refine wk2 ?_ ?_ <;> intro _) | refine wk4 ?_ | fail); all_goals (conv => whnf)
    refine Lp.ren (env2 := [(4, .ptr 1 0 0), (6, .nils), (21, .isl 3 (h.ws.map Wal.av)), (22, I (h.ws.map Wal.av).length), (23, I 0)]) (σ2 := ⟨[(1, .row 9 [h.cells] true false)], 3⟩) (Ren.of [] rfl (kps) (kps)) ?_
    refine loopV (S := Nat × Int × Nat × List (List AV)) (fun t => h.ws.length - t.1) (fun t => [(4, .ptr 1 0 0), (6, gv 3 t.1 t.2.2.1), (21, .isl 3 (h.ws.map Wal.av)), (22, I (h.ws.map Wal.av).length), (23, I t.2.1)]) (fun t => gz 3 1 t.1 t.2.2.2 [(1, .row 9 [h.cells] true false)]) 3 4
      (fun t => t.2.1 = t.1 ∧ t.1 ≤ h.ws.length ∧ t.2.2.1 = t.2.2.2.length ∧ t.2.2.2 = sl ((wNames h).take t.1)) (0, 0, 0, []) ⟨rfl, Nat.zero_le _, rfl, rfl⟩ (Nat.le_refl _) [] rfl (kps) (kps) ?_
    rintro ⟨k, i, len, els⟩ ⟨hi, hk, hlen, hels⟩
    dsimp only at hi hk hlen hels ⊢
    subst hi
    refine bs.av (sx := nos) hkS ?_
    have e4 : els.length < 2000 := by rw [hels, sl_length, List.length_take]; omega
    by_cases hlt : k < h.ws.length
    · have e1 := wa_get hlt
      have e3 := wN_take hlt
      cases k with
      | zero =>
        repeat' (first | refine wk1 ?_ | (refine wk2 ?_ ?_ <;> intro _) | refine wk4 ?_ | fail); all_goals (conv => whnf)
        exact Done.mk ⟨(1, _, _, _), [(3, 6)], rfl, kps, kps, ⟨W_succ (k := 0) (by omega), hlt, rfl, e3.symm⟩, by dsimp only; omega⟩
      | succ k =>
        repeat' (first | refine wk1 ?_ | (refine wk2 ?_ ?_ <;> intro _) | refine wk4 ?_ | fail); all_goals (conv => whnf)
        exact Done.mk ⟨(k + 1 + 1, _, _, _), [(3, 6)], rfl, kps, kps, ⟨W_succ (k := k + 1) (by omega), hlt, by exact List.length_append.symm, by show _ = sl _; rw [e3, ← hels]; rfl⟩, by dsimp only; omega⟩
    rw [List.take_of_length_le (by simp [wNames]; omega)] at hels
    cases k with
    | zero => exfalso; omega
    | succ k =>
    repeat' (first | refine wk1 ?_ | (refine wk2 ?_ ?_ <;> intro _) | refine wk4 ?_ | fail); all_goals (conv => whnf)
    clear hlt
    refine loopV (S := Nat × Int × Nat × List (List AV)) (fun t => h.ks.length - t.1) (fun t => [(6, .asl (nm2 5 6 t.1) 0 t.2.2.1), (38, .isl 7 (h.ks.map Can.av)), (39, I (h.ks.map Can.av).length), (40, I t.2.1)]) (fun t => [(nm2 5 6 t.1, .row 1 t.2.2.2 true true)]) 6 7
      (fun t => t.2.1 = t.1 ∧ t.1 ≤ h.ks.length ∧ t.2.2.1 = t.2.2.2.length ∧ t.2.2.2 = els ++ [[.str floorS], [.str ceilS]] ++ sl ((kNames h).take t.1)) (0, 0, els.length + 2, els ++ [[.str floorS], [.str ceilS]]) ⟨rfl, Nat.zero_le _, by simp, by simp [sl]⟩ (Nat.le_refl _) [] rfl (kps) (kps) ?_
    rintro ⟨k2, i, len2, els2⟩ ⟨hi, hk2, hlen2, hels2⟩
    dsimp only at hi hk2 hlen2 hels2 ⊢
    subst hi
    refine bs.av (sx := nos) hkS ?_
    have e5 : els2.length < 4000 := by rw [hels2, List.length_append, sl_length, List.length_take, List.length_append]; simp; omega
    by_cases hlt : k2 < h.ks.length
    · have e1 := ca_get hlt
      have e3 := kN_take hlt
      cases k2 with
      | zero =>
        repeat' (first | refine wk1 ?_ | (refine wk2 ?_ ?_ <;> intro _) | refine wk4 ?_ | fail); all_goals (conv => whnf)
        exact Done.mk ⟨(1, _, _, _), [(6, 9)], rfl, kps, kps, ⟨W_succ (k := 0) (by omega), hlt, by exact List.length_append.symm, by show _ = _; rw [e3, ← List.append_assoc, ← hels2]; rfl⟩, by dsimp only; omega⟩
      | succ k2 =>
        repeat' (first | refine wk1 ?_ | (refine wk2 ?_ ?_ <;> intro _) | refine wk4 ?_ | fail); all_goals (conv => whnf)
        exact Done.mk ⟨(k2 + 1 + 1, _, _, _), [(6, 9)], rfl, kps, kps, ⟨W_succ (k := k2 + 1) (by omega), hlt, by exact List.length_append.symm, by show _ = _; rw [e3, ← List.append_assoc, ← hels2]; rfl⟩, by dsimp only; omega⟩
    rw [List.take_of_length_le (by simp [kNames]; omega)] at hels2
    have hfin : els2 = sl (surf h) := by rw [hels2, hels]; unfold surf; rw [sl_append, sl_append]; rfl
    subst hfin
    subst hlen2
    rw [he]
    cases k2 with
    | zero =>
      repeat' (first | refine wk1 ?_ | (refine wk2 ?_ ?_ <;> intro _) | refine wk4 ?_ | fail); all_goals (conv => whnf)
      exact ret_rows [5] rfl rfl rfl
    | succ k2 =>
      repeat' (first | refine wk1 ?_ | (refine wk2 ?_ ?_ <;> intro _) | refine wk4 ?_ | fail); all_goals (conv => whnf)
      exact ret_rows [6] rfl rfl rfl
  · rw [if_neg he]
    refine PCall.freeze (res := ⟨.tup [.nils, I h.err], []⟩) ?_ ⟨rfl, ⟨rfl, rfl⟩, trivial⟩
    refine bs.pv (sx := nos) hkS Tryz.func112 (by kernel_rfl) (by kernel_rfl) rfl ?_
    repeat' (first | refine wk1 ?_ | (refine wk2 ?_ ?_ <;> intro _) | refine wk4 ?_ | fail); all_goals (conv => whnf)
    exact ret_of rfl rfl
end Go.Proofs.YtdaliaafmcjikaaGreat

namespace Go.Proofs.YtdaliaafmcjikaaGreat
open Go Go.Sx

theorem bytes_ne_self {s : ByteArray} : (!(s == s)) = false := by rw [bytes_beq]; rfl
/-! ### HallChecks -/
end Go.Proofs.YtdaliaafmcjikaaGreat
namespace Go.Proofs.YtdaliaafmcjikaaGreat
open Go Go.Sx

/-! ### Copies of settings; short settings -/
set_option maxHeartbeats 4000000 in
theorem c29 {s : Stg} (hs : s.few) : PCall Tryz.prog 16 [s.av] ⟨s.av, []⟩ := by
  have e1 := cints_hit (ns := s.hs) (by have := hs.1; omega)
  have e2 := cints_hit (ns := s.dr) (by have := hs.2; omega)
  refine bs.pv (sx := nos) kQ2_ok Tryz.func16 (by kernel_rfl) (by kernel_rfl) rfl ?_
  repeat' (first | refine wk0 ?_ | (refine wk2 ?_ ?_ <;> intro _) | refine wk4 ?_ | fail); all_goals (conv => whnf)
  exact ret_of rfl rfl
def shortB (s : Stg) : Bool := decide ((s.hs.length : Int) ≤ 6) && decide ((s.dr.length : Int) ≤ 15)
theorem short_few {s : Stg} (h : shortB s = true) : s.few := by
  unfold shortB at h
  simp only [Bool.and_eq_true, decide_eq_true_eq] at h
  exact ⟨by omega, by omega⟩

/-! ### What a right setting is -/
structure SetOk (h : Hal) (s : Stg) : Prop where
  len : s.hs.length = h.ks.length
  hs : ∀ j (h1 : j < h.ks.length) (h2 : j < s.hs.length), 0 ≤ s.hs[j] ∧ s.hs[j] < h.ks[j].hs.length
  dr : ∀ d ∈ s.dr, 0 ≤ d ∧ d < h.ws.length ∧ curt h d ≠ ⟨#[]⟩
  up : s.dr.Pairwise (· < ·)
theorem hgE_zero {h : Hal} (hf : h.few) : ∀ (l : List Int) (i : Nat), hgE h i l = 0 → ∀ j (h1 : i + j < h.ks.length) (h2 : j < l.length), 0 ≤ l[j] ∧ l[j] < h.ks[i + j].hs.length
  | [], i, _, j, _, h2 => by simp at h2
  | n :: l, i, h0, j, h1, h2 => by
    rw [hgE] at h0
    split at h0
    · rename_i hw
      cases j with
      | zero =>
        have hk : i < h.ks.length := by omega
        have hl := hf.2.2.2.2.2 _ (List.getElem_mem hk)
        rw [show kLen h i = (h.ks[i].hs.length : Int) by unfold kLen; rw [List.getElem?_eq_getElem hk], W_eq (by omega) (by omega)] at hw
        have hw := within_iff.1 hw
        simp only [List.getElem_cons_zero, Nat.add_zero]
        omega
      | succ j =>
        have := hgE_zero hf l (i + 1) h0 j (by omega) (by simpa using h2)
        simp only [List.getElem_cons_succ]
        have e : i + 1 + j = i + (j + 1) := by omega
        simp only [e] at this
        exact this
    · cases h0
theorem drE_zero {h : Hal} (hf : h.few) : ∀ (l : List Int) (p : Option Int), drE h p l = 0 → (∀ d ∈ l, (0 ≤ d ∧ d < h.ws.length ∧ curt h d ≠ ⟨#[]⟩) ∧ (∀ q, p = some q → q < d)) ∧ l.Pairwise (· < ·)
  | [], p, _ => ⟨by simp, .nil⟩
  | n :: l, p, h0 => by
    rw [drE] at h0
    split at h0
    · rename_i ho
      split at h0
      · cases h0
      · rename_i hn
        obtain ⟨g1, g2⟩ := drE_zero hf l (some n) h0
        have hl := hf.2.2.1
        unfold drOk at ho
        rw [Bool.and_eq_true, W_eq (by omega) (by omega), within_iff, Bool.not_eq_true', beq_ba, decide_eq_false_iff_not] at ho
        have hp : ∀ q, p = some q → q < n := by
          rintro q rfl
          simp only [notUp, decide_eq_true_eq] at hn
          omega
        refine ⟨fun d hd => ?_, List.pairwise_cons.2 ⟨fun d hd => (g1 d hd).2 n rfl, g2⟩⟩
        rcases List.mem_cons.1 hd with rfl | hd
        · exact ⟨⟨by omega, by omega, ho.2⟩, hp⟩
        · refine ⟨(g1 d hd).1, fun q hq => ?_⟩
          have := (g1 d hd).2 n rfl
          have := hp q hq
          omega
    · cases h0
theorem setE_ok {h : Hal} (hf : h.few) {s : Stg} (h0 : setE h s = 0) : SetOk h s := by
  unfold setE at h0
  split at h0
  · rename_i hl
    split at h0
    · rename_i hg
      obtain ⟨g1, g2⟩ := drE_zero hf s.dr none h0
      refine ⟨by omega, fun j h1 h2 => ?_, fun d hd => (g1 d hd).1, g2⟩
      have := hgE_zero hf s.hs 0 hg j (by omega) h2
      simpa using this
    · rename_i hg; exact absurd h0 hg
  · cases h0

/-! ### Surfaces -/
def nsur (h : Hal) : Int := (h.ws.length : Int) + 2 + h.ks.length
def surE (h : Hal) (s : Stg) (i : Int) : Int := if serr h s = 0 then (if within i 0 (nsur h - 1) then 0 else 6) else serr h s
theorem c172 {h : Hal} (s : Stg) : PCall Tryz.prog 253 [.agg (stgL h s)] ⟨I (h.ws.length : Int), []⟩ := by
  have l := wa_length h.ws
  refine bs.pv (sx := nos) pt0_ok Tryz.func253 (by kernel_rfl) (by kernel_rfl) rfl ?_
  repeat' (first | refine wk0 ?_ | (refine wk2 ?_ ?_ <;> intro _) | refine wk4 ?_ | fail); all_goals (conv => whnf)
  exact ret_int (by omega)
theorem c173 {h : Hal} (hf : h.few) (s : Stg) : PCall Tryz.prog 254 [.agg (stgL h s)] ⟨I ((h.ws.length : Int) + 1), []⟩ := by
  have l := wa_length h.ws
  refine bs.pv (sx := nos) pt0_ok Tryz.func254 (by kernel_rfl) (by kernel_rfl) rfl ?_
  repeat' (first | refine wk0 ?_ | (refine wk2 ?_ ?_ <;> intro _) | refine wk4 ?_ | fail); all_goals (conv => whnf)
  exact ret_int (by show IntKind.i64.wrap (((h.ws.map Wal.av).length : Int) + 1) = _; have := hf.2.2.1; rw [W_eq (by omega) (by omega)]; omega)
theorem c84 {h : Hal} (hf : h.few) (s : Stg) : PCall Tryz.prog 252 [.agg (stgL h s)] ⟨I (nsur h), []⟩ := by
  have l := wa_length h.ws
  have l2 := ca_length h.ks
  refine bs.pv (sx := nos) pt0_ok Tryz.func252 (by kernel_rfl) (by kernel_rfl) rfl ?_
  repeat' (first | refine wk0 ?_ | (refine wk2 ?_ ?_ <;> intro _) | refine wk4 ?_ | fail); all_goals (conv => whnf)
  exact ret_int (by
    show IntKind.i64.wrap (IntKind.i64.wrap (((h.ws.map Wal.av).length : Int) + 2) + ((h.ks.map Can.av).length : Int)) = _
    have := hf.2.2.1; have := hf.2.2.2.1; unfold nsur; rw [W_eq (n := ((h.ws.map Wal.av).length : Int) + 2) (by omega) (by omega), W_eq (by omega) (by omega)]; omega)
theorem c88 {h : Hal} (hf : h.few) (i : Int) : PCall Tryz.prog 69 [h.av, I i] ⟨Bo (within i 0 (nsur h - 1)), []⟩ := by
  have l := wa_length h.ws
  have l2 := ca_length h.ks
  refine bs.pv (sx := nos) k93_ok Tryz.func69 (by kernel_rfl) (by kernel_rfl) rfl ?_
  repeat' (first | refine wk0 ?_ | (refine wk2 ?_ ?_ <;> intro _) | refine wk4 ?_ | fail); all_goals (conv => whnf)
  exact ret_bool (by
    show within i 0 (IntKind.i64.wrap (IntKind.i64.wrap (((h.ws.map Wal.av).length : Int) + 1) + ((h.ks.map Can.av).length : Int))) = _
    have := hf.2.2.1; have := hf.2.2.2.1; unfold nsur; rw [W_eq (n := ((h.ws.map Wal.av).length : Int) + 1) (by omega) (by omega), W_eq (by omega) (by omega)]; congr 1; omega)
noncomputable def kS1 (h : Hal) (s : Stg) (i : Int) : PC := ins 253 (one [.agg (stgL h s)] ⟨I (h.ws.length : Int), []⟩) (ins 254 (one [.agg (stgL h s)] ⟨I ((h.ws.length : Int) + 1), []⟩) (ins 252 (one [.agg (stgL h s)] ⟨I (nsur h), []⟩) (ins 69 (one [h.av, I i] ⟨Bo (within i 0 (nsur h - 1)), []⟩) (ins 172 (one [h.av, s.av] ⟨.tup [.agg (stgL h s), I (serr h s)], []⟩) k93))))
theorem kS1_ok {h : Hal} (hk : h.ok) {s : Stg} (hs : s.few) (i : Int) : PCOK Tryz.prog (kS1 h s i) := one_ok (c172 s) (one_ok (c173 hk.f s) (one_ok (c84 hk.f s) (one_ok (c88 hk.f i) (one_ok (c83 hk hs) k93_ok))))
set_option maxHeartbeats 4000000 in
theorem c109 {h : Hal} (hk : h.ok) {s : Stg} (hs : s.few) (i : Int) : PCall Tryz.prog 158 [h.av, s.av, I i] ⟨.tup [.agg (stgL h s), I (surE h s i)], []⟩ := by
  have hw : IntKind.i64.wrap (nsur h - 1) = nsur h - 1 := W_eq (by have := hk.f.2.2.1; have := hk.f.2.2.2.1; unfold nsur; omega) (by have := hk.f.2.2.1; have := hk.f.2.2.2.1; unfold nsur; omega)
  refine bs.pv (sx := nos) (kS1_ok hk hs i) Tryz.func158 (by kernel_rfl) (by kernel_rfl) rfl ?_
  repeat' (first | refine wk0 ?_ | (refine wk2 ?_ ?_ <;> intro _) | refine wk4 ?_ | fail); all_goals (conv => whnf)
  · rename_i h1 h2
    have e : surE h s i = 6 := by unfold surE; rw [if_pos (of_decide_eq_true h1)]; rw [hw] at h2; simp_all
    rw [e]; exact ret_of rfl rfl
  · rename_i h1 h2
    have e0 : serr h s = 0 := of_decide_eq_true h1
    have e : surE h s i = 0 := by unfold surE; rw [if_pos e0]; rw [hw] at h2; simp_all
    rw [e, ← e0]; exact ret_of rfl rfl
  · rename_i h1
    have e : surE h s i = serr h s := by unfold surE; rw [if_neg (of_decide_eq_false h1)]
    rw [e]; exact ret_of rfl rfl
end Go.Proofs.YtdaliaafmcjikaaGreat
namespace Go.Proofs.YtdaliaafmcjikaaGreat
open Go Go.Sx

/-! ### What a right hall with a right setting is, at a surface -/
structure Sit (h : Hal) (s : Stg) : Prop where
  ok : h.ok
  fine : h.fine
  sf : s.few
  set : SetOk h s
theorem sit_of {h : Hal} (hk : h.ok) {s : Stg} (hs : s.few) (h0 : serr h s = 0) : Sit h s := by
  unfold serr at h0
  split at h0
  · rename_i he
    exact ⟨hk, fine_of hk he, hs, setE_ok hk.f h0⟩
  · rename_i he; exact absurd h0 he
/-- The kinds of surfaces. -/
inductive SK (h : Hal) : Int → Prop
  | wall (k : Nat) (hk : k < h.ws.length) : SK h k
  | floor : SK h h.ws.length
  | ceil : SK h ((h.ws.length : Int) + 1)
  | can (j : Nat) (hj : j < h.ks.length) : SK h ((h.ws.length : Int) + 2 + j)
theorem sk_of {h : Hal} {i : Int} (h0 : 0 ≤ i) (h1 : i < nsur h) : SK h i := by
  unfold nsur at h1
  by_cases c1 : i < h.ws.length
  · have := SK.wall (h := h) i.toNat (by omega)
    rwa [Int.toNat_of_nonneg h0] at this
  by_cases c2 : i = h.ws.length
  · rw [c2]; exact .floor
  by_cases c3 : i = (h.ws.length : Int) + 1
  · rw [c3]; exact .ceil
  have := SK.can (h := h) (i - h.ws.length - 2).toNat (by omega)
  rwa [Int.toNat_of_nonneg (by omega), show (h.ws.length : Int) + 2 + (i - h.ws.length - 2) = i by omega] at this
theorem surE_zero {h : Hal} {s : Stg} {i : Int} (h0 : surE h s i = 0) : serr h s = 0 ∧ 0 ≤ i ∧ i < nsur h := by
  unfold surE at h0
  split at h0
  · rename_i he
    split at h0
    · rename_i hw
      have := within_iff.1 hw
      exact ⟨he, by omega, by omega⟩
    · cases h0
  · rename_i he; exact absurd h0 he

/-- The number of a canopy, and its name among the surfaces. -/
def kix (h : Hal) (i : Int) : Nat := (i - h.ws.length - 2).toNat
def kat (h : Hal) (i : Int) : Can := (h.ks[kix h i]?).getD ⟨⟨#[]⟩, ⟨#[]⟩, 0, 0, 0, 0, []⟩
theorem kat_eq {h : Hal} {j : Nat} (hj : j < h.ks.length) : kat h ((h.ws.length : Int) + 2 + j) = h.ks[j] := by
  unfold kat kix
  rw [show ((h.ws.length : Int) + 2 + j - h.ws.length - 2).toNat = j by omega, List.getElem?_eq_getElem hj]; rfl
def isK (h : Hal) (i : Int) : Bool := decide ((h.ws.length : Int) + 2 ≤ i)
abbrev canZ : List AV := [.str ⟨#[]⟩, .str ⟨#[]⟩, I 0, I 0, I 0, I 0, .nils]
def canV (h : Hal) (i : Int) : AV := .agg (match isK h i with
  | true => (kat h i).av
  | false => canZ)
set_option maxHeartbeats 4000000 in
theorem c87 {h : Hal} (hf : h.few) (s : Stg) {i : Int} (hi : SK h i) : PCall Tryz.prog 257 [.agg (stgL h s), I i] ⟨.tup [canV h i, Bo (isK h i)], []⟩ := by
  have l := wa_length h.ws
  have l2 := ca_length h.ks
  obtain ⟨_, _, f3, f4, _⟩ := hf
  have low : ∀ i : Int, 0 ≤ i → i < (h.ws.length : Int) + 2 → PCall Tryz.prog 257 [.agg (stgL h s), I i] ⟨.tup [.agg canZ, Bo false], []⟩ := by
    intro i h0 h1
    have hv : IntKind.i64.wrap (IntKind.i64.wrap (i - ((h.ws.map Wal.av).length : Int)) - 2) = i - h.ws.length - 2 := by rw [W_eq (n := i - ((h.ws.map Wal.av).length : Int)) (by omega) (by omega), W_eq (by omega) (by omega)]; omega
    refine bs.pv (sx := nos) pt0_ok Tryz.func257 (by kernel_rfl) (by kernel_rfl) rfl ?_
    have hn : ¬ (0 ≤ IntKind.i64.wrap (IntKind.i64.wrap (i - ((h.ws.map Wal.av).length : Int)) - 2)) := by rw [hv]; omega
    repeat' (first | refine wk0 ?_ | (refine wk2 ?_ ?_ <;> intro _) | refine wk4 ?_ | fail); all_goals (conv => whnf)
    all_goals first
      | exact ret_of rfl rfl
      | (exfalso; rename_i hx; have := of_decide_eq_true hx; rw [hv] at this; omega)
      | (exfalso; rename_i hx; have := of_decide_eq_true hx; exact hn this)
  cases hi with
  | wall k hk =>
    have e1 : isK h k = false := decide_eq_false (by omega)
    unfold canV; rw [e1]; exact low _ (by omega) (by omega)
  | floor =>
    have e1 : isK h h.ws.length = false := decide_eq_false (by omega)
    unfold canV; rw [e1]; exact low _ (by omega) (by omega)
  | ceil =>
    have e1 : isK h ((h.ws.length : Int) + 1) = false := decide_eq_false (by omega)
    unfold canV; rw [e1]; exact low _ (by omega) (by omega)
  | can j hj =>
    have e1 : isK h ((h.ws.length : Int) + 2 + j) = true := decide_eq_true (by omega)
    unfold canV
    rw [e1]
    dsimp only
    rw [kat_eq hj]
    have hv : IntKind.i64.wrap (IntKind.i64.wrap ((h.ws.length : Int) + 2 + j - ((h.ws.map Wal.av).length : Int)) - 2) = j := by rw [W_eq (n := (h.ws.length : Int) + 2 + j - ((h.ws.map Wal.av).length : Int)) (by omega) (by omega), W_eq (by omega) (by omega)]; omega
    have e2 : (h.ks.map Can.av)[(IntKind.i64.wrap (IntKind.i64.wrap ((h.ws.length : Int) + 2 + j - ((h.ws.map Wal.av).length : Int)) - 2)).toNat]? = some (Can.av h.ks[j]) := by rw [hv]; exact ca_get hj
    have e3 : 0 ≤ IntKind.i64.wrap (IntKind.i64.wrap ((h.ws.length : Int) + 2 + j - ((h.ws.map Wal.av).length : Int)) - 2) := by omega
    have e4 : decide (0 ≤ IntKind.i64.wrap (IntKind.i64.wrap ((h.ws.length : Int) + 2 + j - ((h.ws.map Wal.av).length : Int)) - 2)) = true := decide_eq_true e3
    refine bs.pv (sx := nos) pt0_ok Tryz.func257 (by kernel_rfl) (by kernel_rfl) rfl ?_
    repeat' (first | refine wk0 ?_ | (refine wk2 ?_ ?_ <;> intro _) | refine wk4 ?_ | fail); all_goals (conv => whnf)
    all_goals first
      | exact ret_of rfl rfl
      | (exfalso; rename_i hx; rw [e4] at hx; cases hx)

/-! ### Heights -/
def hgtAt (h : Hal) (s : Stg) (j : Nat) : Int := match h.ks[j]?, s.hs[j]? with
  | some c, some n => c.hs.getD n.toNat 0
  | _, _ => 0
theorem hgt_facts {h : Hal} {s : Stg} (g : SetOk h s) {j : Nat} (hj : j < h.ks.length) : ∃ n, (nl s.hs)[((j : Nat) : Int).toNat]? = some [I n] ∧ 0 ≤ n ∧ n < h.ks[j].hs.length ∧ (nl h.ks[j].hs)[n.toNat]? = some [I (hgtAt h s j)] := by
  have h2 : j < s.hs.length := by rw [g.len]; exact hj
  obtain ⟨g1, g2⟩ := g.hs j hj h2
  refine ⟨s.hs[j], nl_get h2, g1, g2, ?_⟩
  have h3 : s.hs[j].toNat < h.ks[j].hs.length := by omega
  have e : hgtAt h s j = h.ks[j].hs[s.hs[j].toNat] := by unfold hgtAt; rw [List.getElem?_eq_getElem hj, List.getElem?_eq_getElem h2]; simp [h3]
  rw [e]
  simp [nl, h3]
set_option maxHeartbeats 4000000 in
theorem c192 {h : Hal} {s : Stg} (g : Sit h s) {j : Nat} (hj : j < h.ks.length) : PCall Tryz.prog 255 [.agg (stgL h s), I j] ⟨I (hgtAt h s j), []⟩ := by
  obtain ⟨n, e1, e2, e3, e4⟩ := hgt_facts g.set hj
  have e5 := ca_get hj
  generalize h.ks[j] = c at *
  have e6 := nl_length c.hs
  refine bs.pv (sx := nos) pt0_ok Tryz.func255 (by kernel_rfl) (by kernel_rfl) rfl ?_
  repeat' (first | refine wk1 ?_ | (refine wk2 ?_ ?_ <;> intro _) | refine wk4 ?_ | fail); all_goals (conv => whnf)
  exact ret_int rfl
set_option maxHeartbeats 4000000 in
theorem c108 {h : Hal} {s : Stg} (g : Sit h s) {j : Nat} (hj : j < h.ks.length) : PCall Tryz.prog 75 [h.av, s.av, I j] ⟨I (hgtAt h s j), []⟩ := by
  obtain ⟨n, e1, e2, e3, e4⟩ := hgt_facts g.set hj
  have e5 := ca_get hj
  generalize h.ks[j] = c at *
  have e6 := nl_length c.hs
  refine bs.pv (sx := nos) pt0_ok Tryz.func75 (by kernel_rfl) (by kernel_rfl) rfl ?_
  repeat' (first | refine wk1 ?_ | (refine wk2 ?_ ?_ <;> intro _) | refine wk4 ?_ | fail); all_goals (conv => whnf)
  exact ret_int rfl

/-! ### Kinds of surfaces, in the reference -/
def kindV (h : Hal) (i : Int) : Int × Int := if i < h.ws.length then (0, i) else if i = h.ws.length then (1, 0) else if i = (h.ws.length : Int) + 1 then (2, 0) else (3, i - h.ws.length - 2)
set_option maxHeartbeats 4000000 in
theorem c89 {h : Hal} (hf : h.few) {i : Int} (hi : SK h i) : PCall Tryz.prog 74 [h.av, I i] ⟨.tup [I (kindV h i).1, I (kindV h i).2], []⟩ := by
  have l := wa_length h.ws
  obtain ⟨_, _, f3, f4, _⟩ := hf
  have hw : IntKind.i64.wrap (((h.ws.map Wal.av).length : Int) + 1) = h.ws.length + 1 := by rw [W_eq (by omega) (by omega)]; omega
  have hr : 0 ≤ i ∧ i < 100000 := by cases hi <;> omega
  have hv : IntKind.i64.wrap (IntKind.i64.wrap (i - ((h.ws.map Wal.av).length : Int)) - 2) = i - h.ws.length - 2 := by rw [W_eq (n := i - ((h.ws.map Wal.av).length : Int)) (by omega) (by omega), W_eq (by omega) (by omega)]; omega
  unfold kindV
  refine bs.pv (sx := nos) pt0_ok Tryz.func74 (by kernel_rfl) (by kernel_rfl) rfl ?_
  repeat' (first | refine wk0 ?_ | (refine wk2 ?_ ?_ <;> intro _) | refine wk4 ?_ | fail); all_goals (conv => whnf)
  · rename_i hx
    rw [l] at hx
    rw [if_pos (of_decide_eq_true hx)]; exact ret_of rfl rfl
  · rename_i h1 hx
    rw [l] at hx h1
    rw [if_neg (of_decide_eq_false h1), if_pos (of_decide_eq_true hx)]; exact ret_of rfl rfl
  · rename_i h1 h2 hx
    rw [hw] at hx
    rw [l] at h1 h2
    rw [if_neg (of_decide_eq_false h1), if_neg (of_decide_eq_false h2), if_pos (of_decide_eq_true hx)]; exact ret_of rfl rfl
  · rename_i h1 h2 hx
    rw [hw] at hx
    rw [l] at h1 h2
    rw [if_neg (of_decide_eq_false h1), if_neg (of_decide_eq_false h2), if_neg (of_decide_eq_false hx), ← hv]; exact ret_of rfl rfl
end Go.Proofs.YtdaliaafmcjikaaGreat
namespace Go.Proofs.YtdaliaafmcjikaaGreat
open Go Go.Sx

/-! ### Planes -/
def plW (w : Wl) : Int × Int := if w.dx = 0 then (0, w.fx) else if w.dy = 0 then (1, w.fy) else if w.dx = w.dy then (4, IntKind.i64.wrap (w.fx - w.fy)) else (3, IntKind.i64.wrap (w.fx + w.fy))
def planeV (h : Hal) (s : Stg) (i : Int) : Int × Int := if i < h.ws.length then plW (wlOf h.cs i.toNat) else if i = h.ws.length then (2, 0) else if i = (h.ws.length : Int) + 1 then (2, h.ht) else (2, hgtAt h s (kix h i))
theorem planeV_wall {h : Hal} {s : Stg} {k : Nat} (hk : k < h.ws.length) : planeV h s k = plW (wlOf h.cs k) := by unfold planeV; rw [if_pos (by omega)]; rfl
theorem planeV_floor {h : Hal} {s : Stg} : planeV h s h.ws.length = (2, 0) := by unfold planeV; rw [if_neg (by omega), if_pos rfl]
theorem planeV_ceil {h : Hal} {s : Stg} : planeV h s ((h.ws.length : Int) + 1) = (2, h.ht) := by unfold planeV; rw [if_neg (by omega), if_neg (by omega), if_pos rfl]
theorem planeV_can {h : Hal} {s : Stg} {j : Nat} : planeV h s ((h.ws.length : Int) + 2 + j) = (2, hgtAt h s j) := by
  unfold planeV kix
  rw [if_neg (by omega), if_neg (by omega), if_neg (by omega), show ((h.ws.length : Int) + 2 + j - h.ws.length - 2).toNat = j by omega]
noncomputable def kP (h : Hal) (s : Stg) : PC := ins 253 (one [.agg (stgL h s)] ⟨I (h.ws.length : Int), []⟩) (ins 254 (one [.agg (stgL h s)] ⟨I ((h.ws.length : Int) + 1), []⟩) kG4)
theorem kP_ok {h : Hal} {s : Stg} (g : Sit h s) : PCOK Tryz.prog (kP h s) := one_ok (c172 s) (one_ok (c173 g.ok.f s) kG4_ok)
set_option maxRecDepth 100000 in
set_option maxHeartbeats 8000000 in
theorem c112 {h : Hal} {s : Stg} (g : Sit h s) {i : Int} (hi : SK h i) : PCall Tryz.prog 165 [.agg (stgL h s), I i] ⟨P2 (planeV h s i).1 (planeV h s i).2, []⟩ := by
  have hk0 := kP_ok g
  have f3 := g.ok.f.2.2.1
  have f4 := g.ok.f.2.2.2.1
  cases hi with
  | wall k hk =>
    have hk2 : k < h.cs.length := by have := g.fine.le; omega
    rw [planeV_wall hk]
    have hk1 := one_ok (c145w g.ok.f hk2) hk0
    refine bs.pv (sx := nos) hk1 Tryz.func165 (by kernel_rfl) (by kernel_rfl) rfl ?_
    generalize wlOf h.cs k = w at *
    repeat' (first | refine wk1 ?_ | (refine wk2 ?_ ?_ <;> intro _) | refine wk4 ?_ | fail); all_goals (conv => whnf)
    all_goals exact ret_of (by clear hk0 hk1; simp_all [plW]) rfl
  | floor =>
    rw [planeV_floor]
    refine bs.pv (sx := nos) hk0 Tryz.func165 (by kernel_rfl) (by kernel_rfl) rfl ?_
    repeat' (first | refine wk1 ?_ | (refine wk2 ?_ ?_ <;> intro _) | refine wk4 ?_ | fail); all_goals (conv => whnf)
    exact ret_of rfl rfl
  | ceil =>
    rw [planeV_ceil]
    refine bs.pv (sx := nos) hk0 Tryz.func165 (by kernel_rfl) (by kernel_rfl) rfl ?_
    repeat' (first | refine wk1 ?_ | (refine wk2 ?_ ?_ <;> intro _) | refine wk4 ?_ | fail); all_goals (conv => whnf)
    exact ret_of rfl rfl
  | can j hj =>
    rw [planeV_can]
    have hv : IntKind.i64.wrap (IntKind.i64.wrap ((h.ws.length : Int) + 2 + j - ((h.ws.length : Int) + 1)) - 1) = j := by rw [W_eq (n := (h.ws.length : Int) + 2 + j - ((h.ws.length : Int) + 1)) (by omega) (by omega), W_eq (by omega) (by omega)]; omega
    have hc := c192 g hj
    rw [← hv] at hc
    have hk1 := one_ok hc hk0
    refine bs.pv (sx := nos) hk1 Tryz.func165 (by kernel_rfl) (by kernel_rfl) rfl ?_
    repeat' (first | refine wk1 ?_ | (refine wk2 ?_ ?_ <;> intro _) | refine wk4 ?_ | fail); all_goals (conv => whnf)
    exact ret_of rfl rfl
set_option maxRecDepth 100000 in
set_option maxHeartbeats 8000000 in
theorem c59 {h : Hal} {s : Stg} (g : Sit h s) {i : Int} (hi : SK h i) : PCall Tryz.prog 23 [h.av, s.av, I i] ⟨P2 (planeV h s i).1 (planeV h s i).2, []⟩ := by
  have hk0 := one_ok (c89 g.ok.f hi) (kR5_ok g.ok.f)
  have f3 := g.ok.f.2.2.1
  have f4 := g.ok.f.2.2.2.1
  cases hi with
  | wall k hk =>
    have hk2 : k < h.cs.length := by have := g.fine.le; omega
    have e1 := lines_hit hk2
    rw [show kindV h k = (0, (k : Int)) by unfold kindV; rw [if_pos (by omega)]] at hk0
    rw [planeV_wall hk]
    rw [lnOf_eq] at e1
    refine bs.pv (sx := nos) hk0 Tryz.func23 (by kernel_rfl) (by kernel_rfl) rfl ?_
    generalize wlOf h.cs k = w at *
    have hp : plW w = if w.ln.dx = 0 then (0, w.ln.x) else if w.ln.dy = 0 then (1, w.ln.y) else if w.ln.dx = w.ln.dy then (4, IntKind.i64.wrap (w.ln.x - w.ln.y)) else (3, IntKind.i64.wrap (w.ln.x + w.ln.y)) := rfl
    rw [hp]
    repeat' (first | refine wk1 ?_ | (refine wk2 ?_ ?_ <;> intro _) | refine wk4 ?_ | fail); all_goals (conv => whnf)
    · rename_i h1; rw [if_pos (of_decide_eq_true h1)]; exact ret_of rfl rfl
    · rename_i h1 h2; rw [if_neg (of_decide_eq_false h1), if_pos (of_decide_eq_true h2)]; exact ret_of rfl rfl
    · rename_i h1 h2 h3; rw [if_neg (of_decide_eq_false h1), if_neg (of_decide_eq_false h2), if_pos (of_decide_eq_true h3)]; exact ret_of rfl rfl
    · rename_i h1 h2 h3; rw [if_neg (of_decide_eq_false h1), if_neg (of_decide_eq_false h2), if_neg (of_decide_eq_false h3)]; exact ret_of rfl rfl
  | floor =>
    rw [show kindV h h.ws.length = (1, 0) by unfold kindV; rw [if_neg (by omega), if_pos rfl]] at hk0
    rw [planeV_floor]
    refine bs.pv (sx := nos) hk0 Tryz.func23 (by kernel_rfl) (by kernel_rfl) rfl ?_
    repeat' (first | refine wk1 ?_ | (refine wk2 ?_ ?_ <;> intro _) | refine wk4 ?_ | fail); all_goals (conv => whnf)
    exact ret_of rfl rfl
  | ceil =>
    rw [show kindV h ((h.ws.length : Int) + 1) = (2, 0) by unfold kindV; rw [if_neg (by omega), if_neg (by omega), if_pos rfl]] at hk0
    rw [planeV_ceil]
    refine bs.pv (sx := nos) hk0 Tryz.func23 (by kernel_rfl) (by kernel_rfl) rfl ?_
    repeat' (first | refine wk1 ?_ | (refine wk2 ?_ ?_ <;> intro _) | refine wk4 ?_ | fail); all_goals (conv => whnf)
    exact ret_of rfl rfl
  | can j hj =>
    rw [show kindV h ((h.ws.length : Int) + 2 + j) = (3, (j : Int)) by unfold kindV; rw [if_neg (by omega), if_neg (by omega), if_neg (by omega)]; simp; omega] at hk0
    rw [planeV_can]
    have hk1 := one_ok (c108 g hj) hk0
    refine bs.pv (sx := nos) hk1 Tryz.func23 (by kernel_rfl) (by kernel_rfl) rfl ?_
    repeat' (first | refine wk1 ?_ | (refine wk2 ?_ ?_ <;> intro _) | refine wk4 ?_ | fail); all_goals (conv => whnf)
    exact ret_of rfl rfl
/-- The plane that the program answers. -/
def planeA (h : Hal) (s : Stg) (i : Int) : Int × Int := if surE h s i = 0 then planeV h s i else (0, 0)
set_option maxRecDepth 100000 in
set_option maxHeartbeats 8000000 in
theorem c54 {h : Hal} (hk : h.ok) {s : Stg} (hs : s.few) (i : Int) : PCall Tryz.prog 136 [h.av, s.av, I i] ⟨.tup [P2 (planeA h s i).1 (planeA h s i).2, I (surE h s i)], []⟩ := by
  have hk0 := one_ok (c109 hk hs i) pt0_ok
  by_cases he : surE h s i = 0
  · have e := surE_zero he
    have g := sit_of hk hs e.1
    have hk1 := one_ok (c112 g (sk_of e.2.1 e.2.2)) hk0
    have e2 : planeA h s i = planeV h s i := by unfold planeA; rw [if_pos he]
    rw [e2]
    rw [he] at hk1 ⊢
    refine bs.pv (sx := nos) hk1 Tryz.func136 (by kernel_rfl) (by kernel_rfl) rfl ?_
    repeat' (first | refine wk1 ?_ | (refine wk2 ?_ ?_ <;> intro _) | refine wk4 ?_ | fail); all_goals (conv => whnf)
    exact ret_of rfl rfl
  · have e2 : planeA h s i = (0, 0) := by unfold planeA; rw [if_neg he]
    rw [e2]
    refine bs.pv (sx := nos) hk0 Tryz.func136 (by kernel_rfl) (by kernel_rfl) rfl ?_
    repeat' (first | refine wk1 ?_ | (refine wk2 ?_ ?_ <;> intro _) | refine wk4 ?_ | fail); all_goals (conv => whnf)
    exact ret_of rfl rfl

/-! ### Materials -/
def idxN (n : Int) : Nat → List Int → Int
  | _, [] => -1
  | i, m :: l => if n = m then i else idxN n (i + 1) l
theorem idxN_has (n : Int) : ∀ (l : List Int) (i : Nat), decide (0 ≤ idxN n i l) = hasN l n
  | [], i => rfl
  | m :: l, i => by
    rw [idxN, hasN_cons]
    by_cases h : n = m
    · rw [if_pos h, decide_eq_true (show m = n from h.symm), decide_eq_true (by omega)]; rfl
    · rw [if_neg h, decide_eq_false (show ¬ m = n from fun e => h e.symm), Bool.false_or]; exact idxN_has n l _
def r178 (nm : ByteArray) : List AV → Option PRes
  | [.agg [.str a, .int .i64 x, .int .i64 y, .int .i64 z, .int .i64 u, .int .i64 v], .ipt [.str _]] => some ⟨Bo (a == nm), []⟩
  | _ => none
/-- The material of a name. -/
def mat0 : Mat := ⟨⟨#[]⟩, 0, 0, 0, 0, 0⟩
def matG (h : Hal) (nm : ByteArray) : Mat := (h.ms[(matIx nm 0 h.ms).toNat]?).getD mat0
theorem matIx_lt_len (s : ByteArray) : ∀ (l : List Mat) (i : Nat), matIx s i l < ((i + l.length : Nat) : Int)
  | [], i => by simp [matIx]; omega
  | m :: l, i => by
    rw [matIx]
    have := matIx_lt_len s l (i + 1)
    split
    · simp; omega
    · simp only [List.length_cons]; omega
theorem matG_get {h : Hal} {nm : ByteArray} (h0 : 0 ≤ matIx nm 0 h.ms) : (h.ms.map Mat.av)[(matIx nm 0 h.ms).toNat]? = some (matG h nm).av := by
  have h1 := matIx_lt_len nm h.ms 0
  have hi : (matIx nm 0 h.ms).toNat < h.ms.length := by omega
  unfold matG
  rw [List.getElem?_map, List.getElem?_eq_getElem hi]; rfl
def mName (h : Hal) (s : Stg) (i : Int) : ByteArray := if i < h.ws.length then (if hasN s.dr i then curt h i else ((h.ws[i.toNat]?).map Wal.mt).getD ⟨#[]⟩) else if i = h.ws.length then h.fl else if i = (h.ws.length : Int) + 1 then h.ce else (kat h i).mt
theorem ix_of_mem {h : Hal} {nm : ByteArray} (hm : ∃ m ∈ h.ms, m.nm = nm) : 0 ≤ matIx nm 0 h.ms := by
  have := mt (matIx_neg nm h.ms 0).1 (by simpa using hm)
  omega
theorem wal_names {h : Hal} (g : h.fine) {k : Nat} (hk : k < h.ws.length) : 0 ≤ matIx h.ws[k].mt 0 h.ms ∧ (h.ws[k].cu ≠ ⟨#[]⟩ → 0 ≤ matIx h.ws[k].cu 0 h.ms) := by
  have := g.wal k hk
  unfold wErrR at this
  split at this
  · split at this
    · cases this
    · split at this
      · cases this
      · split at this
        · cases this
        · rename_i hx
          simp only [Bool.or_eq_true, Bool.and_eq_true, decide_eq_true_eq, Bool.not_eq_true', beq_ba, decide_eq_false_iff_not, not_or, not_and] at hx
          exact ⟨by omega, fun hc => by have := hx.2 hc; omega⟩
  · cases this
theorem can_names {h : Hal} (g : h.fine) {k : Nat} (hk : k < h.ks.length) : 0 ≤ matIx h.ks[k].mt 0 h.ms := by
  have := g.can k hk
  unfold cErrR at this
  split at this
  · split at this
    · cases this
    · split at this
      · cases this
      · split at this
        · cases this
        · split at this
          · cases this
          · rename_i hx
            simp only [decide_eq_true_eq] at hx
            omega
  · cases this
theorem mName_ix {h : Hal} {s : Stg} (g : Sit h s) {i : Int} (hi : SK h i) : 0 ≤ matIx (mName h s i) 0 h.ms := by
  unfold mName
  cases hi with
  | wall k hk =>
    rw [if_pos (by omega), Int.toNat_natCast, List.getElem?_eq_getElem hk]
    have hc : curt h k = h.ws[k].cu := by unfold curt; rw [Int.toNat_natCast, List.getElem?_eq_getElem hk]
    split
    · rename_i hd
      have hd : ∃ d ∈ s.dr, d = (k : Int) := by unfold hasN at hd; rw [List.any_eq_true] at hd; simpa using hd
      obtain ⟨d, hd, rfl⟩ := hd
      rw [hc]
      exact (wal_names g.fine hk).2 (by rw [← hc]; exact (g.set.dr _ hd).2.2)
    · exact (wal_names g.fine hk).1
  | floor => rw [if_neg (by omega), if_pos rfl]; exact ix_of_mem g.fine.fl
  | ceil => rw [if_neg (by omega), if_neg (by omega), if_pos rfl]; exact ix_of_mem g.fine.ce
  | can j hj => rw [if_neg (by omega), if_neg (by omega), if_neg (by omega), kat_eq hj]; exact can_names g.fine hj
def matS (h : Hal) (s : Stg) (i : Int) : Mat := matG h (mName h s i)
end Go.Proofs.YtdaliaafmcjikaaGreat
namespace Go.Proofs.YtdaliaafmcjikaaGreat
open Go Go.Sx

theorem canV_low {h : Hal} {i : Int} (hi : i < (h.ws.length : Int) + 2) : canV h i = .agg canZ ∧ isK h i = false := by
  have e1 : isK h i = false := decide_eq_false (by omega)
  unfold canV; rw [e1]; exact ⟨rfl, rfl⟩
theorem canV_can {h : Hal} {j : Nat} (hj : j < h.ks.length) : canV h ((h.ws.length : Int) + 2 + j) = .agg (Can.av h.ks[j]) ∧ isK h ((h.ws.length : Int) + 2 + j) = true := by
  have e1 : isK h ((h.ws.length : Int) + 2 + j) = true := decide_eq_true (by omega)
  unfold canV; rw [e1, ← kat_eq hj]; exact ⟨rfl, rfl⟩
theorem mName_wall {h : Hal} {s : Stg} {k : Nat} (hk : k < h.ws.length) : mName h s k = if hasN s.dr k then h.ws[k].cu else h.ws[k].mt := by
  unfold mName
  rw [if_pos (by omega), Int.toNat_natCast, List.getElem?_eq_getElem hk]
  rw [show curt h k = h.ws[k].cu by unfold curt; rw [Int.toNat_natCast, List.getElem?_eq_getElem hk]]
  rfl
theorem mName_floor {h : Hal} {s : Stg} : mName h s h.ws.length = h.fl := by unfold mName; rw [if_neg (by omega), if_pos rfl]
theorem mName_ceil {h : Hal} {s : Stg} : mName h s ((h.ws.length : Int) + 1) = h.ce := by unfold mName; rw [if_neg (by omega), if_neg (by omega), if_pos rfl]
theorem mName_can {h : Hal} {s : Stg} {j : Nat} (hj : j < h.ks.length) : mName h s ((h.ws.length : Int) + 2 + j) = h.ks[j].mt := by
  unfold mName
  rw [if_neg (by omega), if_neg (by omega), if_neg (by omega), kat_eq hj]
def matA (h : Hal) (s : Stg) (i : Int) : Mat := if surE h s i = 0 then matS h s i else mat0
abbrev abs4 (m : Mat) : AV := .agg [I m.a, I m.b, I m.c, I m.d]
/-! ### HallMaterials -/
end Go.Proofs.YtdaliaafmcjikaaGreat
