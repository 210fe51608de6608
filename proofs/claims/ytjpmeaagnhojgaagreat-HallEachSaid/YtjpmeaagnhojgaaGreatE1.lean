/- A part of the proof: lemmas. -/
import Derived.Test.YtjpmeaagnhojgaaGreatLw10
set_option linter.unusedVariables false
set_option linter.unusedSimpArgs false
namespace Go.Proofs.YtjpmeaagnhojgaaGreat
open Go Go.Sx

/-! ### Plain law: numbers with digits of their ownS -/
/-- The digits of a number, and what is left; the last one changes first. -/
def dgs : List Int → Int → List Int × Int
  | [], n => ([], n)
  | r :: rs, n => ((dgs rs n).2 % r :: (dgs rs n).1, (dgs rs n).2 / r)
def prd : List Int → Int
  | [] => 1
  | r :: rs => r * prd rs
def valD : List Int → List Int → Int
  | r :: rs, d :: ds => d * prd rs + valD rs ds
  | _, _ => 0
def DgOk : List Int → List Int → Prop
  | [], [] => True
  | r :: rs, d :: ds => 0 ≤ d ∧ d < r ∧ DgOk rs ds
  | _, _ => False
/-- The order of lists. -/
def bef : List Int → List Int → Bool
  | x :: a, y :: b => if x = y then bef a b else decide (x < y)
  | [], _ :: _ => true
  | _, [] => false
theorem prd_pos : ∀ {rs : List Int}, (∀ r ∈ rs, 0 < r) → 0 < prd rs
  | [], _ => by simp [prd]
  | r :: rs, h => by
    have h1 := prd_pos (rs := rs) fun x hx => h x (by simp [hx])
    exact Int.mul_pos (h r (by simp)) h1
theorem prd_append : ∀ (a b : List Int), prd (a ++ b) = prd a * prd b
  | [], b => by simp [prd]
  | r :: a, b => by simp only [List.cons_append, prd]; rw [prd_append a b, Int.mul_assoc]
theorem dgOk_len : ∀ {rs ds : List Int}, DgOk rs ds → ds.length = rs.length
  | [], [], _ => rfl
  | r :: rs, d :: ds, h => by simp only [List.length_cons]; rw [dgOk_len h.2.2]
  | [], _ :: _, h => h.elim
  | _ :: _, [], h => h.elim
theorem valD_bd : ∀ {rs ds : List Int}, DgOk rs ds → 0 ≤ valD rs ds ∧ valD rs ds < prd rs
  | [], [], _ => by simp [valD, prd]
  | r :: rs, d :: ds, h => by
    obtain ⟨h1, h2, h3⟩ := h
    obtain ⟨g1, g2⟩ := valD_bd h3
    simp only [valD, prd]
    have hp : 0 ≤ prd rs := by omega
    have a1 : 0 ≤ d * prd rs := Int.mul_nonneg h1 hp
    have a2 : (d + 1) * prd rs ≤ r * prd rs := Int.mul_le_mul_of_nonneg_right (by omega) hp
    rw [Int.add_mul, Int.one_mul] at a2
    omega
  | [], _ :: _, h => h.elim
  | _ :: _, [], h => h.elim
theorem valD_lt {rs a b : List Int} {r x y : Int} (ha : DgOk rs a) (hb : DgOk rs b) (h : x < y) : x * prd rs + valD rs a < y * prd rs + valD rs b := by
  obtain ⟨a1, a2⟩ := valD_bd ha
  obtain ⟨b1, b2⟩ := valD_bd hb
  have a3 : (x + 1) * prd rs ≤ y * prd rs := Int.mul_le_mul_of_nonneg_right (by omega) (by omega)
  rw [Int.add_mul, Int.one_mul] at a3
  omega
theorem bef_iff : ∀ {rs a b : List Int}, DgOk rs a → DgOk rs b → (bef a b = true ↔ valD rs a < valD rs b)
  | [], [], [], _, _ => by simp [bef, valD]
  | r :: rs, x :: a, y :: b, ha, hb => by
    have ih := bef_iff ha.2.2 hb.2.2
    simp only [bef, valD]
    by_cases e : x = y
    · subst e
      rw [if_pos rfl, ih]
      omega
    · rw [if_neg e, decide_eq_true_eq]
      rcases Int.lt_or_gt_of_ne e with h | h
      · exact ⟨fun _ => valD_lt (r := r) ha.2.2 hb.2.2 h, fun _ => h⟩
      · have := valD_lt (r := r) hb.2.2 ha.2.2 h
        constructor <;> intro <;> omega
  | [], _ :: _, _, h, _ => h.elim
  | [], [], _ :: _, _, h => h.elim
  | _ :: _, [], _, h, _ => h.elim
  | _ :: _, _ :: _, [], _, h => h.elim
theorem valD_inj : ∀ {rs a b : List Int}, DgOk rs a → DgOk rs b → valD rs a = valD rs b → a = b
  | [], [], [], _, _, _ => rfl
  | r :: rs, x :: a, y :: b, ha, hb, h => by
    simp only [valD] at h
    by_cases e : x = y
    · subst e
      rw [valD_inj ha.2.2 hb.2.2 (by omega)]
    · exfalso
      rcases Int.lt_or_gt_of_ne e with g | g
      · have := valD_lt (r := r) ha.2.2 hb.2.2 g; omega
      · have := valD_lt (r := r) hb.2.2 ha.2.2 g; omega
  | [], _ :: _, _, h, _, _ => h.elim
  | [], [], _ :: _, _, h, _ => h.elim
  | _ :: _, [], _, h, _, _ => h.elim
  | _ :: _, _ :: _, [], _, h, _ => h.elim
theorem dgs_ok {n : Int} : ∀ {rs : List Int}, (∀ r ∈ rs, 0 < r) → DgOk rs (dgs rs n).1
  | [], _ => trivial
  | r :: rs, h => by
    have hr := h r (by simp)
    exact ⟨Int.emod_nonneg _ (by omega), Int.emod_lt_of_pos _ hr, dgs_ok fun x hx => h x (by simp [hx])⟩
theorem dgs_val {n : Int} : ∀ {rs : List Int}, (∀ r ∈ rs, 0 < r) → valD rs (dgs rs n).1 + (dgs rs n).2 * prd rs = n
  | [], _ => by simp [dgs, valD, prd]
  | r :: rs, h => by
    have ih := dgs_val (n := n) (rs := rs) fun x hx => h x (by simp [hx])
    simp only [dgs, valD, prd]
    have e := Int.mul_ediv_add_emod (dgs rs n).2 r
    generalize (dgs rs n).2 = m at *
    generalize valD rs (dgs rs n).1 = v at *
    have : m % r * prd rs + v + m / r * (r * prd rs) = v + (r * (m / r) + m % r) * prd rs := by
      rw [Int.add_mul, ← Int.mul_assoc, Int.mul_comm (m / r) r]; omega
    rw [this, e]
    exact ih
theorem dgs_le {n : Int} (hn : 0 ≤ n) : ∀ {rs : List Int}, (∀ r ∈ rs, 0 < r) → 0 ≤ (dgs rs n).2 ∧ (dgs rs n).2 ≤ n
  | [], _ => by simp only [dgs]; omega
  | r :: rs, h => by
    obtain ⟨h1, h2⟩ := dgs_le hn (rs := rs) fun x hx => h x (by simp [hx])
    have hr := h r (by simp)
    simp only [dgs]
    exact ⟨Int.ediv_nonneg h1 (by omega), Int.le_trans (Int.ediv_le_self _ h1) h2⟩
theorem dgs_rest {n : Int} {rs : List Int} (h : ∀ r ∈ rs, 0 < r) (h0 : 0 ≤ n) (h1 : n < prd rs) : (dgs rs n).2 = 0 := by
  have e := dgs_val (n := n) h
  obtain ⟨b1, b2⟩ := valD_bd (dgs_ok (n := n) h)
  have hp := prd_pos h
  obtain ⟨z, _⟩ := dgs_le h0 h
  generalize (dgs rs n).2 = m at *
  by_cases hm : m = 0
  · exact hm
  · exfalso
    have : 1 * prd rs ≤ m * prd rs := Int.mul_le_mul_of_nonneg_right (by omega) (by omega)
    omega
theorem dgs_append {n : Int} : ∀ (a b : List Int), dgs (a ++ b) n = ((dgs a (dgs b n).2).1 ++ (dgs b n).1, (dgs a (dgs b n).2).2)
  | [], b => rfl
  | r :: a, b => by simp only [List.cons_append, dgs]; rw [dgs_append a b]
theorem dgs_len {n : Int} : ∀ (rs : List Int), (dgs rs n).1.length = rs.length
  | [] => rfl
  | r :: rs => by simp only [dgs, List.length_cons]; rw [dgs_len rs]
theorem dgOk_append : ∀ {r1 r2 a b : List Int}, DgOk r1 a → DgOk r2 b → DgOk (r1 ++ r2) (a ++ b)
  | [], _, [], _, _, h => h
  | r :: r1, r2, x :: a, b, h1, h2 => ⟨h1.1, h1.2.1, dgOk_append h1.2.2 h2⟩
  | [], _, _ :: _, _, h, _ => h.elim
  | _ :: _, _, [], _, h, _ => h.elim

/-! ### Curtains -/
def noCu (w : Wal) : Bool := w.cu == ⟨#[]⟩
/-- The numbers of the walls that have curtains, from a number on. -/
def curG : Nat → List Wal → List Int
  | _, [] => []
  | i, w :: l => if noCu w then curG (i + 1) l else (i : Int) :: curG (i + 1) l
def wrad (l : List Wal) : List Int := l.map fun w => if noCu w then 1 else 2
def hrad (h : Hal) : List Int := h.ks.map fun c => (c.hs.length : Int)
/-- The drawn curtains of a number, and what is left. -/
def drW : Nat → List Wal → Int → List Int × Int
  | _, [], n => ([], n)
  | i, w :: l, n => if noCu w then drW (i + 1) l n else (if (drW (i + 1) l n).2 % 2 = 1 then (i : Int) :: (drW (i + 1) l n).1 else (drW (i + 1) l n).1, (drW (i + 1) l n).2 / 2)
/-- The same, of a list of curtains. -/
def drC : List Int → Int → List Int × Int
  | [], n => ([], n)
  | w :: l, n => (if (drC l n).2 % 2 = 1 then w :: (drC l n).1 else (drC l n).1, (drC l n).2 / 2)
theorem drC_eq {n : Int} : ∀ (l : List Wal) (i : Nat), drC (curG i l) n = drW i l n
  | [], _ => rfl
  | w :: l, i => by
    rw [curG, drW]
    cases noCu w with
    | true => exact drC_eq l (i + 1)
    | false => simp only [Bool.false_eq_true, if_false]; rw [drC, drC_eq l (i + 1)]
theorem wrad_pos {l : List Wal} : ∀ r ∈ wrad l, 0 < r := by
  intro r hr
  obtain ⟨w, _, rfl⟩ := List.mem_map.1 hr
  show 0 < if noCu w then (1 : Int) else 2
  split <;> omega
theorem drW_rest {n : Int} : ∀ (l : List Wal) (i : Nat), (drW i l n).2 = (dgs (wrad l) n).2
  | [], _ => rfl
  | w :: l, i => by
    rw [drW, show wrad (w :: l) = (if noCu w then 1 else 2) :: wrad l from rfl, dgs]
    have ih := drW_rest (n := n) l (i + 1)
    cases noCu w with
    | true => simp only [if_true]; rw [ih, Int.ediv_one]
    | false => simp only [Bool.false_eq_true, if_false]; rw [ih]
theorem drW_mem {n : Int} : ∀ (l : List Wal) (i : Nat), ∀ x ∈ (drW i l n).1, (i : Int) ≤ x ∧ x < i + l.length ∧ ∃ w, l[(x - i).toNat]? = some w ∧ noCu w = false
  | [], _, x, hx => by simp [drW] at hx
  | w :: l, i, x, hx => by
    have ih := drW_mem (n := n) l (i + 1)
    have later : x ∈ (drW (i + 1) l n).1 → (i : Int) ≤ x ∧ x < i + (w :: l).length ∧ ∃ v, (w :: l)[(x - i).toNat]? = some v ∧ noCu v = false := by
      intro h
      obtain ⟨h1, h2, v, h3, h4⟩ := ih x h
      refine ⟨by omega, by simp only [List.length_cons]; omega, v, ?_, h4⟩
      have : (x - i).toNat = (x - ((i + 1 : Nat) : Int)).toNat + 1 := by omega
      rw [this, List.getElem?_cons_succ]
      exact h3
    rw [drW] at hx
    cases hc : noCu w with
    | true => rw [hc, if_pos rfl] at hx; exact later hx
    | false =>
      rw [hc, if_neg (by decide)] at hx
      dsimp only at hx
      split at hx
      · rcases List.mem_cons.1 hx with rfl | hx
        · refine ⟨Int.le_refl _, by simp only [List.length_cons]; omega, w, ?_, hc⟩
          rw [show ((i : Int) - i).toNat = 0 by omega]; rfl
        · exact later hx
      · exact later hx
theorem drW_up {n : Int} : ∀ (l : List Wal) (i : Nat), (drW i l n).1.Pairwise (· < ·)
  | [], _ => .nil
  | w :: l, i => by
    have ih := drW_up (n := n) l (i + 1)
    rw [drW]
    split
    · exact ih
    · dsimp only
      split
      · refine List.pairwise_cons.2 ⟨fun x hx => ?_, ih⟩
        have := (drW_mem (n := n) l (i + 1) x hx).1
        omega
      · exact ih
def flags : Nat → List Wal → List Int → List Int
  | _, [], _ => []
  | i, _ :: l, d => (if d.contains (i : Int) then 1 else 0) :: flags (i + 1) l d
theorem flags_len (d : List Int) : ∀ (l : List Wal) (i : Nat), (flags i l d).length = l.length
  | [], _ => rfl
  | w :: l, i => by rw [flags, List.length_cons, flags_len d l, List.length_cons]
theorem flags_cons {a : Int} {d : List Int} : ∀ (l : List Wal) (i : Nat), a < i → flags i l (a :: d) = flags i l d
  | [], _, _ => rfl
  | w :: l, i, h => by
    rw [flags, flags, flags_cons l (i + 1) (by omega)]
    have : ((a :: d).contains (i : Int)) = d.contains (i : Int) := by
      rw [List.contains_cons]
      have : ((i : Int) == a) = false := by simp; omega
      rw [this, Bool.false_or]
    rw [this]
theorem contains_ge {d : List Int} {i : Int} (h : ∀ x ∈ d, i < x) : d.contains i = false := by
  rw [Bool.eq_false_iff]
  intro hc
  have := h i (by simpa using hc)
  omega
theorem drW_flags {n : Int} : ∀ (l : List Wal) (i : Nat), flags i l (drW i l n).1 = (dgs (wrad l) n).1
  | [], _ => rfl
  | w :: l, i => by
    have ih := drW_flags (n := n) l (i + 1)
    have hm : ∀ x ∈ (drW (i + 1) l n).1, (i : Int) < x := fun x hx => by have := (drW_mem (n := n) l (i + 1) x hx).1; omega
    have hr := drW_rest (n := n) l (i + 1)
    rw [flags, drW, show wrad (w :: l) = (if noCu w then 1 else 2) :: wrad l from rfl, dgs]
    cases noCu w with
    | true =>
      simp only [if_true]
      rw [ih, contains_ge hm]
      simp [Int.emod_one]
    | false =>
      simp only [Bool.false_eq_true, if_false]
      rw [← hr]
      by_cases h1 : (drW (i + 1) l n).2 % 2 = 1
      · rw [if_pos h1, flags_cons l (i + 1) (by omega), ih, List.contains_cons, beq_self_eq_true, Bool.true_or, if_pos rfl, h1]
      · rw [if_neg h1, ih, contains_ge hm]
        have : (drW (i + 1) l n).2 % 2 = 0 := by omega
        rw [this]; rfl

/-! ### Settings and their numbers -/
def nset (h : Hal) : Int := prd (hrad h) * prd (wrad h.ws)
def setD (h : Hal) (n : Int) : Stg := ⟨(dgs (hrad h) (drW 0 h.ws n).2).1, (drW 0 h.ws n).1⟩
def ownS (h : Hal) (s : Stg) : List Int := s.hs ++ flags 0 h.ws s.dr
abbrev rads (h : Hal) : List Int := hrad h ++ wrad h.ws
theorem own_setD (h : Hal) (n : Int) : ownS h (setD h n) = (dgs (rads h) n).1 := by
  unfold ownS setD
  rw [drW_flags, drW_rest, dgs_append]
theorem prd_rads (h : Hal) : prd (rads h) = nset h := prd_append _ _
theorem flags_ok {d : List Int} : ∀ (l : List Wal) (i : Nat), (∀ x ∈ d, (i : Int) ≤ x → ∃ w, l[(x - i).toNat]? = some w ∧ noCu w = false) → DgOk (wrad l) (flags i l d)
  | [], _, _ => trivial
  | w :: l, i, h => by
    have ih : DgOk (wrad l) (flags (i + 1) l d) := flags_ok l (i + 1) fun x hx hle => by
      obtain ⟨v, h1, h2⟩ := h x hx (by omega)
      refine ⟨v, ?_, h2⟩
      have : (x - i).toNat = (x - ((i + 1 : Nat) : Int)).toNat + 1 := by omega
      rw [this, List.getElem?_cons_succ] at h1
      exact h1
    show DgOk ((if noCu w then 1 else 2) :: wrad l) ((if d.contains (i : Int) then 1 else 0) :: flags (i + 1) l d)
    refine ⟨by split <;> omega, ?_, ih⟩
    by_cases hc : d.contains (i : Int) = true
    · rw [if_pos hc]
      obtain ⟨v, h1, h2⟩ := h i (by simpa using hc) (Int.le_refl _)
      rw [show ((i : Int) - i).toNat = 0 by omega] at h1
      cases h1
      rw [h2]; decide
    · rw [if_neg hc]; split <;> omega
theorem flags_mem {d : List Int} : ∀ (l : List Wal) (i : Nat) (e : List Int), flags i l d = flags i l e → ∀ x : Int, (i : Int) ≤ x → x < i + l.length → (x ∈ d ↔ x ∈ e)
  | [], i, e, _, x, h1, h2 => by simp at h2; omega
  | w :: l, i, e, h, x, h1, h2 => by
    rw [flags, flags] at h
    obtain ⟨g1, g2⟩ := List.cons.inj h
    by_cases hx : x = i
    · subst hx
      have a1 : (d.contains (i : Int) = true) ↔ (i : Int) ∈ d := by simp
      have a2 : (e.contains (i : Int) = true) ↔ (i : Int) ∈ e := by simp
      rw [← a1, ← a2]
      split at g1 <;> split at g1 <;> simp_all
    · exact flags_mem l (i + 1) e g2 x (by omega) (by simp only [List.length_cons] at h2; omega)
theorem up_ext : ∀ {a b : List Int}, a.Pairwise (· < ·) → b.Pairwise (· < ·) → (∀ x, x ∈ a ↔ x ∈ b) → a = b
  | [], [], _, _, _ => rfl
  | [], y :: b, _, _, h => by have := (h y).2 (by simp); simp at this
  | x :: a, [], _, _, h => by have := (h x).1 (by simp); simp at this
  | x :: a, y :: b, ha, hb, h => by
    obtain ⟨a1, a2⟩ := List.pairwise_cons.1 ha
    obtain ⟨b1, b2⟩ := List.pairwise_cons.1 hb
    have hxy : x = y := by
      have h1 := (h x).1 (by simp)
      have h2 := (h y).2 (by simp)
      rcases List.mem_cons.1 h1 with e | h1
      · exact e
      · rcases List.mem_cons.1 h2 with e | h2
        · exact e.symm
        · have := a1 y h2; have := b1 x h1; omega
    subst hxy
    rw [up_ext a2 b2]
    intro z
    constructor
    · intro hz
      have := (h z).1 (by simp [hz])
      rcases List.mem_cons.1 this with e | g
      · have := a1 z hz; omega
      · exact g
    · intro hz
      have := (h z).2 (by simp [hz])
      rcases List.mem_cons.1 this with e | g
      · have := b1 z hz; omega
      · exact g
end Go.Proofs.YtjpmeaagnhojgaaGreat
