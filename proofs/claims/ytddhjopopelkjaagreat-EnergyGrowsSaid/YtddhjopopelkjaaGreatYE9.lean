/- A part of the proof: lemmas. -/
import Derived.Test.YtddhjopopelkjaaGreatLw8
set_option linter.unusedVariables false
set_option linter.unusedSimpArgs false
namespace Go.Proofs.YtddhjopopelkjaaGreat
open Go Go.Sx Go.En
/-! ### The machine's sums of right echoes are the sums -/
abbrev Rgt (l : List Ech) : Prop := ∀ x ∈ l, x.ok ∧ x.dh ≤ 10000000 ∧ x.eh ≤ 1000000000000
theorem upF_eq (t : Int) : ∀ {l : List Ech} {a b : Int}, Rgt l → 0 ≤ a → 0 ≤ b → a + 1000000000000 * (l.length : Int) ≤ 4000000000000000000 → b + 1000000000000 * (l.length : Int) ≤ 4000000000000000000 → upF t a b l = (a + upLo t l, b + upHi t l)
  | [], a, b, _, _, _, _, _ => by simp [upF, upLo, upHi]
  | x :: l, a, b, h, ha, hb, ha2, hb2 => by
    obtain ⟨h1, h2, h3⟩ := h x (by simp)
    have h4 := h1.e
    rw [List.length_cons] at ha2 hb2
    have wa : IntKind.i64.wrap (a + x.el) = a + x.el := W_eq (by omega) (by omega)
    have wb : IntKind.i64.wrap (b + x.eh) = b + x.eh := W_eq (by omega) (by omega)
    have ih := fun (a b : Int) => upF_eq t (l := l) (a := a) (b := b) fun y hy => h y (by simp [hy])
    rw [upF, wa, wb, upLo, upHi]
    by_cases z1 : x.dh ≤ t <;> by_cases z2 : x.dl ≤ t <;> simp only [z1, z2, if_true, if_false]
    all_goals
      rw [ih _ _ (by omega) (by omega) (by omega) (by omega)]
      simp only [Prod.mk.injEq]; omega
theorem ownF_eq (w d : Int) (hd : 0 ≤ d ∧ d ≤ 10000000) : ∀ {l : List Ech} {n e : Int}, Rgt l → 0 ≤ n → 0 ≤ e → n + 1000000000000 * (l.length : Int) ≤ 4000000000000000000 → e + 1000000000000 * (l.length : Int) ≤ 4000000000000000000 → ownF w d n e l = (n + ownN w d l, e + ownE w d l)
  | [], n, e, _, _, _, _, _ => by simp [ownF, ownN, ownE]
  | x :: l, n, e, h, ha, hb, ha2, hb2 => by
    obtain ⟨h1, h2, h3⟩ := h x (by simp)
    have h4 := h1.e
    have h5 := h1.d
    rw [List.length_cons] at ha2 hb2
    have wa : IntKind.i64.wrap (x.dh - d) = x.dh - d := W_eq (by omega) (by omega)
    have wb : IntKind.i64.wrap (n + 1) = n + 1 := W_eq (by omega) (by omega)
    have wc : IntKind.i64.wrap (e + x.el) = e + x.el := W_eq (by omega) (by omega)
    have ih := fun (a b : Int) => ownF_eq w d hd (l := l) (n := a) (e := b) fun y hy => h y (by simp [hy])
    rw [ownF, wa, wb, wc, ownN, ownE]
    by_cases z1 : x.dh - d ≤ w <;> simp only [z1, if_true, if_false]
    all_goals
      rw [ih _ _ (by omega) (by omega) (by omega) (by omega)]
      simp only [Prod.mk.injEq]; omega
theorem bstF_eq (w : Int) : ∀ {l : List Ech} {i : Nat} {b : Int × Int × Int}, Rgt l → l.length ≤ 4000000 → bstF w i b l = bestG w i l b
  | [], _, _, _, _ => rfl
  | x :: l, i, b, h, hl => by
    obtain ⟨h1, h2, h3⟩ := h x (by simp)
    have h5 := h1.d
    rw [bstF, bestG, ownF_eq w x.dl (by omega) h (by omega) (by omega) (by omega) (by omega), Int.zero_add, Int.zero_add, bstF_eq w (fun y hy => h y (by simp [hy])) (by rw [List.length_cons] at hl; omega)]
    rfl
/-- The machine's sums of all energies. -/
def smF : Int → Int → List Ech → Int × Int
  | a, b, [] => (a, b)
  | a, b, x :: l => smF (IntKind.i64.wrap (a + x.el)) (IntKind.i64.wrap (b + x.eh)) l
theorem smF_eq : ∀ {l : List Ech} {a b : Int}, Rgt l → 0 ≤ a → 0 ≤ b → a + 1000000000000 * (l.length : Int) ≤ 4000000000000000000 → b + 1000000000000 * (l.length : Int) ≤ 4000000000000000000 → smF a b l = (a + sumLo l, b + sumHi l)
  | [], a, b, _, _, _, _, _ => by simp [smF, sumLo, sumHi]
  | x :: l, a, b, h, ha, hb, ha2, hb2 => by
    obtain ⟨h1, h2, h3⟩ := h x (by simp)
    have h4 := h1.e
    rw [List.length_cons] at ha2 hb2
    have wa : IntKind.i64.wrap (a + x.el) = a + x.el := W_eq (by omega) (by omega)
    have wb : IntKind.i64.wrap (b + x.eh) = b + x.eh := W_eq (by omega) (by omega)
    rw [smF, wa, wb, sumLo, sumHi, smF_eq (fun y hy => h y (by simp [hy])) (by omega) (by omega) (by omega) (by omega)]
    simp only [Prod.mk.injEq]; omega
/-- What grows, of right echoes. -/
structure Grw (a b c s : Int × Int) (p q : Int × Int × Int) : Prop where
  h1 : a.1 ≤ b.1
  h2 : a.2 ≤ b.2
  h3 : b.1 ≤ b.2
  h4 : c = s
  h5 : p.2.2 ≤ q.2.2
  h6 : q.2.2 ≤ s.1
theorem grows {l : List Ech} (h : (ecV l).2 = 0) {x y : Int} (hxy : x ≤ y) : Grw (upF x 0 0 l) (upF y 0 0 l) (upF 10000000 0 0 l) (smF 0 0 l) (bstF x 0 (0, 0, -1) l) (bstF y 0 (0, 0, -1) l) := by
  obtain ⟨hl, hr⟩ := ecV_zero h
  have ho : ∀ z ∈ l, z.ok := fun z hz => (hr z hz).1
  rw [upF_eq x hr (by omega) (by omega) (by omega) (by omega), upF_eq y hr (by omega) (by omega) (by omega) (by omega), upF_eq 10000000 hr (by omega) (by omega) (by omega) (by omega), smF_eq hr (by omega) (by omega) (by omega) (by omega), bstF_eq x hr (by omega), bstF_eq y hr (by omega)]
  simp only [Int.zero_add]
  refine ⟨upLo_mono hxy ho, upHi_mono hxy ho, upLo_le ho, ?_, bestG_mono hxy ho (Int.le_refl _), bestG_le ho (Int.le_refl _) ?_⟩
  · rw [upLo_all fun z hz => (hr z hz).2.1, upHi_all fun z hz => by have := (hr z hz).1.d; have := (hr z hz).2.1; omega]
  · have := sumLo_nn ho
    show (-1 : Int) ≤ _
    omega
end Go.Proofs.YtddhjopopelkjaaGreat
