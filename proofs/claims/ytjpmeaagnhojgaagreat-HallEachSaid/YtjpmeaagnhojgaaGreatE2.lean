/- A part of the proof: lemmas. -/
import Derived.Test.YtjpmeaagnhojgaaGreatE1
set_option linter.unusedVariables false
set_option linter.unusedSimpArgs false
namespace Go.Proofs.YtjpmeaagnhojgaaGreat
open Go Go.Sx

/-! ### Plain law: right settings and their numbers -/
theorem dgOk_get : ∀ {rs ds : List Int}, DgOk rs ds → ∀ j (h1 : j < rs.length) (h2 : j < ds.length), 0 ≤ ds[j] ∧ ds[j] < rs[j]
  | r :: rs, d :: ds, h, 0, _, _ => ⟨h.1, h.2.1⟩
  | r :: rs, d :: ds, h, j + 1, h1, h2 => by
    simp only [List.getElem_cons_succ]
    exact dgOk_get h.2.2 j (by simpa using h1) (by simpa using h2)
  | [], [], _, j, h1, _ => by simp at h1
  | [], _ :: _, h, _, _, _ => h.elim
  | _ :: _, [], h, _, _, _ => h.elim
theorem dgOk_of : ∀ {rs ds : List Int}, ds.length = rs.length → (∀ j (h1 : j < rs.length) (h2 : j < ds.length), 0 ≤ ds[j] ∧ ds[j] < rs[j]) → DgOk rs ds
  | [], [], _, _ => trivial
  | r :: rs, d :: ds, hl, h => by
    have h0 := h 0 (by simp) (by simp)
    refine ⟨h0.1, h0.2, dgOk_of (by simpa using hl) fun j h1 h2 => ?_⟩
    have := h (j + 1) (by simpa using h1) (by simpa using h2)
    simpa using this
  | [], _ :: _, hl, _ => by simp at hl
  | _ :: _, [], hl, _ => by simp at hl
theorem noCu_iff {w : Wal} : noCu w = false ↔ w.cu ≠ ⟨#[]⟩ := by
  unfold noCu
  rw [beq_ba, decide_eq_false_iff_not]
theorem hrad_pos {h : Hal} (g : ∀ c ∈ h.ks, 0 < c.hs.length) : ∀ r ∈ hrad h, 0 < r := by
  intro r hr
  obtain ⟨c, hc, rfl⟩ := List.mem_map.1 hr
  have := g c hc
  show (0 : Int) < (c.hs.length : Int)
  omega
theorem rads_pos {h : Hal} (g : ∀ c ∈ h.ks, 0 < c.hs.length) : ∀ r ∈ rads h, 0 < r := by
  intro r hr
  rcases List.mem_append.1 hr with hr | hr
  · exact hrad_pos g r hr
  · exact wrad_pos r hr
theorem setD_ok {h : Hal} (g : ∀ c ∈ h.ks, 0 < c.hs.length) (n : Int) : SetOk h (setD h n) := by
  have hl : (setD h n).hs.length = h.ks.length := by
    unfold setD hrad
    rw [dgs_len, List.length_map]
  refine ⟨hl, fun j h1 h2 => ?_, fun d hd => ?_, drW_up _ _⟩
  · have := dgOk_get (dgs_ok (n := (drW 0 h.ws n).2) (hrad_pos g)) j (by unfold hrad; rw [List.length_map]; exact h1) h2
    unfold hrad at this
    rw [List.getElem_map] at this
    exact this
  · obtain ⟨h1, h2, w, h3, h4⟩ := drW_mem h.ws 0 d hd
    have e : (d - ((0 : Nat) : Int)).toNat = d.toNat := by omega
    rw [e] at h3
    refine ⟨by omega, by omega, ?_⟩
    unfold curt
    rw [h3]
    exact noCu_iff.1 h4
theorem own_ok {h : Hal} {s : Stg} (hs : SetOk h s) : DgOk (rads h) (ownS h s) := by
  refine dgOk_append (dgOk_of ?_ fun j h1 h2 => ?_) (flags_ok h.ws 0 fun x hx _ => ?_)
  · unfold hrad; rw [List.length_map]; exact hs.len
  · have := hs.hs j (by unfold hrad at h1; rw [List.length_map] at h1; exact h1) h2
    have e : (hrad h)[j]'h1 = (h.ks[j]'(by unfold hrad at h1; rw [List.length_map] at h1; exact h1)).hs.length := by simp [hrad]
    rw [e]
    exact this
  · obtain ⟨h1, h2, h3⟩ := hs.dr x hx
    have hi : x.toNat < h.ws.length := by omega
    have e : (x - ((0 : Nat) : Int)).toNat = x.toNat := by omega
    refine ⟨h.ws[x.toNat], by rw [e, List.getElem?_eq_getElem hi], ?_⟩
    rw [noCu_iff]
    unfold curt at h3
    rw [List.getElem?_eq_getElem hi] at h3
    exact h3
theorem own_inj {h : Hal} {s t : Stg} (hs : SetOk h s) (ht : SetOk h t) (e : ownS h s = ownS h t) : s = t := by
  unfold ownS at e
  obtain ⟨e1, e2⟩ := List.append_inj e (by rw [hs.len, ht.len])
  have e3 : s.dr = t.dr := up_ext hs.up ht.up fun x => by
    constructor
    · intro hx
      obtain ⟨h1, h2, _⟩ := hs.dr x hx
      exact (flags_mem h.ws 0 t.dr e2 x (by omega) (by omega)).1 hx
    · intro hx
      obtain ⟨h1, h2, _⟩ := ht.dr x hx
      exact (flags_mem h.ws 0 t.dr e2 x (by omega) (by omega)).2 hx
  cases s; cases t
  simp only at e1 e3
  rw [e1, e3]
theorem own_val {h : Hal} (g : ∀ c ∈ h.ks, 0 < c.hs.length) {n : Int} (h0 : 0 ≤ n) (h1 : n < nset h) : valD (rads h) (ownS h (setD h n)) = n := by
  have e := dgs_val (n := n) (rads_pos g)
  rw [dgs_rest (rads_pos g) h0 (by rw [prd_rads]; exact h1)] at e
  rw [own_setD]
  omega
/-- The number of a right setting. -/
def numS (h : Hal) (s : Stg) : Int := valD (rads h) (ownS h s)
theorem numS_bd {h : Hal} {s : Stg} (hs : SetOk h s) : 0 ≤ numS h s ∧ numS h s < nset h := by
  have := valD_bd (own_ok hs)
  rw [prd_rads] at this
  exact this
theorem setD_iff {h : Hal} (g : ∀ c ∈ h.ks, 0 < c.hs.length) {s : Stg} (hs : SetOk h s) {n : Int} (h0 : 0 ≤ n) (h1 : n < nset h) : setD h n = s ↔ n = numS h s := by
  constructor
  · rintro rfl
    exact (own_val g h0 h1).symm
  · intro e
    refine own_inj (setD_ok g n) hs (valD_inj (own_ok (setD_ok g n)) (own_ok hs) ?_)
    rw [own_val g h0 h1]
    exact e
theorem bef_next {h : Hal} (g : ∀ c ∈ h.ks, 0 < c.hs.length) {n : Int} (h0 : 0 ≤ n) (h1 : n + 1 < nset h) : bef (ownS h (setD h n)) (ownS h (setD h (n + 1))) = true := by
  rw [bef_iff (own_ok (setD_ok g n)) (own_ok (setD_ok g (n + 1))), own_val g h0 (by omega), own_val g (by omega) h1]
  omega
theorem hgE_of {h : Hal} (hf : h.few) : ∀ (l : List Int) (i : Nat), i + l.length = h.ks.length → (∀ j (h1 : i + j < h.ks.length) (h2 : j < l.length), 0 ≤ l[j] ∧ l[j] < h.ks[i + j].hs.length) → hgE h i l = 0
  | [], _, _, _ => rfl
  | n :: l, i, hl, g => by
    simp only [List.length_cons] at hl
    have hk : i < h.ks.length := by omega
    have h0 := g 0 (by omega) (by simp)
    have hlen := hf.2.2.2.2.2 _ (List.getElem_mem hk)
    simp only [Nat.add_zero, List.getElem_cons_zero] at h0
    have hw : within n 0 (IntKind.i64.wrap (kLen h i - 1)) = true := by
      rw [show kLen h i = (h.ks[i].hs.length : Int) by unfold kLen; rw [List.getElem?_eq_getElem hk], W_eq (by omega) (by omega), within_iff]
      omega
    rw [hgE, if_pos hw]
    refine hgE_of hf l (i + 1) (by omega) fun j h1 h2 => ?_
    have := g (j + 1) (by omega) (by simpa using h2)
    have e : i + (j + 1) = i + 1 + j := by omega
    simp only [e, List.getElem_cons_succ] at this
    exact this
theorem drE_of {h : Hal} (hf : h.few) : ∀ (l : List Int) (p : Option Int), (∀ d ∈ l, 0 ≤ d ∧ d < h.ws.length ∧ curt h d ≠ ⟨#[]⟩) → l.Pairwise (· < ·) → (∀ q, p = some q → ∀ d ∈ l, q < d) → drE h p l = 0
  | [], _, _, _, _ => rfl
  | n :: l, p, g, hp, hq => by
    obtain ⟨g1, g2, g3⟩ := g n (by simp)
    obtain ⟨p1, p2⟩ := List.pairwise_cons.1 hp
    have hl := hf.2.2.1
    have ho : drOk h n = true := by
      unfold drOk
      rw [Bool.and_eq_true, W_eq (by omega) (by omega), within_iff, Bool.not_eq_true', beq_ba, decide_eq_false_iff_not]
      exact ⟨by omega, g3⟩
    have hn : notUp p n = false := by
      cases p with
      | none => rfl
      | some q =>
        have := hq q rfl n (by simp)
        show decide (n ≤ q) = false
        exact decide_eq_false (by omega)
    rw [drE, if_pos ho, hn, if_neg (by decide)]
    refine drE_of hf l (some n) (fun d hd => g d (by simp [hd])) p2 fun q hq' d hd => ?_
    cases hq'
    exact p1 d hd
theorem setE_of {h : Hal} (hf : h.few) {s : Stg} (hs : SetOk h s) : setE h s = 0 := by
  unfold setE
  have hg : hgE h 0 s.hs = 0 := hgE_of hf s.hs 0 (by rw [hs.len]; omega) fun j h1 h2 => by
    have := hs.hs j (by omega) h2
    simpa using this
  rw [if_pos (by rw [hs.len]), if_pos hg]
  exact drE_of hf s.dr none hs.dr hs.up (by simp)

/-! ### How many there are -/
theorem prd_le {k : Int} (hk : 0 ≤ k) : ∀ {rs : List Int}, (∀ r ∈ rs, 0 < r ∧ r ≤ k) → prd rs ≤ k ^ rs.length
  | [], _ => by simp [prd]
  | r :: rs, h => by
    have ih := prd_le hk (rs := rs) fun x hx => h x (by simp [hx])
    have hp := prd_pos (rs := rs) fun x hx => (h x (by simp [hx])).1
    obtain ⟨h1, h2⟩ := h r (by simp)
    rw [prd, List.length_cons, Int.pow_succ, Int.mul_comm]
    exact Int.mul_le_mul ih h2 (by omega) (Int.le_trans (by omega) ih)
theorem prd_take {rs : List Int} {i : Nat} (hi : i < rs.length) : prd (rs.take (i + 1)) = prd (rs.take i) * rs[i] := by
  rw [List.take_succ_eq_append_getElem hi, prd_append]
  simp [prd]
theorem prd_wrad : ∀ (l : List Wal) (i : Nat), prd (wrad l) = 2 ^ (curG i l).length
  | [], _ => rfl
  | w :: l, i => by
    rw [show wrad (w :: l) = (if noCu w then 1 else 2) :: wrad l from rfl, prd, curG, prd_wrad l (i + 1)]
    cases noCu w with
    | true => simp
    | false => simp [Int.pow_succ, Int.mul_comm]
theorem curG_len : ∀ (l : List Wal) (i : Nat), (curG i l).length ≤ l.length
  | [], _ => by simp [curG]
  | w :: l, i => by
    rw [curG]
    have := curG_len l (i + 1)
    split <;> simp <;> omega
end Go.Proofs.YtjpmeaagnhojgaaGreat
