/- A part of the proof: lemmas. -/
import Derived.Test.YtdaliaafmcjikaaGreatZx6
set_option linter.unusedVariables false
set_option linter.unusedSimpArgs false
namespace Go.Sx
open Go Go.RowKit

variable {r r' : Locs} {I I' I2 : Imm} {w w' : World} {P : Program}

mutual
def Frk (bl : List (Nat × List (List AV))) : AV → AV → Prop
  | .asl id idx len, .isl es els => (bl[id]? = some (es, els) ∧ id ≠ 0) ∧ idx = 0 ∧ len = els.length
  | .asl id idx len, .asl id' idx' len' => id = 0 ∧ id' = 0 ∧ idx = idx' ∧ len = len'
  | .nils, .isl _ els => els = []
  | .agg cs, .agg ds => FrkL bl cs ds
  | .tup cs, .tup ds => FrkL bl cs ds
  | v, v' => v = v' ∧ pureAV v = true
def FrkL (bl : List (Nat × List (List AV))) : List AV → List AV → Prop
  | [], [] => True
  | c :: cs, d :: ds => Frk bl c d ∧ FrkL bl cs ds
  | _, _ => False
end
theorem FrkL.get {bl : List (Nat × List (List AV))} : ∀ {cs ds : List AV}, FrkL bl cs ds → cs.length = ds.length ∧ ∀ (i : Nat) (d : AV), ds[i]? = some d → ∃ c, cs[i]? = some c ∧ Frk bl c d
  | [], [], _ => ⟨rfl, fun i d h => by simp at h⟩
  | c :: cs, d :: ds, h => by
    simp only [FrkL] at h
    obtain ⟨h1, h2⟩ := FrkL.get h.2
    refine ⟨by simp [h1], fun i d' hi => ?_⟩
    cases i with
    | zero => simp at hi; subst hi; exact ⟨c, rfl, h.1⟩
    | succ i => simpa using h2 i d' (by simpa using hi)
  | [], _ :: _, h => by simp [FrkL] at h
  | _ :: _, [], h => by simp [FrkL] at h

theorem frk_vr {bl : List (Nat × List (List AV))} {D D0 : Nat → Prop} (h00 : D0 0) (hst : ∀ b o, I' b o → I2 b o)
    (hrow : ∀ (j es : Nat) (els : List (List AV)), bl[j]? = some (es, els) ∧ j ≠ 0 → ∀ (x : Value), VR r' I' w' D (.asl j 0 els.length) x → VR r' I2 w' D0 (.isl es els) x) {v : AV} {x : Value} (hv : VR r' I' w' D v x) : ∀ v', Frk bl v v' → VR r' I2 w' D0 v' x := by
  have pure : ∀ {v : AV} {x : Value}, VR r' I' w' D v x → ∀ v', (v = v' ∧ pureAV v = true) → VR r' I2 w' D0 v' x := by
    rintro v x hv v' ⟨rfl, hp⟩
    exact (hv.pure hp).mono ⟨fun _ h => h.elim, fun b o h => ⟨hst b o h, rfl⟩, Nat.le_refl _⟩
  induction hv with
  | agg D cs vs h0 g ih =>
    intro v' h
    cases v' with
    | agg ds =>
      simp only [Frk] at h
      obtain ⟨h1, h2⟩ := FrkL.get h
      refine .agg _ _ _ (h0.trans h1) fun i c v hc hx => ?_
      obtain ⟨c', hc', hf⟩ := h2 i c hc
      exact ih i c' v hc' hx hrow pure _ hf
    | _ => simp [Frk] at h
  | tup D cs vs h0 g ih =>
    intro v' h
    cases v' with
    | tup ds =>
      simp only [Frk] at h
      obtain ⟨h1, h2⟩ := FrkL.get h
      refine .tup _ _ _ (h0.trans h1) fun i c v hc hx => ?_
      obtain ⟨c', hc', hf⟩ := h2 i c hc
      exact ih i c' v hc' hx hrow pure _ hf
    | _ => simp [Frk] at h
  | asl D id idx len hd hc =>
    intro v' h
    have hv : VR r' I' w' D (.asl id idx len) _ := .asl D id idx len hd hc
    cases v' with
    | isl es els =>
      simp only [Frk] at h
      obtain ⟨h1, rfl, rfl⟩ := h
      exact hrow _ _ _ h1 _ hv
    | asl id' idx' len' =>
      simp only [Frk] at h
      obtain ⟨rfl, rfl, rfl, rfl⟩ := h
      exact .asl _ _ _ _ h00 hc
    | _ => exact pure hv _ (by simpa only [Frk] using h)
  | any D v => intro v' h; exact pure (.any D v) v' (by cases v' <;> simpa only [Frk] using h)
  | bool D b => intro v' h; exact pure (.bool D b) v' (by cases v' <;> simpa only [Frk] using h)
  | int D k n => intro v' h; exact pure (.int D k n) v' (by cases v' <;> simpa only [Frk] using h)
  | flt D k n => intro v' h; exact pure (.flt D k n) v' (by cases v' <;> simpa only [Frk] using h)
  | cpx D k n m => intro v' h; exact pure (.cpx D k n m) v' (by cases v' <;> simpa only [Frk] using h)
  | val D a n c => intro v' h; exact pure (.val D a n c) v' (by cases v' <;> simpa only [Frk] using h)
  | str D s => intro v' h; exact pure (.str D s) v' (by cases v' <;> simpa only [Frk] using h)
  | ptr D id idx sub hd => intro v' h; exact pure (.ptr D id idx sub hd) v' (by cases v' <;> simpa only [Frk] using h)
  | ipt D cells b o val h1 h2 ih => intro v' h; exact pure (.ipt D cells b o val h1 h2) v' (by cases v' <;> simpa only [Frk] using h)
  | nilp D => intro v' h; exact pure (.nilp D) v' (by cases v' <;> simpa only [Frk] using h)
  | nils D =>
    intro v' h
    cases v' with
    | isl es els =>
      simp only [Frk] at h
      subst h
      exact .isl0 _ _ _ _
    | _ => exact pure (.nils D) _ (by simpa only [Frk] using h)
  | bsl D id idx sub len cap hd => intro v' h; exact pure (.bsl D id idx sub len cap hd) v' (by cases v' <;> simpa only [Frk] using h)
  | isl0 D es a cap => intro v' h; exact pure (.isl0 D es a cap) v' (by cases v' <;> simpa only [Frk] using h)
  | isl D es elems b o cap val hl h0 h1 h2 ih => intro v' h; exact pure (.isl D es elems b o cap val hl h0 h1 h2) v' (by cases v' <;> simpa only [Frk] using h)
  | amap D id hd => intro v' h; exact pure (.amap D id hd) v' (by cases v' <;> simpa only [Frk] using h)
  | func D f c0 c1 v0 v1 h0 h1 g0 g1 ih0 ih1 => intro v' h; exact pure (.func D f c0 c1 v0 v1 h0 h1 g0 g1) v' (by cases v' <;> simpa only [Frk] using h)
  | yld D l => intro v' h; exact pure (.yld D l) v' (by cases v' <;> simpa only [Frk] using h)

/-- All that a function hands back may be taken as trees that stay, but for its first row. -/
theorem PCall.freezeK {f : FuncId} {args : List AV} {v v' : AV} {p0 : Nat × List (List AV)} {bl : List (Nat × List (List AV))} (h : PCall P f args ⟨v, p0 :: bl⟩) (hz : Frk (p0 :: bl) v v') : PCall P f args ⟨v', [p0]⟩ := by
  refine ⟨h.1, fun I w vs hI hv => (h.2 I w vs hI hv).mono fun e w' hh => ?_⟩
  obtain ⟨x, r', I', rfl, hp⟩ := hh
  let I2 : Imm := fun b o => I' b o ∨ ∃ (j : Nat) (p : Nat × List (List AV)), ((p0 :: bl)[j]? = some p ∧ j ≠ 0) ∧ b = (r' j).blk ∧ ∃ (i : Nat) (e : List AV) (jj : Nat) (c : AV), p.2[i]? = some e ∧ e[jj]? = some c ∧ o = (r' j).off + i * p.1 + jj
  have himm : ∀ b o, I' b o → I2 b o := fun b o h => .inl h
  refine ⟨x, r', I2, rfl, hp.below, fun b o h => .inl (hp.immL b o h), fun b o h => ?_, fun b o h => ?_, fun j p hj => ?_, fun j j' h1 h2 h3 => ?_, ?_⟩
  · rcases h with h | ⟨j, p, ⟨hj, _⟩, rfl, _⟩
    · exact hp.immN b o h
    · exact .inr (hp.rows j p hj).1
  · rcases h with h | ⟨j, p, ⟨hj, _⟩, rfl, _⟩
    · exact hp.immS b o h
    · exact (hp.rows j p hj).2.1
  · cases j with
    | succ j => simp at hj
    | zero =>
      have hj : p0 = p := by simpa using hj
      subst hj
      obtain ⟨hb1, hb2, he, hcap, hlen, cs, T, fz, hcells, hsz, hel, hmt, hmf⟩ := hp.rows 0 p0 rfl
      refine ⟨hb1, hb2, he, hcap, hlen, cs, T, fz, hcells, hsz, fun i e jj c hi hjj => ?_, fun ht => ?_, fun hf => by cases hf⟩
      · obtain ⟨v, hv1, hv2⟩ := hel i e jj c hi hjj
        exact ⟨v, hv1, hv2.mono ⟨fun _ h => ⟨h, rfl⟩, fun b o h => ⟨himm b o h, rfl⟩, Nat.le_refl _⟩⟩
      · obtain ⟨g1, g2, g3⟩ := hmt ht
        refine ⟨g1, fun o ho => ?_, g3⟩
        rcases ho with ho | ⟨j, p, ⟨hj, hj0⟩, hb, _⟩
        · exact g2 o ho
        · exact hp.inj 0 j (by simp) (List.getElem?_eq_some_iff.1 hj).1 (fun c => hj0 c.symm) hb
  · have h1 : j < 1 := h1
    have h2 : j' < 1 := h2
    omega
  · refine frk_vr (I2 := I2) (D0 := fun i => i < 1) (by decide) himm (fun j es els hj y hy => ?_) hp.val _ hz
    obtain ⟨hb1, hb2, ⟨he1, he2⟩, hcap, hlen, cs, T, fz, hcells, hsz, hel, hmt, _⟩ := hp.rows j (es, els) hj.1
    dsimp only at he1 he2 hcap hlen hsz hel
    cases els with
    | nil =>
      cases hy with
      | asl _ _ _ _ hd hc => exact .isl0 _ _ _ _
    | cons e0 els =>
      cases hy with
      | asl _ _ _ _ hd hc =>
        rw [he1]
        simp only [Nat.zero_mul, Nat.add_zero, Nat.sub_zero]
        have hcell : ∀ (i : Nat) (e : List AV) (jj : Nat) (c : AV), (e0 :: els)[i]? = some e → e[jj]? = some c → ∃ v, w'.cell? ⟨(r' j).blk, (r' j).off + i * es + jj, none⟩ = some v ∧ VR r' I2 w' (fun _ => False) c v := by
          intro i e jj c hi hjj
          obtain ⟨v, hv1, hv2⟩ := hel i e jj c hi hjj
          refine ⟨v, ?_, hv2.mono ⟨fun _ h => h.2.elim, fun b o h => ⟨himm b o h, rfl⟩, Nat.le_refl _⟩⟩
          simp [World.cell?, hcells, hv1]
        refine .isl _ _ _ _ _ _ (fun i jj => (w'.cell? ⟨(r' j).blk, (r' j).off + i * es + jj, none⟩).getD undef) hcap hlen (fun i e jj c hi hjj => ?_) (fun i e jj c hi hjj => ?_)
        · obtain ⟨v, hv1, _⟩ := hcell i e jj c hi hjj
          exact ⟨.inr ⟨j, (es, e0 :: els), hj, rfl, i, e, jj, c, hi, hjj, rfl⟩, by rw [hv1]; rfl⟩
        · obtain ⟨v, hv1, hv2⟩ := hcell i e jj c hi hjj
          rw [hv1]
          exact hv2
end Go.Sx
