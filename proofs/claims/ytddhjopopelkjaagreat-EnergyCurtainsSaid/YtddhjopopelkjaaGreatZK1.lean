/- A part of the proof: lemmas. -/
import Derived.Test.YtddhjopopelkjaaGreatZH9
set_option linter.unusedVariables false
set_option linter.unusedSimpArgs false
namespace Go.Proofs.YtddhjopopelkjaaGreat
open Go Go.Sx
/-! ### A hall whose materials absorb more in a band -/
abbrev Hal.put (h : Hal) (l : List Mat) : Hal := ⟨h.nm, h.ht, h.fl, h.ce, l, h.cs, h.ws, h.ks, h.ss⟩
def moreL (b : Int) : List Mat → List Mat → Prop
  | [], [] => True
  | m :: l, n :: k => (n.nm = m.nm ∧ matErr n = 0 ∧ absB m b ≤ absB n b) ∧ moreL b l k
  | _, _ => False
theorem moreL_len {b : Int} : ∀ {l k : List Mat}, moreL b l k → k.length = l.length
  | [], [], _ => rfl
  | m :: l, n :: k, h => by rw [List.length_cons, List.length_cons, moreL_len h.2]
theorem moreL_mats {b : Int} : ∀ {l k : List Mat} (i : Nat) (ns : List ByteArray), moreL b l k → (matsGo i ns l).2.1 = 0 → matsGo i ns k = matsGo i ns l
  | [], [], _, _, _, _ => rfl
  | m :: l, n :: k, i, ns, h, h0 => by
    obtain ⟨⟨e1, e2, _⟩, h2⟩ := h
    rw [matsGo] at h0 ⊢
    rw [matsGo, e1]
    by_cases c : addErr m.nm ns = 0
    · rw [if_pos c] at h0 ⊢
      rw [if_pos c]
      by_cases d : matErr m = 0
      · rw [if_pos d] at h0 ⊢
        rw [if_pos e2]
        exact moreL_mats (i + 1) _ h2 h0
      · rw [if_neg d] at h0
        exact absurd h0 d
    · rw [if_neg c] at h0
      exact absurd h0 c
theorem moreL_ix {b : Int} (s : ByteArray) : ∀ {l k : List Mat} (i : Nat), moreL b l k → matIx s i k = matIx s i l
  | [], [], _, _ => rfl
  | m :: l, n :: k, i, h => by rw [matIx, matIx, h.1.1, moreL_ix s (i + 1) h.2]
theorem moreL_get {b : Int} : ∀ {l k : List Mat} (i : Nat) (d : Mat), moreL b l k → absB ((l[i]?).getD d) b ≤ absB ((k[i]?).getD d) b
  | [], [], _, _, _ => by simp
  | m :: l, n :: k, 0, _, h => by simpa using h.1.2.2
  | m :: l, n :: k, i + 1, d, h => by simpa using moreL_get i d h.2
theorem moreL_mem {b : Int} : ∀ {l k : List Mat}, moreL b l k → ∀ n ∈ k, ∃ m ∈ l, n.nm = m.nm
  | [], [], _, n, hn => by simp at hn
  | m :: l, n' :: k, h, n, hn => by
    rw [List.mem_cons] at hn
    rcases hn with rfl | hn
    · exact ⟨m, List.mem_cons_self, h.1.1⟩
    · obtain ⟨m', a, c⟩ := moreL_mem h.2 n hn
      exact ⟨m', List.mem_cons_of_mem _ a, c⟩
theorem canGo_put (h : Hal) (k : List Mat) (ms : List ByteArray) : ∀ (l : List Can) (i : Nat) (ns : List ByteArray), canGo (h.put k) ms i ns l = canGo h ms i ns l
  | [], _, _ => rfl
  | c :: l, i, ns => by
    rw [canGo, canGo, canGo_put h k ms l, show cErr (h.put k) ms c = cErr h ms c from rfl]
theorem seaGo_put (h : Hal) (k : List Mat) : ∀ (l : List Sea) (i : Nat) (ns : List ByteArray), seaGo (h.put k) i ns l = seaGo h i ns l
  | [], _, _ => rfl
  | c :: l, i, ns => by
    rw [seaGo, seaGo, seaGo_put h k l, show plErr (h.put k) c.x c.y c.z = plErr h c.x c.y c.z from rfl]
theorem hgE_put (h : Hal) (k : List Mat) : ∀ (l : List Int) (i : Nat), hgE (h.put k) i l = hgE h i l
  | [], _ => rfl
  | c :: l, i => by
    rw [hgE, hgE, hgE_put h k l, show kLen (h.put k) i = kLen h i from rfl]
theorem drE_put (h : Hal) (k : List Mat) : ∀ (l : List Int) (p : Option Int), drE (h.put k) p l = drE h p l
  | [], _ => rfl
  | c :: l, p => by
    rw [drE, drE, drE_put h k l, show drOk (h.put k) c = drOk h c from rfl]
theorem setE_put (h : Hal) (k : List Mat) (s : Stg) : setE (h.put k) s = setE h s := by
  unfold setE
  rw [hgE_put, drE_put]
theorem err_put {h : Hal} {b : Int} {k : List Mat} (hm : moreL b h.ms k) (h0 : h.err = 0) : (h.put k).err = 0 := by
  unfold Hal.err chk chkList at h0 ⊢
  have hM : (matsGo 0 [] h.ms).2.1 = 0 := by
    obtain ⟨_, h0⟩ := fe_zero h0
    obtain ⟨_, h0⟩ := fe_zero h0
    obtain ⟨_, h0⟩ := fe_zero h0
    exact (fe_zero h0).1
  have e := moreL_mats 0 [] hm hM
  have l := moreL_len hm
  have en : (h.put k).names = h.names := by unfold Hal.names; rw [e]
  have ew : (h.put k).wal = h.wal := by unfold Hal.wal; rw [en]
  have ec : (h.put k).can = h.can := by unfold Hal.can; rw [en, ew, canGo_put]
  have es : set7 (h.put k) = set7 h := by unfold set7; rw [l]
  rw [e, en, ew, ec, es, seaGo_put]
  exact h0
theorem serr_put {h : Hal} {b : Int} {k : List Mat} (hm : moreL b h.ms k) {s : Stg} (h0 : serr h s = 0) : serr (h.put k) s = 0 := by
  unfold serr at h0 ⊢
  split at h0
  · rename_i c
    rw [if_pos (err_put hm c), setE_put]
    exact h0
  · rename_i c; exact absurd h0 c
theorem ok_put {h : Hal} {b : Int} {k : List Mat} (hm : moreL b h.ms k) (hk : h.ok) : (h.put k).ok := by
  obtain ⟨⟨f1, f2⟩, t1, t2, t3, t4, t5⟩ := hk
  refine ⟨⟨by have := moreL_len hm; show k.length < 1000; omega, f2⟩, t1, fun n hn => ?_, t3, t4, t5⟩
  obtain ⟨m, a, c⟩ := moreL_mem hm n hn
  rw [c]; exact t2 m a
theorem areaV_put (h : Hal) (k : List Mat) (i : Int) : areaV (h.put k) i = areaV h i := rfl
theorem srG_put (h : Hal) (k : List Mat) (f : Int → Int × Int) : ∀ (c j : Nat) (r : Int × Int), srG (h.put k) f j c r = srG h f j c r
  | 0, _, _ => rfl
  | c + 1, j, r => by rw [srG, srG, srG_put h k f c, show sd (h.put k) j = sd h j from rfl]
theorem srV_put (h : Hal) (k : List Mat) : srV (h.put k) = srV h := by
  unfold srV
  rw [srG_put]
  rfl
theorem vol2_put (h : Hal) (k : List Mat) : vol2 (h.put k) = vol2 h := rfl
theorem absK_put {h : Hal} {b : Int} {k : List Mat} (hm : moreL b h.ms k) (s : Stg) (i : Int) : absK h s b i ≤ absK (h.put k) s b i := by
  have e : absB (matS h s i) b ≤ absB (matS (h.put k) s i) b := by
    unfold matS matG
    rw [show mName (h.put k) s i = mName h s i from rfl, moreL_ix (mName h s i) 0 hm]
    exact moreL_get _ _ hm
  unfold absK
  rw [show isK (h.put k) i = isK h i from rfl]
  split <;> omega
theorem sumS_put {h : Hal} {b : Int} {k : List Mat} (hm : moreL b h.ms k) {s : Stg} (g : Sit h s) : ∀ n : Nat, (n : Int) ≤ nsur h → (sumS h s b n).1 ≤ (sumS (h.put k) s b n).1 ∧ (sumS h s b n).2 ≤ (sumS (h.put k) s b n).2
  | 0, _ => by simp [sumS]
  | n + 1, hn => by
    have ih := sumS_put hm g n (by omega)
    have hi : SK h n := sk_of (by omega) (by omega)
    obtain ⟨⟨x1, x2⟩, ⟨y1, y2⟩⟩ := areaV_bd g hi
    have c := absK_put hm s n
    have m1 := Int.mul_le_mul_of_nonneg_left c x1
    have m2 := Int.mul_le_mul_of_nonneg_left c y1
    rw [sumS, sumS, areaV_put h k]
    dsimp only
    generalize (areaV h n).1 * absK h s b n = q1 at *
    generalize (areaV h n).2 * absK h s b n = q2 at *
    generalize (areaV h n).1 * absK (h.put k) s b n = q3 at *
    generalize (areaV h n).2 * absK (h.put k) s b n = q4 at *
    omega
theorem absV_put {h : Hal} {b : Int} {k : List Mat} (hm : moreL b h.ms k) {s : Stg} (g : Sit h s) : (absV h s b).1 ≤ (absV (h.put k) s b).1 ∧ (absV h s b).2 ≤ (absV (h.put k) s b).2 := by
  have hn := nsur_bd g.fine
  have q := sumS_put hm g (nsur h).toNat (by omega)
  unfold absV
  rw [show nsur (h.put k) = nsur h from rfl]
  dsimp only
  omega
theorem rg_put {h : Hal} {b a v : Int} {k : List Mat} (hm : moreL b h.ms k) {s : Stg} (r : Rg h s b a v) : Rg (h.put k) s b a v := by
  have z := serr_put hm r.z
  exact ⟨sit_of (ok_put hm r.g.ok) r.g.sf z, z, r.air, by have := absV_put hm r.g; have := r.pos; omega⟩
/-- The changed list. -/
def Mat.upd (m : Mat) (b v : Int) : Mat := if b = 0 then ⟨m.nm, v, m.b, m.c, m.d, m.sc⟩ else if b = 1 then ⟨m.nm, m.a, v, m.c, m.d, m.sc⟩ else if b = 2 then ⟨m.nm, m.a, m.b, v, m.d, m.sc⟩ else ⟨m.nm, m.a, m.b, m.c, v, m.sc⟩
theorem upd_nm (m : Mat) (b v : Int) : (m.upd b v).nm = m.nm := by
  unfold Mat.upd
  repeat' split
  all_goals rfl
theorem upd_absB (m : Mat) (b v : Int) : absB (m.upd b v) b = v := by
  unfold Mat.upd absB
  repeat' split
  all_goals rfl
theorem upd_err {m : Mat} (h : matErr m = 0) {b v : Int} (hv : 0 ≤ v ∧ v ≤ 1000) : matErr (m.upd b v) = 0 := by
  have hv : thou v = true := within_iff.2 hv
  unfold matErr at h ⊢
  split at h
  · rename_i c
    simp only [Bool.and_eq_true] at c
    unfold Mat.upd
    repeat' split
    all_goals first
      | rfl
      | (rename_i d; exact absurd (by simp [c, hv]) d)
  · cases h
theorem moreL_same {b : Int} : ∀ {l : List Mat}, (∀ m ∈ l, matErr m = 0) → moreL b l l
  | [], _ => trivial
  | m :: l, h => ⟨⟨rfl, h m List.mem_cons_self, Int.le_refl _⟩, moreL_same fun x hx => h x (List.mem_cons_of_mem _ hx)⟩
theorem moreL_set {b v : Int} (hv : 0 ≤ v ∧ v ≤ 1000) : ∀ {l : List Mat} {i : Nat} (hi : i < l.length), (∀ m ∈ l, matErr m = 0) → absB l[i] b ≤ v → moreL b l (l.set i (l[i].upd b v))
  | m :: l, 0, _, h, e => ⟨⟨upd_nm m b v, upd_err (h m List.mem_cons_self) hv, by rw [upd_absB]; exact e⟩, moreL_same fun x hx => h x (List.mem_cons_of_mem _ hx)⟩
  | m :: l, i + 1, hi, h, e => ⟨⟨rfl, h m List.mem_cons_self, Int.le_refl _⟩, moreL_set hv (i := i) (by simpa using hi) (fun x hx => h x (List.mem_cons_of_mem _ hx)) (by simpa using e)⟩
end Go.Proofs.YtddhjopopelkjaaGreat
