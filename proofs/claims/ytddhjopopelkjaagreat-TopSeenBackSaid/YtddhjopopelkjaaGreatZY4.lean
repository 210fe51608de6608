/- A part of the proof: lemmas. -/
import Derived.Test.YtddhjopopelkjaaGreatZY3
import Derived.Test.YtddhjopopelkjaaGreatZT7a
import Derived.Test.YtddhjopopelkjaaGreatSxNil
set_option linter.unusedVariables false
set_option linter.unusedSimpArgs false
namespace Go.Proofs.YtddhjopopelkjaaGreat
open Go Go.Sx
/-! ### Who sees is seen -/
theorem hasN_low (f : Pt → Pt → Bool) (x y z : Int) : ∀ (l : List Sea) (i : Nat) (m : Int), m < (i : Int) → hasN (seeL f x y z i l) m = false
  | [], _, _, _ => rfl
  | c :: l, i, m, h => by
    rw [seeL]
    have ih := hasN_low f x y z l (i + 1) m (by omega)
    split
    · rw [hasN_cons, ih, decide_eq_false (by omega)]; rfl
    · exact ih
theorem hasN_see (f : Pt → Pt → Bool) (x y z : Int) : ∀ (l : List Sea) (i k : Nat) (hk : k < l.length), hasN (seeL f x y z i l) ((i + k : Nat) : Int) = (plcEq l[k] x y z || f ⟨x, y, z, 1⟩ ⟨l[k].x, l[k].y, l[k].z, 1⟩)
  | c :: l, i, 0, _ => by
    rw [seeL]
    show _ = (plcEq c x y z || f ⟨x, y, z, 1⟩ ⟨c.x, c.y, c.z, 1⟩)
    by_cases h : (plcEq c x y z || f ⟨x, y, z, 1⟩ ⟨c.x, c.y, c.z, 1⟩) = true
    · rw [if_pos h, hasN_cons, h, decide_eq_true (by omega)]; rfl
    · rw [if_neg h, hasN_low f x y z l (i + 1) _ (by omega)]
      simpa using h
  | c :: l, i, k + 1, hk => by
    have hk' : k < l.length := by simpa using hk
    have ih := hasN_see f x y z l (i + 1) k hk'
    rw [show ((i + (k + 1) : Nat) : Int) = ((i + 1 + k : Nat) : Int) by omega, seeL]
    show _ = (plcEq l[k] x y z || f ⟨x, y, z, 1⟩ ⟨l[k].x, l[k].y, l[k].z, 1⟩)
    split
    · rw [hasN_cons, ih, decide_eq_false (by omega)]; rfl
    · exact ih
def seeS (h : Hal) (s : Stg) (c : Sea) : List Int := seeL (freeP h s) c.x c.y c.z 0 h.ss
theorem freeP_comm {h : Hal} {s : Stg} (g : Sit h s) {p q : Pt} (hp : PtH p) (hq : PtH q) : freeP h s p q = freeP h s q p := by
  rw [Bool.eq_iff_iff, free_iff g hp hq, free_iff g hq hp]
  exact ⟨fun f => f.back hp.r hq.r, fun f => f.back hq.r hp.r⟩
theorem plcEq_comm (c d : Sea) : plcEq c d.x d.y d.z = plcEq d c.x c.y c.z := by
  unfold plcEq
  rw [show decide (c.x = d.x) = decide (d.x = c.x) by rw [decide_eq_decide]; omega, show decide (c.y = d.y) = decide (d.y = c.y) by rw [decide_eq_decide]; omega, show decide (c.z = d.z) = decide (d.z = c.z) by rw [decide_eq_decide]; omega]
theorem has_self {h : Hal} (s : Stg) {k : Nat} (hk : k < h.ss.length) : hasN (seeS h s h.ss[k]) (k : Int) = true := by
  have := hasN_see (freeP h s) h.ss[k].x h.ss[k].y h.ss[k].z h.ss 0 k hk
  rw [Nat.zero_add] at this
  unfold seeS
  rw [this]
  simp [plcEq]
theorem has_comm {h : Hal} {s : Stg} (g : Sit h s) {i k : Nat} (hi : i < h.ss.length) (hk : k < h.ss.length) : hasN (seeS h s h.ss[i]) (k : Int) = hasN (seeS h s h.ss[k]) (i : Int) := by
  have e1 := hasN_see (freeP h s) h.ss[i].x h.ss[i].y h.ss[i].z h.ss 0 k hk
  have e2 := hasN_see (freeP h s) h.ss[k].x h.ss[k].y h.ss[k].z h.ss 0 i hi
  rw [Nat.zero_add] at e1 e2
  unfold seeS
  rw [e1, e2, plcEq_comm, freeP_comm g (sea_pt g.fine hi) (sea_pt g.fine hk)]
/-- Drawn curtains do not matter. -/
def bareS (s : Stg) : Stg := ⟨s.hs, []⟩
theorem blkA_bare (h : Hal) (s : Stg) (p q : Pt) : ∀ (l : List Can) (j : Nat), blkA h (bareS s) p q j l = blkA h s p q j l
  | [], _ => rfl
  | c :: l, j => by rw [blkA, blkA, blkA_bare h s p q l, show hgtAt h (bareS s) j = hgtAt h s j from rfl]
theorem freeP_bare (h : Hal) (s : Stg) : freeP h (bareS s) = freeP h s := by
  funext p q
  unfold freeP
  rw [blkA_bare]
theorem serr_bare {h : Hal} {s : Stg} (z : serr h s = 0) : serr h (bareS s) = 0 := by
  unfold serr at z ⊢
  split at z
  · rename_i c
    rw [if_pos c]
    unfold setE at z ⊢
    split at z
    · rename_i d
      rw [if_pos (show ((bareS s).hs.length : Int) = h.ks.length from d)]
      split at z
      · rename_i e
        rw [if_pos (show hgE h 0 (bareS s).hs = 0 from e)]; rfl
      · rename_i e; exact absurd z e
    · cases z
  · rename_i c; exact absurd z c
/-! ### Tables -/
theorem mavE {a b : Mat} (h : a.av = b.av) : a = b := by
  simp only [List.cons.injEq, AV.str.injEq, AV.int.injEq, true_and, and_true] at h
  obtain ⟨h1, h2, h3, h4, h5, h6⟩ := h
  cases a; cases b; simp_all
theorem wavE {a b : Wal} (h : a.av = b.av) : a = b := by
  simp only [List.cons.injEq, AV.str.injEq, and_true] at h
  obtain ⟨h1, h2, h3⟩ := h
  cases a; cases b; simp_all
theorem cavE {a b : Can} (h : a.av = b.av) : a = b := by
  simp only [List.cons.injEq, AV.str.injEq, AV.int.injEq, AV.isl.injEq, true_and, and_true] at h
  obtain ⟨h1, h2, h3, h4, h5, h6, h7⟩ := h
  have h7 := nl_inj h7
  cases a; cases b; simp_all
theorem savE {a b : Sea} (h : a.av = b.av) : a = b := by
  simp only [List.cons.injEq, AV.str.injEq, AV.int.injEq, true_and, and_true] at h
  obtain ⟨h1, h2, h3, h4⟩ := h
  cases a; cases b; simp_all
theorem ptE {a b : Int × Int} (h : pt a = pt b) : a = b := by
  unfold pt at h
  simp only [List.cons.injEq, AV.int.injEq, true_and, and_true] at h
  exact Prod.ext h.1 h.2
theorem halE {a b : Hal} (h : a.av = b.av) : a = b := by
  simp only [AV.agg.injEq, List.cons.injEq, AV.str.injEq, AV.int.injEq, AV.isl.injEq, true_and, and_true] at h
  obtain ⟨h1, h2, h3, h4, h5, h6, h7, h8, h9⟩ := h
  have h5 := List.map_inj_right (fun x y e => mavE e) |>.1 h5
  have h6 := List.map_inj_right (fun x y e => ptE e) |>.1 h6
  have h7 := List.map_inj_right (fun x y e => wavE e) |>.1 h7
  have h8 := List.map_inj_right (fun x y e => cavE e) |>.1 h8
  have h9 := List.map_inj_right (fun x y e => savE e) |>.1 h9
  cases a; cases b; simp_all
theorem stgE {a b : Stg} (h : a.av = b.av) : a = b := by
  simp only [AV.agg.injEq, List.cons.injEq, AV.isl.injEq, true_and, and_true] at h
  obtain ⟨h1, h2⟩ := h
  have h1 := nl_inj h1
  have h2 := nl_inj h2
  cases a; cases b; simp_all
noncomputable abbrev cSee : List AV → Option PRes := famA (fun t : Hal × Stg × Int × Int × Int => t.1.ok ∧ t.2.1.few ∧ seeE t.1 t.2.1 t.2.2.1 t.2.2.2.1 t.2.2.2.2 = 0) (fun t => [t.1.av, t.2.1.av, P3 t.2.2.1 t.2.2.2.1 t.2.2.2.2]) (fun t => ⟨.tup [.isl 1 (nl (seeL (freeP t.1 t.2.1) t.2.2.1 t.2.2.2.1 t.2.2.2.2 0 t.1.ss)), I 0], []⟩)
theorem see_hit {h : Hal} (hk : h.ok) {s : Stg} (hs : s.few) {x y z : Int} (h0 : seeE h s x y z = 0) : cSee [h.av, s.av, P3 x y z] = some ⟨.tup [.isl 1 (nl (seeL (freeP h s) x y z 0 h.ss)), I 0], []⟩ :=
  famA_hit (p := fun t : Hal × Stg × Int × Int × Int => t.1.ok ∧ t.2.1.few ∧ seeE t.1 t.2.1 t.2.2.1 t.2.2.2.1 t.2.2.2.2 = 0) (g := fun t => [t.1.av, t.2.1.av, P3 t.2.2.1 t.2.2.2.1 t.2.2.2.2]) (r := fun t => ⟨.tup [.isl 1 (nl (seeL (freeP t.1 t.2.1) t.2.2.1 t.2.2.2.1 t.2.2.2.2 0 t.1.ss)), I 0], []⟩) (k := (h, s, x, y, z)) (fun j hj => by
    obtain ⟨h', s', x', y', z'⟩ := j
    obtain ⟨e1, hj⟩ := List.cons.inj hj
    obtain ⟨e2, hj⟩ := List.cons.inj hj
    have e1 := halE e1
    have e2 := stgE e2
    simp only [List.cons.injEq, AV.agg.injEq, AV.int.injEq, true_and, and_true] at hj
    obtain ⟨rfl, rfl, rfl⟩ := hj
    subst e1 e2
    rfl) ⟨hk, hs, h0⟩
noncomputable abbrev cCpH : List AV → Option PRes := famA (fun x : Hal => x.few) (fun x => [x.av]) (fun x => ⟨x.av, []⟩)
theorem cpH_hit {h : Hal} (hf : h.few) : cCpH [h.av] = some ⟨h.av, []⟩ :=
  famA_hit (p := fun x : Hal => x.few) (g := fun x => [x.av]) (r := fun x => ⟨x.av, []⟩) (k := h) (fun j hj => by rw [halE (List.cons.inj hj).1]) hf
noncomputable abbrev cHasT : List AV → Option PRes := famA (fun t : List Int × Int => t.1.length < 1000000) (fun t => [.isl 1 (nl t.1), I t.2]) (fun t => ⟨Bo (hasN t.1 t.2), []⟩)
theorem hasT_hit {l : List Int} (hl : l.length < 1000000) (n : Int) : cHasT [.isl 1 (nl l), I n] = some ⟨Bo (hasN l n), []⟩ :=
  famA_hit (p := fun t : List Int × Int => t.1.length < 1000000) (g := fun t => [.isl 1 (nl t.1), I t.2]) (r := fun t => ⟨Bo (hasN t.1 t.2), []⟩) (k := (l, n)) (fun j hj => by
    obtain ⟨l', n'⟩ := j
    simp only [List.cons.injEq, AV.isl.injEq, AV.int.injEq, true_and, and_true] at hj
    obtain ⟨e1, rfl⟩ := hj
    rw [nl_inj e1]) hl
abbrev bareA (s : Stg) : AV := .agg [.isl 1 (nl s.hs), .nils]
noncomputable def cCpS (s : Stg) (a : List AV) : Option PRes := by
  classical exact if a = [s.av] then some ⟨s.av, []⟩ else if a = [bareA s] then some ⟨(bareS s).av, []⟩ else none
theorem cpS_1 (s : Stg) : cCpS s [s.av] = some ⟨s.av, []⟩ := by unfold cCpS; simp
theorem cpS_2 (s : Stg) : cCpS s [bareA s] = some ⟨(bareS s).av, []⟩ := by unfold cCpS; simp
theorem few_bare {s : Stg} (hs : s.few) : (bareS s).few := by
  obtain ⟨h1, h2⟩ := hs
  exact ⟨h1, by show (0 : Nat) < _; omega⟩
theorem cpS_ok {s : Stg} (hs : s.few) {pt : PC} (hp : PCOK Tryz.prog pt) : PCOK Tryz.prog (ins 20 (cCpS s) pt) := by
  refine ins_ok (fun a res hr => ?_) hp
  unfold cCpS at hr
  split at hr
  · rename_i e; subst e; cases hr; exact c29 hs
  · split at hr
    · rename_i e; subst e; cases hr
      exact PCall.nilArgs (c29 (few_bare hs)) ⟨.inr ⟨_, _, rfl, rfl, .inl rfl, .inr ⟨rfl, 1, rfl⟩, trivial⟩, trivial⟩
    · cases hr
end Go.Proofs.YtddhjopopelkjaaGreat
