/- A part of the proof: lemmas. -/
import Derived.Test.YtmbgehpcjihfpaaAL18
import Derived.Test.YtmbgehpcjihfpaaZx7
set_option linter.unusedVariables false
set_option linter.unusedSimpArgs false
namespace Go.Sx
open Go Go.RowKit
theorem wt_field {T : Tab} {d : Nat} {t : TypeId} {xs : List AV} {ti : TI} {fs : Array Field} (ht : T t = some ti) (hd : ti.desc = .struct fs) (h : WT T (d + 1) t xs) (i : Nat) {f : Field} (hf : fs.toList[i]? = some f) {tf : TI} (htf : T f.type = some tf) : WT T d f.type ((xs.drop f.offset).take tf.size) := by
  obtain ⟨tf', e, w⟩ := (wt_struct ht hd h).2 f (List.mem_of_getElem? hf)
  rw [htf] at e
  cases e
  exact w
end Go.Sx
namespace Go.Proofs.Ytmbgehpcjihfpaa
open Go Go.Sx
theorem l3big {r v : Int} {p : Pl} {ls : List Sp} {ds : List Int} (h8 : 8 < ls.length) : PCall Try.prog 3 [arr r v ls, p.av, .isl 1 (nl ds)] ⟨Bo true, []⟩ := by
  have e3 := sv_length ls
  have hk := one_ok e4 pt0_ok
  have g1 := one_hit [] ⟨Bo true, []⟩
  obtain ⟨px, py, pz⟩ := p
  refine bs.pvc 3 (sx := nos) hk Try.func3 (by kernel_rfl) (by kernel_rfl) rfl ?_
  repeat' (first | refine wk3 ?_ | (refine wk2 ?_ ?_ <;> intro _) | refine wk4 ?_ | fail); all_goals (conv => whnf)
  exact ret_bool rfl
noncomputable abbrev TT := tget tbl
theorem wInt {d : Nat} {x : List AV} (h : WT TT (d + 1) 3 x) : ∃ n, x = [I n] := by
  obtain ⟨n, h1, _⟩ := wt_int (T := TT) (t := 3) rfl rfl h
  exact ⟨n, h1⟩
theorem wInts {d : Nat} {x : List AV} (h : WT TT (d + 2) 27 x) : ∃ ns : List Int, x = [.isl 1 (nl ns)] := by
  obtain ⟨els, h1, h2, h3⟩ := wt_slice (T := TT) (t := 27) rfl rfl rfl h
  have : ∃ ns : List Int, els = nl ns := by
    clear h1 h2
    induction els with
    | nil => exact ⟨[], rfl⟩
    | cons e l ih =>
      obtain ⟨ns, hns⟩ := ih (fun x hx => h3 x (by simp [hx]))
      obtain ⟨n, hn⟩ := wInt (h3 e (by simp))
      exact ⟨n :: ns, by rw [hns, hn]; rfl⟩
  obtain ⟨ns, rfl⟩ := this
  exact ⟨ns, h1⟩
theorem wList {α : Type} {f : α → List AV} {P : α → Prop} {Q : List AV → Prop} (hQ : ∀ x, Q x → ∃ m, x = f m ∧ P m) : ∀ els : List (List AV), (∀ x ∈ els, Q x) → ∃ l : List α, els = l.map f ∧ ∀ m ∈ l, P m
  | [], _ => ⟨[], rfl, by simp⟩
  | e :: els, h => by
    obtain ⟨l, h1, h2⟩ := wList hQ els (fun x hx => h x (by simp [hx]))
    obtain ⟨m, h3, h4⟩ := hQ e (h e (by simp))
    refine ⟨m :: l, by rw [h3, h1]; rfl, fun u hu => ?_⟩
    rcases List.mem_cons.1 hu with rfl | hu
    · exact h4
    · exact h2 u hu
theorem wPl {d : Nat} {x : List AV} (h : WT TT (d + 2) 26 x) : ∃ p : Pl, x = [I p.x, I p.y, I p.z] := by
  obtain ⟨ns, h1, h2, _⟩ := wt_ints (T := TT) (t := 26) rfl rfl rfl h
  have h2 : ns.length = 3 := h2
  match ns, h2 with
  | [a, b, c], _ => exact ⟨⟨a, b, c⟩, by rw [h1]; rfl⟩
theorem wSp {d : Nat} {x : List AV} (h : WT TT (d + 3) 35 x) : ∃ s : Sp, x = sv s := by
  have h0 := (wt_struct (T := TT) (t := 35) rfl rfl h).1
  have h0 : x.length = 5 := h0
  match x, h0 with
  | [x0, x1, x2, x3, x4], _ =>
    obtain ⟨p, hp⟩ := wPl (wt_field (T := TT) (t := 35) rfl rfl h 0 rfl rfl)
    obtain ⟨a, ha⟩ := wInt (wt_field (T := TT) (t := 35) rfl rfl h 1 rfl rfl)
    obtain ⟨b, hb⟩ := wInt (wt_field (T := TT) (t := 35) rfl rfl h 2 rfl rfl)
    have hp : [x0, x1, x2] = [I p.x, I p.y, I p.z] := hp
    have ha : [x3] = [I a] := ha
    have hb : [x4] = [I b] := hb
    cases hp; cases ha; cases hb
    exact ⟨⟨p, a, b⟩, rfl⟩
theorem arr_of {a : AV} (h : WTA TT 24 a) : ∃ (r v : Int) (ls : List Sp), a = arr r v ls := by
  obtain ⟨x, m, rfl, hw⟩ := wta_agg (T := TT) (t := 24) h rfl rfl 6
  have h0 := (wt_struct (T := TT) (t := 24) rfl rfl hw).1
  have h0 : x.length = 3 := h0
  match x, h0 with
  | [x0, x1, x2], _ =>
    obtain ⟨r, hr⟩ := wInt (wt_field (T := TT) (t := 24) rfl rfl hw 0 rfl rfl)
    obtain ⟨v, hv⟩ := wInt (wt_field (T := TT) (t := 24) rfl rfl hw 1 rfl rfl)
    obtain ⟨els, he, _, g⟩ := wt_slice (T := TT) (t := 22) rfl rfl rfl (wt_field (T := TT) (t := 24) rfl rfl hw 2 rfl rfl)
    obtain ⟨l, hl, _⟩ := wList (f := sv) (P := fun _ => True) (Q := fun x => WT TT _ 35 x) (fun x hx => (wSp hx).imp fun p hp => ⟨hp, trivial⟩) els g
    have hr : [x0] = [I r] := hr
    have hv : [x1] = [I v] := hv
    have he : [x2] = [.isl 5 els] := he
    cases hr; cases hv; cases he
    exact ⟨r, v, l, by rw [hl]⟩
theorem pl_of {a : AV} (h : WTA TT 26 a) : ∃ p : Pl, a = p.av := by
  obtain ⟨x, m, rfl, hw⟩ := wta_agg (T := TT) (t := 26) h rfl rfl 6
  obtain ⟨p, hp⟩ := wPl hw
  exact ⟨p, by rw [hp]⟩
theorem ints_of {a : AV} (h : WTA TT 27 a) : ∃ ns : List Int, a = .isl 1 (nl ns) := by
  obtain ⟨m, zs, hm, ha⟩ := h 3
  have ha : zs = [a] := ha
  obtain ⟨ns, h1⟩ := wInts hm
  rw [ha] at h1
  cases h1
  exact ⟨ns, rfl⟩
theorem law3 : ∀ cs, WTs (tget tbl) Try.f3.params.toList cs → PCall Try.prog 3 cs ⟨.bool true, []⟩ := by
  intro cs h
  have h : WTs (tget tbl) [24, 26, 27] cs := h
  match cs, h with
  | [a0, a1, a2], ⟨h0, h1, h2, _⟩ =>
    obtain ⟨r, v, ls, rfl⟩ := arr_of h0
    obtain ⟨p, rfl⟩ := pl_of h1
    obtain ⟨ds, rfl⟩ := ints_of h2
    by_cases h8 : 8 < ls.length
    · exact l3big h8
    · exact l3 (by omega)
end Go.Proofs.Ytmbgehpcjihfpaa
