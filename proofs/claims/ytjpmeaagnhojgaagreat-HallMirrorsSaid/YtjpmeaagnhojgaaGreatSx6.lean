/- A part of the proof: lemmas. -/
import Derived.Test.YtjpmeaagnhojgaaGreatSx5
import Derived.JoinedOf
namespace Go.Sx
open Go Go.RowKit Go.ChangeShapes

/-! ### The frame of a law -/
/-- What an argument of a law is told by: typed trees. -/
def WTA (T : Tab) (t : TypeId) (a : AV) : Prop := ∀ n, ∃ m as, WT T (m + n) t as ∧ match T t with
  | some ti => match ti.desc with
    | .struct _ => a = .agg as
    | .array _ _ => a = .agg as
    | _ => as = [a]
  | none => False

/-- Arguments, each a typed tree. -/
def WTs (T : Tab) : List TypeId → List AV → Prop
  | [], [] => True
  | t :: ts, a :: as => WTA T t a ∧ WTs T ts as
  | _, _ => False

section
variable {H : Type} {enc : TypeId × Value → H} {P : Program} {w : World} {spare : Nat → Bool} {held : Bool}

theorem wt_mono {T : Tab} : ∀ (d : Nat) {t : TypeId} {as : List AV}, WT T d t as → WT T (d + 1) t as
  | 0, t, as, h => h.elim
  | d + 1, t, as, h => by
    unfold WT at h ⊢
    cases ht : T t with
    | none => rw [ht] at h; exact h.elim
    | some ti =>
      rw [ht] at h
      dsimp only at h ⊢
      cases hd : ti.desc with
      | bool => rw [hd] at h; exact h
      | int k => rw [hd] at h; exact h
      | float k => rw [hd] at h; exact h
      | string => rw [hd] at h; exact h
      | slice e =>
        rw [hd] at h
        dsimp only at h ⊢
        cases he : T e with
        | none => rw [he] at h; exact h.elim
        | some te => rw [he] at h; obtain ⟨els, e1, e2, e3⟩ := h; exact ⟨els, e1, e2, fun x hx => wt_mono d (e3 x hx)⟩
      | struct fs =>
        rw [hd] at h
        dsimp only at h ⊢
        refine ⟨h.1, fun f hf => ?_⟩
        have := h.2 f hf
        cases he : T f.type with
        | none => rw [he] at this; exact this.elim
        | some tf => rw [he] at this; exact wt_mono d this
      | array n e =>
        rw [hd] at h
        dsimp only at h ⊢
        cases he : T e with
        | none => rw [he] at h; exact h.elim
        | some te => rw [he] at h; exact ⟨h.1, fun i hi => wt_mono d (h.2 i hi)⟩
      | _ => rw [hd] at h; exact h.elim

theorem opens_arg {T : Tab} (hT : TabOK P T) {S : List TypeId} (hS : S.all (suppT T S) = true) {t : TypeId} {v : Value} {d : DataW H} {p : List MemPlace} {r : Reach} {b0 : Nat} (hm : memN S t = true) (hv : Value.okWide P w r b0 t v)
    (h : DataW.Trod enc P w 0 spare held t v d p) : ∃ a : AV, VR r0 (Im0 w) w (fun _ => False) a v ∧ WTA T t a := by
  have hs := List.all_eq_true.1 hS t (memN_spec hm)
  unfold suppT at hs
  cases ht : T t with
  | none => rw [ht] at hs; cases hs
  | some ti =>
    rw [ht] at hs
    dsimp only at hs
    have hu := hT.und t ti ht
    obtain ⟨fuel, hf⟩ := h
    have hop := fun n => trod_opens hT hS (fuel + n) t _ _ hm (DataW.trod_le (Nat.le_add_right fuel n) hf)
    obtain ⟨as, h1, h2, h3⟩ := hop 0
    have hwt : ∀ n, WT T (fuel + n) t as := by
      intro n
      induction n with
      | zero => exact h3
      | succ n ih => exact wt_mono _ ih
    clear hop hf
    have agg : (∃ cs, v = .agg cs) → ∃ a : AV, VR r0 (Im0 w) w (fun _ => False) a v ∧ a = .agg as := by
      rintro ⟨cs, rfl⟩
      exact ⟨.agg as, .agg _ _ _ (by simpa [Value.cells] using h1.symm) (fun i c x hc hx => h2 i c x hc (by simpa [Value.cells] using hx)), rfl⟩
    have one : (∀ cs, v ≠ .agg cs) → ∃ a : AV, VR r0 (Im0 w) w (fun _ => False) a v ∧ as = [a] := by
      intro hn
      have e : v.cells.toList = [v] := by cases v <;> first | rfl | (rename_i cs; exact (hn cs rfl).elim)
      rw [e] at h1 h2
      simp only [List.length_cons, List.length_nil] at h1
      obtain ⟨c, rfl⟩ := List.length_eq_one_iff.1 h1
      exact ⟨c, h2 0 c v rfl rfl, rfl⟩
    unfold Value.okWide at hv
    rw [hu] at hv
    cases hd : ti.desc with
    | bool =>
      rw [hd] at hv hu
      obtain ⟨a, h4, h5⟩ := one (fun cs e => by subst e; simp [Cell.okWide, Cell.ok, hu] at hv)
      exact ⟨a, h4, fun n => ⟨fuel, as, hwt n, by rw [ht]; dsimp only; rw [hd]; exact h5⟩⟩
    | int k =>
      rw [hd] at hv hu
      obtain ⟨a, h4, h5⟩ := one (fun cs e => by subst e; simp [Cell.okWide, Cell.ok, hu] at hv)
      exact ⟨a, h4, fun n => ⟨fuel, as, hwt n, by rw [ht]; dsimp only; rw [hd]; exact h5⟩⟩
    | float k =>
      rw [hd] at hv hu
      obtain ⟨a, h4, h5⟩ := one (fun cs e => by subst e; simp [Cell.okWide, Cell.ok, hu] at hv)
      exact ⟨a, h4, fun n => ⟨fuel, as, hwt n, by rw [ht]; dsimp only; rw [hd]; exact h5⟩⟩
    | string =>
      rw [hd] at hv hu
      obtain ⟨a, h4, h5⟩ := one (fun cs e => by subst e; simp [Cell.okWide, Cell.ok, hu] at hv)
      exact ⟨a, h4, fun n => ⟨fuel, as, hwt n, by rw [ht]; dsimp only; rw [hd]; exact h5⟩⟩
    | slice e =>
      rw [hd] at hv hu
      obtain ⟨a, h4, h5⟩ := one (fun cs e => by subst e; simp [Cell.okWide, Cell.ok, hu] at hv)
      exact ⟨a, h4, fun n => ⟨fuel, as, hwt n, by rw [ht]; dsimp only; rw [hd]; exact h5⟩⟩
    | struct fs =>
      rw [hd] at hv hu
      obtain ⟨cs, hcs, _⟩ := hv
      obtain ⟨a, h4, h5⟩ := agg ⟨cs, hcs⟩
      exact ⟨a, h4, fun n => ⟨fuel, as, hwt n, by rw [ht]; dsimp only; rw [hd]; exact h5⟩⟩
    | array n e =>
      rw [hd] at hv hu
      obtain ⟨cs, hcs, _⟩ := hv
      obtain ⟨a, h4, h5⟩ := agg ⟨cs, hcs⟩
      exact ⟨a, h4, fun n => ⟨fuel, as, hwt n, by rw [ht]; dsimp only; rw [hd]; exact h5⟩⟩
    | _ => rw [hd] at hs; cases hs

theorem opens_args {T : Tab} (hT : TabOK P T) {S : List TypeId} (hS : S.all (suppT T S) = true) {r : Reach} {b0 : Nat} : ∀ (ts : List TypeId) (vs : List Value) (ds : List (DataW H)) (p : List MemPlace), (∀ t ∈ ts, memN S t = true) → (∀ (j : Nat) t v, ts[j]? = some t → vs[j]? = some v → Value.okWide P w r b0 t v) →
    DataW.TrodAll enc P w 0 spare held ts vs ds p → ∃ as : List AV, VRs r0 (Im0 w) w (fun _ => False) as vs.toArray ∧ WTs T ts as
  | [], vs, ds, p, _, _, h => by
    obtain ⟨rfl, rfl, rfl⟩ := trodAll_nil h
    exact ⟨[], ⟨rfl, fun i c v hc => by simp at hc⟩, trivial⟩
  | t :: ts, vs, ds, p, hm, hv, h => by
    obtain ⟨v, vs', d, ds', q, q', rfl, rfl, rfl, hd, hr⟩ := trodAll_cons h
    obtain ⟨a, ha, hw⟩ := opens_arg hT hS (hm t (by simp)) (hv 0 t v rfl rfl) hd
    obtain ⟨as, hs, hws⟩ := opens_args hT hS ts vs' ds' q' (fun t' ht' => hm t' (by simp [ht'])) (fun j t' v' h1 h2 => hv (j + 1) t' v' (by simpa using h1) (by simpa using h2)) hr
    refine ⟨a :: as, ⟨by simpa using hs.1, fun i c x hc hx => ?_⟩, hw, hws⟩
    cases i with
    | zero => simp at hc hx; subst hc; subst hx; exact ha
    | succ i => exact hs.2 i c x (by simpa using hc) (by simpa using hx)

/-- A law is true at typed trees: so it is true, and nothing has turned. -/
theorem law_walk {T : Tab} (hT : TabOK P T) {S : List TypeId} (hS : S.all (suppT T S) = true) {f : FuncId} {ts : List TypeId} (hm : ts.all (memN S) = true) (hlaw : ∀ as, WTs T ts as → PCall P f as ⟨.bool true, []⟩) {r : Reach} {b0 : Nat} {vs : Array Value} {ds : List (DataW H)} {p : List MemPlace}
    (hv : ∀ (j : Nat) t v, ts[j]? = some t → vs[j]? = some v → Value.okWide P w r b0 t v) (h : DataW.TrodAll enc P w 0 spare held ts vs.toList ds p) : Calls P f vs w fun e w' => e = .returned (.bool true) ∧ Below w.heap.size w w' := by
  obtain ⟨as, h1, h2⟩ := opens_args hT hS ts vs.toList ds p (fun t ht => List.all_eq_true.1 hm t ht) (fun j t v a b => hv j t v a (by simpa using b)) h
  refine callsIn_wide.1 (((hlaw as h2).2 (Im0 w) w vs (fun b o h => h) (by simpa using h1)).mono fun e w' hh => ?_)
  obtain ⟨x, r', I', rfl, hp⟩ := hh
  have hval := hp.val
  cases hval
  exact ⟨rfl, hp.below⟩

/-- Behind the call all arguments read as they did. -/
theorem law_args (hl : laidOutB P = true) {w' : World} (bel : Below w.heap.size w w') : ∀ (ts : List TypeId) (vs : List Value) (ds : List (DataW H)) (p : List MemPlace), ts.all (fun t => P.readableRec t && decide (t < P.types.size)) = true →
    DataW.TrodAll enc P w 0 (fun _ => true) true ts vs ds p → (∀ x ∈ p, x.block < w.heap.size) → ∃ q, DataW.TrodAll enc P w' 0 (fun b => decide (b < w.heap.size)) true ts vs ds q
  | [], vs, ds, p, _, h, _ => by
    obtain ⟨rfl, rfl, rfl⟩ := trodAll_nil h
    exact ⟨[], trodAll_mk0⟩
  | t :: ts, vs, ds, p, ht, h, hlt => by
    obtain ⟨v, vs', d, ds', q, q', rfl, rfl, rfl, hd, hr⟩ := trodAll_cons h
    simp only [List.all_cons, Bool.and_eq_true, decide_eq_true_eq] at ht
    obtain ⟨q2, h2⟩ := law_args hl bel ts vs' ds' q' ht.2 hr (fun x hx => hlt x (by simp [hx]))
    exact ⟨_, trodAll_cons_mk (Below.trod hl ht.1.1 ht.1.2 hd bel (fun x hx => hlt x (by simp [hx]))) h2⟩

theorem trodAll_lt : ∀ (ts : List TypeId) (vs : List Value) (ds : List (DataW H)) (p : List MemPlace), DataW.TrodAll enc P w 0 spare held ts vs ds p → ∀ x ∈ p, x.block < w.heap.size
  | [], vs, ds, p, h, x, hx => by obtain ⟨rfl, rfl, rfl⟩ := trodAll_nil h; simp at hx
  | t :: ts, vs, ds, p, h, x, hx => by
    obtain ⟨v, vs', d, ds', q, q', rfl, rfl, rfl, hd, hr⟩ := trodAll_cons h
    rcases List.mem_append.1 hx with hx | hx
    · obtain ⟨m, hm⟩ := hd; exact DataW.trod_lt m _ _ _ hm x hx
    · exact trodAll_lt ts vs' ds' q' hr x hx

/-- A law's row. -/
theorem law_lifted {C : Checked} {os : Os} (started : os.Started) {f : FuncId} {fn : Func} {s : ChangeSpec} {bt : TypeId}
    (own : ownKnob C.prog.godebug = none) (laid : laidOutB C.prog = true) (noInit : C.prog.inits.idxOf? f = none) (hfn : C.prog.funcs[f]? = some fn)
    {T : Tab} (hT : TabOK C.prog T) {S : List TypeId} (hS : S.all (suppT T S) = true) (hm : fn.params.toList.all (memN S) = true) (hread : fn.params.toList.all (fun t => C.prog.readableRec t && decide (t < C.prog.types.size)) = true)
    (hvars : s.vars = []) (hres : fn.resultTypes = #[bt]) (hbt : C.prog.underlying bt = some .bool)
    (hsp : ∀ ds : List (DataW H), ds.length = fn.params.toList.length → s.fn H ds = { results := [.lit (.bool true)], args := ds, vars := [] })
    (hlaw : ∀ as, WTs T fn.params.toList as → PCall C.prog f as ⟨.bool true, []⟩) {conds : List PathCond}
    (witness : ∃ (w : World) (tape : Tape) (i : Input), w.os = os ∧ (w.forCall tape i).Shaped C.prog ∧ i.vars = [] ∧ Input.okWide C.prog (w.forCall tape i) .any w.heap.size f i ∧
      s.pre6 enc C.prog fn conds false (w.forCall tape i).memory i.args ∧ ({} : Assume).holds C.prog (lone (Frame.enter C.prog f i.args .normal) [] (w.forCall tape i))) :
    ReturnsInHanded {} C os f .any (s.pre6 enc C.prog fn conds false) (s.post enc C.prog fn false true false false) := by
  refine returnsInHanded_of_change own started noInit hfn witness ?_
  intro W base args ds gs before hval0 hW hcnd _
  have hval : ∀ (j : Nat) t v, fn.params.toList[j]? = some t → args[j]? = some v → Value.okWide C.prog W .any base t v := fun j t v a b => hval0 j t v (by simpa using a) b
  have hW' := hW
  obtain ⟨p, q, hA, hV, rfl, hfz, hnd⟩ := hW
  rw [hvars] at hV
  obtain ⟨rfl, rfl⟩ := trodVars_none hV
  have hlen : ∀ (ts : List TypeId) (vs : List Value) (ds : List (DataW H)) (p : List MemPlace), DataW.TrodAll enc C.prog W 0 (fun _ => true) true ts vs ds p → ds.length = ts.length := by
    intro ts
    induction ts with
    | nil => intro vs ds p h; obtain ⟨rfl, rfl, rfl⟩ := trodAll_nil h; rfl
    | cons t ts ih => intro vs ds p h; obtain ⟨v, vs', d, ds', q, q', rfl, rfl, rfl, hd, hr⟩ := trodAll_cons h; simp [ih _ _ _ hr]
  refine (law_walk hT hS hm hlaw hval hA).mono fun e W' hh => ?_
  obtain ⟨he, bel⟩ := hh
  subst he
  obtain ⟨q2, hq2⟩ := law_args laid bel _ _ _ _ hread hA (trodAll_lt _ _ _ _ hA)
  have hsp' := hsp (ds ++ []) (by rw [List.append_nil]; exact hlen _ _ _ _ hA)
  refine ⟨_, rfl, ds, [], _, [], q2, [], hW', ?_, ?_, ?_, bel.frame _, fun h => by cases h⟩
  · rw [hsp', hres]; exact trodAll_mk1 (shut_bool hbt _)
  · rw [hsp']; simpa using hq2
  · rw [hsp', hvars]; rfl
end
end Go.Sx
namespace Go.Sx
open Go Go.RowKit

/-! ### Typed trees, taken apart -/
variable {T : Tab} {d : Nat} {t : TypeId} {as : List AV}

theorem wt_int {ti : TI} {k : IntKind} (ht : T t = some ti) (hd : ti.desc = .int k) (h : WT T (d + 1) t as) : ∃ n, as = [.int k n] ∧ (Lit.int k n).wf = true := by
  unfold WT at h; rw [ht] at h; dsimp only at h; rw [hd] at h; exact h
theorem wt_str {ti : TI} (ht : T t = some ti) (hd : ti.desc = .string) (h : WT T (d + 1) t as) : ∃ s, as = [.str s] ∧ s.size ≤ maxLen := by
  unfold WT at h; rw [ht] at h; dsimp only at h; rw [hd] at h; exact h
theorem wt_slice {ti te : TI} {e : TypeId} (ht : T t = some ti) (hd : ti.desc = .slice e) (he : T e = some te) (h : WT T (d + 1) t as) : ∃ els, as = [.isl te.size els] ∧ els.length ≤ maxLen ∧ ∀ x ∈ els, WT T d e x := by
  unfold WT at h; rw [ht] at h; dsimp only at h; rw [hd] at h; dsimp only at h; rw [he] at h; exact h
theorem wt_struct {ti : TI} {fs : Array Field} (ht : T t = some ti) (hd : ti.desc = .struct fs) (h : WT T (d + 1) t as) : as.length = ti.size ∧ ∀ f ∈ fs.toList, ∃ tf, T f.type = some tf ∧ WT T d f.type ((as.drop f.offset).take tf.size) := by
  unfold WT at h; rw [ht] at h; dsimp only at h; rw [hd] at h; dsimp only at h
  refine ⟨h.1, fun f hf => ?_⟩
  have := h.2 f hf
  cases hq : T f.type with
  | none => rw [hq] at this; exact this.elim
  | some tf => rw [hq] at this; exact ⟨tf, rfl, this⟩
theorem wt_array {ti te : TI} {n : Nat} {e : TypeId} (ht : T t = some ti) (hd : ti.desc = .array n e) (he : T e = some te) (h : WT T (d + 1) t as) : as.length = ti.size ∧ ∀ i, i < n → WT T d e ((as.drop (i * te.size)).take te.size) := by
  unfold WT at h; rw [ht] at h; dsimp only at h; rw [hd] at h; dsimp only at h; rw [he] at h; exact h

theorem wta_agg {a : AV} {ti : TI} (h : WTA T t a) (ht : T t = some ti) {fs : Array Field} (hd : ti.desc = .struct fs) (n : Nat) : ∃ as m, a = .agg as ∧ WT T (m + n + 1) t as := by
  obtain ⟨m, as, hm, ha⟩ := h (n + 1)
  rw [ht] at ha; dsimp only at ha; rw [hd] at ha
  exact ⟨as, m, ha, by rw [Nat.add_assoc]; exact hm⟩
theorem wta_int {a : AV} {ti : TI} (h : WTA T t a) {k : IntKind} (ht : T t = some ti) (hd : ti.desc = .int k) : ∃ n, a = .int k n ∧ (Lit.int k n).wf = true := by
  obtain ⟨m, as, hm, ha⟩ := h 1
  rw [ht] at ha; dsimp only at ha; rw [hd] at ha
  obtain ⟨n, h1, h2⟩ := wt_int ht hd hm
  rw [h1] at ha
  exact ⟨n, by simpa using ha.symm, h2⟩
theorem wta_str {a : AV} {ti : TI} (h : WTA T t a) (ht : T t = some ti) (hd : ti.desc = .string) : ∃ s, a = .str s ∧ s.size ≤ maxLen := by
  obtain ⟨m, as, hm, ha⟩ := h 1
  rw [ht] at ha; dsimp only at ha; rw [hd] at ha
  obtain ⟨n, h1, h2⟩ := wt_str ht hd hm
  rw [h1] at ha
  exact ⟨n, by simpa using ha.symm, h2⟩

/-- A struct of ints alone. -/
def intFs (T : Tab) (n : Nat) : Nat → List Field → Bool
  | i, [] => Nat.beq i n
  | i, f :: fs => Nat.beq f.offset i && (match T f.type with
    | some tf => Nat.beq tf.size 1 && (match tf.desc with
      | .int .i64 => true
      | _ => false)
    | none => false) && intFs T n (i + 1) fs

theorem wt_ints_aux {n : Nat} (hl : as.length = n) : ∀ (fs : List Field) (i : Nat), intFs T n i fs = true → (∀ f ∈ fs, ∃ tf, T f.type = some tf ∧ WT T (d + 1) f.type ((as.drop f.offset).take tf.size)) → ∃ ns : List Int, as.drop i = ns.map (AV.int .i64) ∧ ns.length + i = n ∧ ∀ x ∈ ns, (Lit.int .i64 x).wf = true
  | [], i, h, hf => by
    have hi := Nat.eq_of_beq_eq_true h
    exact ⟨[], by simp [List.drop_eq_nil_iff]; omega, by simpa using hi, by simp⟩
  | f :: fs, i, h, hf => by
    simp only [intFs, Bool.and_eq_true] at h
    obtain ⟨⟨h1, h2⟩, h3⟩ := h
    obtain ⟨ns, g1, g2, g3⟩ := wt_ints_aux hl fs (i + 1) h3 (fun g hg => hf g (by simp [hg]))
    obtain ⟨tf, e1, e2⟩ := hf f (by simp)
    rw [e1] at h2
    simp only [Bool.and_eq_true] at h2
    obtain ⟨h4, h5⟩ := h2
    have hk : tf.desc = .int .i64 := by split at h5 <;> first | assumption | cases h5
    obtain ⟨x, q1, q2⟩ := wt_int e1 hk e2
    rw [Nat.eq_of_beq_eq_true h4, Nat.eq_of_beq_eq_true h1] at q1
    have hi : i < as.length := by
      rcases Nat.lt_or_ge i as.length with hi | hi
      · exact hi
      · rw [List.drop_of_length_le hi] at q1; simp at q1
    refine ⟨x :: ns, ?_, by simp; omega, fun y hy => ?_⟩
    · rw [List.drop_eq_getElem_cons hi] at q1 ⊢
      simp only [List.take_succ_cons, List.take_zero, List.cons.injEq, and_true] at q1
      rw [g1, q1]; rfl
    · rcases List.mem_cons.1 hy with rfl | hy
      · exact q2
      · exact g3 y hy
theorem wt_ints {ti : TI} {fs : Array Field} (ht : T t = some ti) (hd : ti.desc = .struct fs) (hi : intFs T ti.size 0 fs.toList = true) (h : WT T (d + 2) t as) : ∃ ns : List Int, as = ns.map (AV.int .i64) ∧ ns.length = ti.size ∧ ∀ x ∈ ns, (Lit.int .i64 x).wf = true := by
  obtain ⟨h1, h2⟩ := wt_struct ht hd h
  obtain ⟨ns, g1, g2, g3⟩ := wt_ints_aux h1 fs.toList 0 hi h2
  exact ⟨ns, by simpa using g1, by omega, g3⟩
theorem wf_i64 {n : Int} (h : (Lit.int .i64 n).wf = true) : -9223372036854775808 ≤ n ∧ n ≤ 9223372036854775807 := by
  simp [Lit.wf, IntKind.min, IntKind.max, IntKind.signed, IntKind.bits] at h
  omega
end Go.Sx
