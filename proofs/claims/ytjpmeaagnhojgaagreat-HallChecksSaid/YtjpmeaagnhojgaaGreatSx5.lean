/- A part of the proof: lemmas. -/
import Derived.Test.YtjpmeaagnhojgaaGreatSx4
import Derived.Test.YtjpmeaagnhojgaaGreatSx3
import Derived.Laws.Externs
import Derived.LoopNIn
set_option linter.unusedVariables false
set_option linter.unusedSimpArgs false
namespace Go.Sx
open Go Go.RowKit

variable {r r' : Locs} {D D' : Nat → Prop} {I I' : Imm} {w w' w0 : World} {I0 Ig : Imm} {B n n' k N l : Nat} {pr pr' pr2 : Nat → Obj → Prop} {h : Nat → ABlk} {P : Program} {JX : Zs → (Nat → Prop) → World → Prop}

abbrev IQ := Exit → Env → St → Zs → Prop

def PI (N B : Nat) (Ig : Imm) (JX : Zs → (Nat → Prop) → World → Prop) (Q : IQ) : Exit → Act → World → Prop := fun e a' w' => ∃ env' σ' z', Q e env' σ' z' ∧ IS N B Ig JX z' env' σ' a' w'

def AwpI (P : Program) (N B : Nat) (Ig : Imm) (JX : Zs → (Nat → Prop) → World → Prop) (c : Code) (env : Env) (σ : St) (z : Zs) (Q : IQ) : Prop :=
  ∀ a w, IS N B Ig JX z env σ a w → c.wpIn Fence.wide 0 P (PI N B Ig JX Q) a w

def seqI (K : Env → St → Zs → Prop) (Q : IQ) : IQ
  | .normal, env, σ, z => K env σ z
  | e, env, σ, z => Q e env σ z
def blockI (id : Nat) (Q : IQ) : IQ
  | .exit id', env, σ, z => cond (Nat.beq id' id) (Q .normal env σ z) (Q (.exit id') env σ z)
  | e, env, σ, z => Q e env σ z

/-- An iterator's code. -/
def vcItC (cx : Cx) (pc : PC) (N l : Nat) (lp : Code → Env → St → Zs → IQ → Prop) : Code → Env → St → Zs → IQ → Prop
  | .skip, env, σ, z, Q => Q .normal env σ z
  | .region _ ops draw, env, σ, z, Q => match draw with
    | false => cond (noDefer ops.toList) (vcOpsI cx pc N l ops.toList env σ z (Q .normal)) False
    | true => False
  | .seq x y, env, σ, z, Q => vcItC cx pc N l lp x env σ z (seqI (fun env' σ' z' => vcItC cx pc N l lp y env' σ' z' Q) Q)
  | .cond c x y, env, σ, z, Q => match evA env c with
    | .bool b => Br b (fEnv (setC env c true) fun env => vcItC cx pc N l lp x env σ z Q) (fEnv (setC env c false) fun env => vcItC cx pc N l lp y env σ z Q)
    | _ => False
  | .block id c, env, σ, z, Q => vcItC cx pc N l lp c env σ z (blockI id Q)
  | .loop c, env, σ, z, Q => lp c env σ z Q
  | .exit id, env, σ, z, Q => Q (.exit id) env σ z
  | .ret, env, σ, z, Q => Q .ret env σ z
  | _, _, _, _, _ => False

theorem IS.setC {z : Zs} {env : Env} {σ : St} {a : Act} {c : Operand} {b : Bool} (S : IS N B Ig JX z env σ a w) (hc : evA env c = .bool b) : IS N B Ig JX z (Sx.setC env c b) σ a w := by
  obtain ⟨⟨r, D, O, H, hO, E, hj⟩, hd⟩ := S
  cases c with
  | tmp t =>
    refine ⟨⟨r, D, O, H, hO, ⟨E.1, fun i => ?_⟩, hj⟩, hd⟩
    simp only [Sx.setC, Env.get_cons]
    by_cases e : i = t
    · subst e; rw [if_pos rfl, ← hc]; exact E.2 i
    · rw [if_neg e]; exact E.2 i
  | _ => exact ⟨⟨r, D, O, H, hO, E, hj⟩, hd⟩

theorem vcItC_sound {cx : Cx} (hcx : CxOK P cx) {pc : PC} (hpc : PCOK P pc) (hI : ItEnv P B Ig l JX) {lp : Code → Env → St → Zs → IQ → Prop} (hlp : ∀ c env σ z Q, lp c env σ z Q → AwpI P N B Ig JX (.loop c) env σ z Q) :
    ∀ (c : Code) (env : Env) (σ : St) (z : Zs) (Q : IQ), vcItC cx pc N l lp c env σ z Q → AwpI P N B Ig JX c env σ z Q
  | .skip, env, σ, z, Q, hv => fun a w S => wpIn_skip ⟨env, σ, z, hv, S⟩
  | .region id ops draw, env, σ, z, Q, hv => by
    cases draw with
    | true => exact hv.elim
    | false =>
      intro a w S
      simp only [vcItC] at hv
      cases hno : noDefer ops.toList with
      | false => rw [hno] at hv; exact hv.elim
      | true =>
        rw [hno] at hv
        refine wpIn_region_list ?_
        exact vcOpsI_sound hcx hpc hI ops (Q := PI N B Ig JX Q) ops.toList hno S hv (fun a' w' env' σ' z' hk S' => ⟨env', σ', z', hk, S'⟩)
  | .seq x y, env, σ, z, Q, hv => by
    intro a w S
    simp only [vcItC] at hv
    refine wpIn_seq (Code.wpIn_mono (fun e a' w' h => ?_) (vcItC_sound hcx hpc hI hlp x env σ z _ hv a w S))
    obtain ⟨env', σ', z', hq, S'⟩ := h
    cases e with
    | normal => exact vcItC_sound hcx hpc hI hlp y env' σ' z' Q hq a' w' S'
    | exit id => exact ⟨env', σ', z', hq, S'⟩
    | goto l => exact ⟨env', σ', z', hq, S'⟩
    | ret => exact ⟨env', σ', z', hq, S'⟩
    | panic ch => exact ⟨env', σ', z', hq, S'⟩
    | outgrown => exact ⟨env', σ', z', hq, S'⟩
  | .cond c x y, env, σ, z, Q, hv => by
    intro a w S
    simp only [vcItC, fEnv_eq] at hv
    split at hv
    · rename_i b hb
      obtain ⟨⟨r, D, O, H, hO, E, hj⟩, hd⟩ := S
      have S : IS N B Ig JX z env σ a w := ⟨⟨r, D, O, H, hO, E, hj⟩, hd⟩
      have hc := evA_VR E c
      rw [hb] at hc
      have hcv : a.eval c = .bool b := by generalize a.eval c = z at hc; cases hc; rfl
      rcases Br.cases hv with ⟨rfl, h⟩ | ⟨rfl, h⟩
      · exact wpIn_cond_true hcv (vcItC_sound hcx hpc hI hlp x _ σ z Q h a w (S.setC hb))
      · exact wpIn_cond_false hcv (vcItC_sound hcx hpc hI hlp y _ σ z Q h a w (S.setC hb))
    · exact hv.elim
  | .block id c, env, σ, z, Q, hv => by
    intro a w S
    simp only [vcItC] at hv
    refine wpIn_block (Code.wpIn_mono (fun e a' w' h => ?_) (vcItC_sound hcx hpc hI hlp c env σ z _ hv a w S))
    obtain ⟨env', σ', z', hq, S'⟩ := h
    cases e with
    | exit id' =>
      by_cases hid : id' = id
      · subst hid
        simp only [Exit.inBlock, if_true]
        exact ⟨env', σ', z', by simpa [blockI] using hq, S'⟩
      · simp only [Exit.inBlock, hid, if_false]
        have : Nat.beq id' id = false := by rw [Bool.eq_false_iff]; intro hb; exact hid (Nat.eq_of_beq_eq_true hb)
        exact ⟨env', σ', z', by simpa [blockI, this] using hq, S'⟩
    | normal => exact ⟨env', σ', z', hq, S'⟩
    | goto l => exact ⟨env', σ', z', hq, S'⟩
    | ret => exact ⟨env', σ', z', hq, S'⟩
    | panic ch => exact ⟨env', σ', z', hq, S'⟩
    | outgrown => exact ⟨env', σ', z', hq, S'⟩
  | .loop c, env, σ, z, Q, hv => hlp c env σ z Q hv
  | .exit id, env, σ, z, Q, hv => fun a w S => wpIn_exit ⟨env, σ, z, hv, S⟩
  | .ret, env, σ, z, Q, hv => fun a w S => wpIn_ret ⟨env, σ, z, hv, S⟩
  | .rangeFunc _ _ _ _, _, _, _, _, hv => hv.elim
  | .scope _, _, _, _, _, hv => hv.elim
  | .label _, _, _, _, _, hv => hv.elim
  | .goto _, _, _, _, _, hv => hv.elim
  | .refuse _, _, _, _, _, hv => hv.elim

/-- So many rounds of an iterator's own loop. -/
def LoopI (va : Code → Env → St → Zs → IQ → Prop) (c : Code) (Q : IQ) : Nat → Env → St → Zs → Prop
  | 0, _, _, _ => False
  | m + 1, env, σ, z => va c env σ z (seqI (LoopI va c Q m) Q)

theorem loopI_sound {c : Code} {Q : IQ} : ∀ (m : Nat) {env : Env} {σ : St} {z : Zs}, LoopI (AwpI P N B Ig JX) c Q m env σ z → AwpI P N B Ig JX (.loop c) env σ z Q := by
  intro m env σ z hv a w S
  refine wpIn_loop_rounds m ?_
  induction m generalizing env σ z a w with
  | zero => exact hv.elim
  | succ m ih =>
    refine Code.wpIn_mono (fun e a' w' h => ?_) (hv a w S)
    obtain ⟨env', σ', z', hq, S'⟩ := h
    cases e with
    | normal => exact ih hq a' w' S'
    | exit id => exact ⟨env', σ', z', hq, S'⟩
    | goto l => exact ⟨env', σ', z', hq, S'⟩
    | ret => exact ⟨env', σ', z', hq, S'⟩
    | panic ch => exact ⟨env', σ', z', hq, S'⟩
    | outgrown => exact ⟨env', σ', z', hq, S'⟩

theorem LoopI.mono {va vb : Code → Env → St → Zs → IQ → Prop} (h : ∀ c env σ z Q, va c env σ z Q → vb c env σ z Q) {c : Code} {Q : IQ} : ∀ (m : Nat) {env : Env} {σ : St} {z : Zs}, (∀ Q1 Q2 : IQ, (∀ e env σ z, Q1 e env σ z → Q2 e env σ z) → ∀ env σ z, vb c env σ z Q1 → vb c env σ z Q2) → LoopI va c Q m env σ z → LoopI vb c Q m env σ z
  | 0, _, _, _, _, hv => hv.elim
  | m + 1, env, σ, z, hm, hv => hm _ _ (fun e env σ z hq => by
      cases e with
      | normal => exact LoopI.mono h m hm hq
      | _ => exact hq) _ _ _ (h _ _ _ _ _ hv)

theorem AwpI.mono {c : Code} {env : Env} {σ : St} {z : Zs} {Q1 Q2 : IQ} (hq : ∀ e env σ z, Q1 e env σ z → Q2 e env σ z) (h : AwpI P N B Ig JX c env σ z Q1) : AwpI P N B Ig JX c env σ z Q2 :=
  fun a w S => Code.wpIn_mono (fun e a' w' ⟨env', σ', z', q, S'⟩ => ⟨env', σ', z', hq _ _ _ _ q, S'⟩) (h a w S)

/-- A contract of an iterator out of its body. -/
theorem it_of_body {T : Tab} (hT : TabOK P T) {g : FuncId} {fn : Func} {c : Code} (hf : P.funcs[g]? = some fn) (hfn : FnOK P g) (hb : fn.body = some c) {c0 c1 : List AV} {xs : List (List AV)} (hle : c0.length + 1 + c1.length ≤ fn.ntmps)
    (hv : ∀ (B : Nat) (Ig : Imm) (l : Nat) (JX : Zs → (Nat → Prop) → World → Prop), ItEnv P B Ig l JX → AwpI P fn.ntmps B Ig JX c (env0 0 ((c0 ++ [AV.yld l]) ++ c1)) ⟨[], 0⟩ (some xs)
      (fun e env' σ' z => (e = .normal ∨ e = .ret) ∧ (z = some [] ∨ z = none) ∧ ∃ vs, vcRes T env' σ'.get fn.results.toList = some vs)) : ItOK P g c0 c1 xs := by
  refine ⟨hfn, fun I W v0 v1 l J X hlt hv0 hv1 R J0 => ?_⟩
  let JX : Zs → (Nat → Prop) → World → Prop := fun z O w => match z with
    | some zs => ∃ i, i ≤ xs.length ∧ xs.drop i = zs ∧ J i O w
    | none => X O w
  have hI : ItEnv P W.heap.size I l JX := by
    refine ⟨hlt, fun z O w w' hj hc => ?_, fun x zs O w ys hj hvx => ?_⟩
    · cases z with
      | none => exact R.growX O w w' hj hc
      | some zs => obtain ⟨i, h1, h2, h3⟩ := hj; exact ⟨i, h1, h2, R.grow i O w w' h3 hc⟩
    · obtain ⟨i, h1, h2, h3⟩ := hj
      have hx : xs[i]? = some x := by
        have := congrArg (fun l => l[0]?) h2
        simpa [List.getElem?_drop] using this
      have hil := (List.getElem?_eq_some_iff.1 hx).1
      obtain ⟨fn', tmps, assign, body, q1, q2⟩ := R.round i x O w ys hx h3 hvx
      refine ⟨fn', tmps, assign, body, q1, q2.mono fun e w' hh => ?_⟩
      obtain ⟨b, p1, p2, p3, p4, p5, p6⟩ := hh
      refine ⟨b, p1, p2, p3, p4, fun hb => ⟨i + 1, hil, ?_, p5 hb⟩, p6⟩
      have := congrArg List.tail h2
      simpa using this
  have hargs : VRs r0 I W (fun _ => False) ((c0 ++ [AV.yld l]) ++ c1) ((v0 ++ #[Value.func (.yield l) #[] #[]]) ++ v1) :=
    (hv0.append ⟨rfl, fun i c v hc hv' => by
      cases i with
      | zero => simp at hc hv'; subst hc; subst hv'; exact .yld _ _
      | succ i => simp at hc⟩).append hv1
  refine callsIn_of_wp_marks hf hb trivial ?_
  have hsz : ((v0 ++ #[Value.func (.yield l) #[] #[]]) ++ v1).size = ((c0 ++ [AV.yld l]) ++ c1).length := hargs.1
  have hlen : ((c0 ++ [AV.yld l]) ++ c1).length = c0.length + 1 + c1.length := by simp; omega
  have S : IS fn.ntmps W.heap.size I JX (some xs) (env0 0 ((c0 ++ [AV.yld l]) ++ c1)) ⟨[], 0⟩ { tmps := ((v0 ++ #[Value.func (.yield l) #[] #[]]) ++ v1) ++ Array.replicate (fn.ntmps - ((v0 ++ #[Value.func (.yield l) #[] #[]]) ++ v1).size) undef, defers := [] } W := by
    refine ⟨⟨r0, fun _ => False, fun _ => False, ⟨Below.refl _ _, Nat.le_refl _, hlt, fun _ h => h.elim, fun id h => by simp [St.get, hget, ABlk.live] at h, fun id => by simp [St.get, hget, BlkOK], fun id id' h => by simp [St.get, hget, ABlk.live] at h, fun b o hp => ?_, fun b o hp => ?_, fun _ _ h => .inl h⟩, fun b hb => hb.elim, ⟨by simp at hsz ⊢; omega, fun i => ?_⟩, ⟨0, Nat.zero_le _, rfl, J0⟩⟩, rfl⟩
    · obtain ⟨h1, _, h2⟩ := hp
      have := (Array.getElem?_eq_some_iff.1 h2).1
      omega
    · obtain ⟨h1, _, h2⟩ := hp
      have := (Array.getElem?_eq_some_iff.1 h2).1
      omega
    · rw [env0_get]
      simp only [Nat.zero_le, if_true, Nat.sub_zero]
      cases hi : ((c0 ++ [AV.yld l]) ++ c1)[i]? with
      | none => simp; exact .any _ _
      | some v =>
        have hlt : i < ((v0 ++ #[Value.func (.yield l) #[] #[]]) ++ v1).size := by rw [hsz]; exact (List.getElem?_eq_some_iff.1 hi).1
        have hgo := hargs.2 i v (((v0 ++ #[Value.func (.yield l) #[] #[]]) ++ v1)[i]'hlt) hi (by simp [hlt])
        generalize ((v0 ++ #[Value.func (.yield l) #[] #[]]) ++ v1) = vv at hlt hgo
        simpa [Array.getD_eq_getD_getElem?, Array.getElem?_append, hlt] using hgo
  refine Code.wpIn_mono (fun e a' w' hp => ?_) (hv _ _ _ _ hI _ _ S)
  obtain ⟨env', σ', z', ⟨he, hz, vs, hres⟩, ⟨⟨r, D, O, H, hO, E, hj⟩, hd⟩⟩ := hp
  obtain ⟨x, h1, h2⟩ := results_sim hT H E hres
  have hfin : ∃ x, (results fn a'.tmps).run P w' = .ok x w' ∧ (∃ v, Ending.returned x = .returned v ∧ ((∃ O, J xs.length O w') ∨ ∃ O, X O w')) := by
    refine ⟨x, h1, x, rfl, ?_⟩
    rcases hz with rfl | rfl
    · obtain ⟨i, q1, q2, q3⟩ := hj
      have : i = xs.length := by
        have := congrArg List.length q2
        simp at this; omega
      subst this
      exact .inl ⟨O, q3⟩
    · exact .inr ⟨O, hj⟩
  have hL : LeavesInM Fence.wide 0 P fn a'.tmps (fun e w' => ∃ v, e = .returned v ∧ ((∃ O, J xs.length O w') ∨ ∃ O, X O w')) a'.defers .returning w' := by
    rw [hd]; exact hfin
  rcases he with rfl | rfl
  · exact hL
  · exact hL
end Go.Sx
namespace Go.Sx
open Go Go.RowKit

variable {r r' : Locs} {D D' : Nat → Prop} {I I' : Imm} {w w' w0 : World} {I0 : Imm} {B n n' k N : Nat} {pr pr' : Nat → Obj → Prop} {h : Nat → ABlk} {P : Program}

/-! ### A body by its meaning -/
theorem body_awp {T : Tab} (hT : TabOK P T) {f : FuncId} {fn : Func} (hf : P.funcs[f]? = some fn) {c : Code} (hb : fn.body = some c) {args : List AV} (hle : args.length ≤ fn.ntmps) {σ : St} {K : AV → St → Prop} (hv : Awp P fn.ntmps c (env0 0 args) σ (retQ T fn.results.toList K)) : SemCall P f args σ K := by
  intro B w0 I0 pr r I D w vs H hargs
  refine callsIn_of_wp_marks hf hb trivial ?_
  have hsz : vs.size = args.length := hargs.1
  have S : SR B w0 I0 pr fn.ntmps r I D (env0 0 args) σ { tmps := vs ++ Array.replicate (fn.ntmps - vs.size) undef, defers := [] } w := by
    refine ⟨H, by simp; omega, fun i => ?_⟩
    rw [env0_get]
    simp only [Nat.zero_le, if_true, Nat.sub_zero]
    cases hi : args[i]? with
    | none => simp; exact .any _ _
    | some v =>
      have hlt : i < vs.size := by rw [hsz]; exact (List.getElem?_eq_some_iff.1 hi).1
      have := hargs.2 i v vs[i] hi (by simp [hlt])
      simpa [Array.getD_eq_getD_getElem?, Array.getElem?_append, hlt] using this
  refine Code.wpIn_mono (fun e a' w' hp => ?_) (hv Fence.wide B w0 I0 pr r I D _ w (.inl rfl) (fun l hl => by cases hl) S)
  have fin : ∀ (pr' : Nat → Obj → Prop) (ms : List Deferred) (env' : Env) (σ' : St) (r' : Locs) (I' : Imm) (D' : Nat → Prop), (∀ b o, pr b o → pr' b o) → Mk w pr' ms → ms.Pairwise (fun a b => a.target ≠ b.target) → a'.defers = ms ++ [] →
      (Got (vcRes T env' σ'.get fn.results.toList) fun vs => K (resV vs) σ') → SR B w0 I0 pr' fn.ntmps r' I' D' env' σ' a' w' → Step r D I w r' D' I' w' →
      LeavesInM Fence.wide 0 P fn a'.tmps (fun e w' => ∃ x v σ' r' I' D', e = .returned x ∧ K v σ' ∧ HR B w0 I0 pr r' I' D' σ'.get σ'.next w' ∧ VR r' I' w' D' v x ∧ Step r D I w r' D' I' w') a'.defers .returning w' := by
    intro pr' ms env' σ' r' I' D' p1 m1 n1 d1 q1 s1 t1
    obtain ⟨us, hus, hk⟩ := Got.cases q1
    rw [d1, List.append_nil]
    refine leaves_marks hT ms (pr := pr) m1 n1 (fun x o hx => ⟨p1 x o hx, (Array.getElem?_eq_some_iff.1 (H.prot x o hx).1).1⟩) s1.hr s1.er hus (fun x w2 H2 S2 V2 => ?_)
    exact ⟨x, resV us, σ', r', I', D', rfl, hk, H2, V2, t1.trans S2⟩
  obtain ⟨pr', ms, env', σ', r', I', D', p1, m1, n1, d1, q1, s1, t1, z1⟩ := hp
  cases e with
  | normal => exact fin pr' ms env' σ' r' I' D' p1 m1 n1 d1 q1 s1 t1
  | ret => exact fin pr' ms env' σ' r' I' D' p1 m1 n1 d1 q1 s1 t1
  | _ => exact q1.elim

theorem SemCall.mono {f : FuncId} {args : List AV} {σ : St} {K K' : AV → St → Prop} (h : SemCall P f args σ K) (hk : ∀ v σ, K v σ → K' v σ) : SemCall P f args σ K' := fun B w0 I0 pr r I D w vs H hv => (h B w0 I0 pr r I D w vs H hv).mono fun e w' ⟨x, v, σ', r', I', D', h1, h2, h3⟩ => ⟨x, v, σ', r', I', D', h1, hk _ _ h2, h3⟩

theorem pcall_of_sem {f : FuncId} (hfn : FnOK P f) {args : List AV} {res : PRes} (hids : idsLt res.blks.length res.v = true) (hv : SemCall P f args ⟨[], 0⟩ (Exports res)) : PCall P f args res := by
  refine ⟨hfn, fun I w vs hI hargs => ?_⟩
  have H : HR w.heap.size w I (fun _ _ => False) r0 I (fun _ => False) (St.get ⟨[], 0⟩) 0 w :=
    ⟨Below.refl _ _, Nat.le_refl _, hI, fun _ h => h.elim, fun id h => by simp [St.get, hget, ABlk.live] at h, fun id => by simp [St.get, hget, BlkOK], fun id id' h => by simp [St.get, hget, ABlk.live] at h, fun _ _ h => h.elim, fun _ _ h => h.elim, fun _ _ h => .inl h⟩
  refine (hv w.heap.size w I (fun _ _ => False) r0 I (fun _ => False) w vs H hargs).mono fun e w' hh => ?_
  obtain ⟨x, v, σ', r', I', D', rfl, ⟨ids, hnd, hlen, hren, hrows⟩, H', V', S'⟩ := hh
  refine ⟨x, fun j => r' (listed ids j), I', rfl, H'.below, fun b o h => (S'.imm b o h).1, H'.immB, H'.imm, fun j p hj => ?_, fun j j' h1 h2 hne => ?_, ?_⟩
  · have hr := hrows j p hj
    have hB := H'.blk (listed ids j)
    have hl : (σ'.get (listed ids j)).live = true := by rw [hr]; rfl
    have hd := H'.live _ hl
    rw [hr] at hB
    obtain ⟨g1, g2, g3, cs, T, fz, g4, g5, g6, g7, g8⟩ := hB
    refine ⟨(g7 rfl).1, (H'.dom _ hd).2, g1, g2, g3, cs, T, fz, g4, g5, fun i e j' c hi hj' => ?_, fun _ => g7 rfl, by simp⟩
    obtain ⟨u, a, b⟩ := g6 i e j' c hi hj'
    exact ⟨u, a, b.mono ⟨fun _ h => by simp at h, fun _ _ h => ⟨h, rfl⟩, Nat.le_refl _⟩⟩
  · have h1' : j < ids.length := by omega
    have h2' : j' < ids.length := by omega
    have e1 := hrows j _ (List.getElem?_eq_getElem h1)
    have e2 := hrows j' _ (List.getElem?_eq_getElem h2)
    refine H'.inj _ _ (by rw [e1]; rfl) (by rw [e2]; rfl) (fun e => hne ?_)
    have q1 := listed_get ids j h1'
    have q2 := listed_get ids j' h2'
    rw [e] at q1
    exact (List.getElem?_inj h1' hnd).1 (q1.trans q2.symm)
  · rw [hren] at V'
    exact VR.unren (r := r') (f := listed ids) (D' := fun i => i < res.blks.length) (fun j hj => ⟨hj, rfl⟩) res.v V' hids

/-! ### Loops of a frame -/
def LoopN (P : Program) (N : Nat) (c : Code) (Q : Exit → Env → St → Prop) : Nat → Env → St → Prop
  | 0, _, _ => False
  | m + 1, env, σ => Awp P N c env σ (seqQ (LoopN P N c Q m) Q)

theorem loopN_sound {c : Code} {Q : Exit → Env → St → Prop} {m : Nat} {env : Env} {σ : St} (hv : LoopN P N c Q m env σ) : Awp P N (.loop c) env σ Q := by
  intro F B w0 I0 pr r I D a w hF hR S
  refine wpIn_loop_rounds m ?_
  have key : ∀ (m : Nat) (env : Env) (σ : St) (pr1 : Nat → Obj → Prop) (r1 : Locs) (I1 : Imm) (D1 : Nat → Prop) (a1 : Act) (w1 : World) (ms : List Deferred), (∀ b o, pr b o → pr1 b o) → Mk w pr1 ms → ms.Pairwise (fun a b => a.target ≠ b.target) → a1.defers = ms ++ a.defers → LoopN P N c Q m env σ →
      SR B w0 I0 pr1 N r1 I1 D1 env σ a1 w1 → Step r D I w r1 D1 I1 w1 → w.heap.size ≤ w1.heap.size → Code.roundsIn F 0 P c (Post B w0 I0 pr N r I D w a.defers Q) m a1 w1 := by
    intro m
    induction m with
    | zero => intro env σ pr1 r1 I1 D1 a1 w1 ms _ _ _ _ hv; exact hv.elim
    | succ m ih =>
      intro env σ pr1 r1 I1 D1 a1 w1 ms p1 m1 n1 d1 hv s1 t1 z1
      refine Code.wpIn_mono (fun e a2 w2 hp => ?_) (hv F B w0 I0 pr1 r1 I1 D1 a1 w1 hF (hR.le p1) s1)
      obtain ⟨pr2, ms2, env2, σ2, r2, I2, D2, p2, m2, n2, d2, q2, s2, t2, z2⟩ := hp
      have hM : Mk w pr2 (ms2 ++ ms) := by
        intro d hd
        rcases List.mem_append.1 hd with h | h
        · obtain ⟨b, g1, g2, g3⟩ := m2 d h
          exact ⟨b, g1, g2, Nat.le_trans z1 g3⟩
        · obtain ⟨b, g1, g2, g3⟩ := m1 d h
          exact ⟨b, g1, p2 _ _ g2, g3⟩
      have hN : (ms2 ++ ms).Pairwise (fun a b => a.target ≠ b.target) := by
        refine List.pairwise_append.2 ⟨n2, n1, fun x hx y hy e => ?_⟩
        obtain ⟨b, g1, g2, g3⟩ := m2 x hx
        obtain ⟨b', g1', g2', g3'⟩ := m1 y hy
        have := (Array.getElem?_eq_some_iff.1 (s1.hr.prot _ _ g2').1).1
        rw [g1, g1'] at e
        simp only [Target.collected.injEq] at e
        omega
      have hD : a2.defers = (ms2 ++ ms) ++ a.defers := by rw [d2, d1, List.append_assoc]
      have hout : ∀ e', Q e' env2 σ2 → Post B w0 I0 pr N r I D w a.defers Q e' a2 w2 := fun e' hq => ⟨pr2, ms2 ++ ms, env2, σ2, r2, I2, D2, fun b o h => p2 _ _ (p1 _ _ h), hM, hN, hD, hq, s2, t1.trans t2, Nat.le_trans z1 z2⟩
      cases e with
      | normal => exact ih env2 σ2 pr2 r2 I2 D2 a2 w2 (ms2 ++ ms) (fun b o h => p2 _ _ (p1 _ _ h)) hM hN hD q2 s2 (t1.trans t2) (Nat.le_trans z1 z2)
      | exit id => exact hout _ q2
      | goto l => exact hout _ q2
      | ret => exact hout _ q2
      | panic ch => exact hout _ q2
      | outgrown => exact hout _ q2
  exact key m env σ pr r I D a w [] (fun _ _ h => h) (fun d hd => by simp at hd) .nil (by simp) hv S (Step.refl _ _ _ _) (Nat.le_refl _)

theorem Awp.mono {c : Code} {env : Env} {σ : St} {Q Q' : Exit → Env → St → Prop} (h : Awp P N c env σ Q) (hq : ∀ e env σ, Q e env σ → Q' e env σ) : Awp P N c env σ Q' :=
  fun F B w0 I0 pr r I D a w hF hR S => Code.wpIn_mono (fun e a' w' hp => hp.mono fun _ _ q => hq _ _ _ q) (h F B w0 I0 pr r I D a w hF hR S)

/-- What is known may be forgotten. -/
def Forget (env : Env) (σ : St) (env' : Env) (σ' : St) : Prop := (∀ i, env'.get i = env.get i ∨ env'.get i = .any) ∧ (∀ i, σ'.get i = σ.get i ∨ σ'.get i = .dead) ∧ σ'.next = σ.next

theorem HR.kills (H : HR B w0 I0 pr r I D h n w) {h' : Nat → ABlk} (hk : ∀ i, h' i = h i ∨ h' i = .dead) : HR B w0 I0 pr r I D h' n w := by
  have hl : ∀ i, (h' i).live = true → (h i).live = true := by
    intro i hi
    rcases hk i with e | e
    · rwa [e] at hi
    · rw [e] at hi; simp [ABlk.live] at hi
  refine ⟨H.below, H.base, H.imm, H.dom, fun i hi => H.live i (hl i hi), fun i => ?_, fun i j hi hj => H.inj i j (hl i hi) (hl j hj), H.prot, fun b o hp => ⟨fun i hi => (H.protK b o hp).1 i (hl i hi), (H.protK b o hp).2⟩, H.immB⟩
  rcases hk i with e | e
  · rw [e]; exact H.blk i
  · rw [e]; trivial

theorem SR.forget {env env' : Env} {σ σ' : St} {a : Act} (S : SR B w0 I0 pr N r I D env σ a w) (h : Forget env σ env' σ') : SR B w0 I0 pr N r I D env' σ' a w :=
  ⟨by have := S.hr.kills h.2.1; rw [h.2.2]; exact this, S.er.1, fun i => by rcases h.1 i with e | e <;> rw [e]; exact S.er.2 i; exact .any _ _⟩

theorem Awp.forgets {c : Code} {env : Env} {σ : St} {Q Q' : Exit → Env → St → Prop} (h : Awp P N c env σ Q) (hq : ∀ e env σ, Q e env σ → ∃ env' σ', Forget env σ env' σ' ∧ Q' e env' σ') : Awp P N c env σ Q' :=
  fun F B w0 I0 pr r I D a w hF hR S => Code.wpIn_mono (fun e a' w' hp => by
    obtain ⟨pr1, ms1, env1, σ1, r1, I1, D1, p1, m1, n1, d1, q1, s1, t1, z1⟩ := hp
    obtain ⟨env2, σ2, hf, q2⟩ := hq _ _ _ q1
    exact ⟨pr1, ms1, env2, σ2, r1, I1, D1, p1, m1, n1, d1, q2, s1.forget hf, t1, z1⟩) (h F B w0 I0 pr r I D a w hF hR S)
end Go.Sx
namespace Go.Sx
open Go

/-! ### Forcing: what the kernel is to reckon before it goes on -/
def forceB {α : Type} (b : Bool) (k : Bool → α) : α := match b with
  | true => k true
  | false => k false
theorem forceB_eq {α : Type} (b : Bool) (k : Bool → α) : forceB b k = k b := by cases b <;> rfl

def forceN {α : Type} (n : Nat) (k : Nat → α) : α := match n with
  | 0 => k 0
  | m + 1 => k (m + 1)
theorem forceN_eq {α : Type} (n : Nat) (k : Nat → α) : forceN n k = k n := by cases n <;> rfl

def forceI {α : Type} (n : Int) (k : Int → α) : α := match n with
  | .ofNat m => forceN m fun m => k (.ofNat m)
  | .negSucc m => forceN m fun m => k (.negSucc m)
theorem forceI_eq {α : Type} (n : Int) (k : Int → α) : forceI n k = k n := by cases n <;> simp [forceI, forceN_eq]

mutual
def forceA {α : Type} : AV → (AV → α) → α
  | .any, k => k .any
  | .bool b, k => forceB b fun b => k (.bool b)
  | .int d n, k => forceI n fun n => k (.int d n)
  | .flt d n, k => forceN n fun n => k (.flt d n)
  | .str s, k => k (.str s)
  | .ptr a b c, k => forceN a fun a => forceN b fun b => forceN c fun c => k (.ptr a b c)
  | .ipt cs, k => forceL cs fun cs => k (.ipt cs)
  | .nilp, k => k .nilp
  | .nils, k => k .nils
  | .asl a b c, k => forceN a fun a => forceN b fun b => forceN c fun c => k (.asl a b c)
  | .bsl a b c d e, k => forceN a fun a => forceN b fun b => forceN c fun c => forceN d fun d => forceN e fun e => k (.bsl a b c d e)
  | .isl n els, k => forceN n fun n => forceLL els fun els => k (.isl n els)
  | .amap a, k => forceN a fun a => k (.amap a)
  | .func f c0 c1, k => forceN f fun f => forceL c0 fun c0 => forceL c1 fun c1 => k (.func f c0 c1)
  | .yld l, k => forceN l fun l => k (.yld l)
  | .agg cs, k => forceL cs fun cs => k (.agg cs)
  | .tup cs, k => forceL cs fun cs => k (.tup cs)
def forceL {α : Type} : List AV → (List AV → α) → α
  | [], k => k []
  | c :: cs, k => forceA c fun c => forceL cs fun cs => k (c :: cs)
def forceLL {α : Type} : List (List AV) → (List (List AV) → α) → α
  | [], k => k []
  | c :: cs, k => forceL c fun c => forceLL cs fun cs => k (c :: cs)
end
mutual
theorem forceA_eq {α : Type} : ∀ (v : AV) (k : AV → α), forceA v k = k v
  | .any, k => rfl
  | .bool b, k => by simp only [forceA, forceB_eq]
  | .int d n, k => by simp only [forceA, forceI_eq]
  | .flt d n, k => by simp only [forceA, forceN_eq]
  | .str s, k => rfl
  | .ptr a b c, k => by simp only [forceA, forceN_eq]
  | .ipt cs, k => by simp only [forceA, forceL_eq cs]
  | .nilp, k => rfl
  | .nils, k => rfl
  | .asl a b c, k => by simp only [forceA, forceN_eq]
  | .bsl a b c d e, k => by simp only [forceA, forceN_eq]
  | .isl n els, k => by simp only [forceA, forceN_eq, forceLL_eq els]
  | .amap a, k => by simp only [forceA, forceN_eq]
  | .func f c0 c1, k => by simp only [forceA, forceN_eq, forceL_eq c0, forceL_eq c1]
  | .yld l, k => by simp only [forceA, forceN_eq]
  | .agg cs, k => by simp only [forceA, forceL_eq cs]
  | .tup cs, k => by simp only [forceA, forceL_eq cs]
theorem forceL_eq {α : Type} : ∀ (cs : List AV) (k : List AV → α), forceL cs k = k cs
  | [], k => rfl
  | c :: cs, k => by simp only [forceL, forceA_eq c, forceL_eq cs]
theorem forceLL_eq {α : Type} : ∀ (cs : List (List AV)) (k : List (List AV) → α), forceLL cs k = k cs
  | [], k => rfl
  | c :: cs, k => by simp only [forceLL, forceL_eq c, forceLL_eq cs]
end

def forceK {α : Type} (b : ABlk) (k : ABlk → α) : α := match b with
  | .row es elems mt pu => forceN es fun es => forceLL elems fun elems => forceB mt fun mt => forceB pu fun pu => k (.row es elems mt pu)
  | .map l => k (.map l)
  | .set l => k (.set l)
  | .dead => k .dead
theorem forceK_eq {α : Type} (b : ABlk) (k : ABlk → α) : forceK b k = k b := by cases b <;> simp only [forceK, forceN_eq, forceB_eq, forceLL_eq]

def forceE {α : Type} (e : Eff) (k : Eff → α) : α := match e with
  | .none => k .none
  | .add b => forceK b fun b => k (.add b)
  | .put id b => forceN id fun id => forceK b fun b => k (.put id b)
  | .app id b => forceN id fun id => forceK b fun b => k (.app id b)
theorem forceE_eq {α : Type} (e : Eff) (k : Eff → α) : forceE e k = k e := by cases e <;> simp only [forceE, forceN_eq, forceK_eq]

def forceS {α : Type} (σ : St) (k : St → α) : α := match σ with
  | ⟨hp, nx⟩ => forceN nx fun nx => match hp with
    | [] => k ⟨[], nx⟩
    | (i, b) :: t => forceN i fun i => k ⟨(i, b) :: t, nx⟩
theorem forceS_eq {α : Type} (σ : St) (k : St → α) : forceS σ k = k σ := by
  obtain ⟨hp, nx⟩ := σ
  cases hp with
  | nil => simp only [forceS, forceN_eq]
  | cons p t => simp only [forceS, forceN_eq]
end Go.Sx
namespace Go.Sx
open Go Go.RowKit

variable {P : Program} {N : Nat}

abbrev CF := FuncId → List AV → St → Option (AV × St)

def putE (N : Nat) (dst : Option Nat) (v : AV) (env : Env) : Option Env := match dst with
  | none => some env
  | some d => cond (Nat.blt d N) (forceA v fun v => some ((d, v) :: env)) none

def exOp (T : Tab) (ok : TypeId → Bool) (cf : CF) (N : Nat) (o : Oper) (env : Env) (σ : St) : Option (Env × St) :=
  match o.op with
  | .call { callee := .value f, args, .. } => match evA env f with
    | .func g c0 c1 => match cf g ((c0 ++ evAll (evA env) args.toList) ++ c1) σ with
      | some (v, σ') => match putE N o.dst v env with
        | some env' => some (env', σ')
        | none => none
      | none => none
    | _ => none
  | op => match aop T ok σ.next (evA env) σ.get op with
    | some (v, e) => match putE N o.dst v env with
      | some env' => forceE e fun e => forceS (e.st σ) fun σ' => some (env', σ')
      | none => none
    | none => none

def exOps (T : Tab) (ok : TypeId → Bool) (cf : CF) (N : Nat) (ops : List Oper) : List Oper → Env → St → Option (Env × St)
  | [], env, σ => some (env, σ)
  | o :: rest, env, σ =>
    match o.guard with
    | none => match exOp T ok cf N o env σ with
      | some (env', σ') => exOps T ok cf N ops rest env' σ'
      | none => none
    | some (j, want) => match guardTmp ops j with
      | none => none
      | some t => match env.get t with
        | .bool b => match b, want with
          | true, true => match exOp T ok cf N o ((t, .bool true) :: env) σ with
            | some (env', σ') => exOps T ok cf N ops rest env' σ'
            | none => none
          | false, false => match exOp T ok cf N o ((t, .bool false) :: env) σ with
            | some (env', σ') => exOps T ok cf N ops rest env' σ'
            | none => none
          | true, false => match putE N o.dst (.tup []) ((t, .bool true) :: env) with
            | some env' => exOps T ok cf N ops rest env' σ
            | none => none
          | false, true => match putE N o.dst (.tup []) ((t, .bool false) :: env) with
            | some env' => exOps T ok cf N ops rest env' σ
            | none => none
        | .tup [] => match putE N o.dst (.tup []) env with
          | some env' => exOps T ok cf N ops rest env' σ
          | none => none
        | _ => none

/-- The calculus whose calls are what they mean. -/
def cxS (P : Program) (T : Tab) (ok : TypeId → Bool) : Cx := ⟨T, ok, fun f args σ K => FnOK P f ∧ SemCall P f args σ K⟩
theorem cxS_ok {T : Tab} {ok : TypeId → Bool} (hT : TabOK P T) (hok : EqOK P ok) : CxOK P (cxS P T ok) := ⟨hT, hok, fun _ _ _ _ h => h⟩

def CFOK (P : Program) (cf : CF) : Prop := ∀ f args σ v σ', cf f args σ = some (v, σ') → FnOK P f ∧ SemCall P f args σ fun v2 σ2 => v2 = v ∧ σ2 = σ'

theorem putE_sound {dst : Option Nat} {v : AV} {env env' : Env} {K : Env → Prop} (h : putE N dst v env = some env') (hk : K env') : putEnv N dst v env K := by
  cases dst with
  | none => simp only [putE, Option.some.injEq] at h; subst h; exact hk
  | some d =>
    simp only [putE, forceA_eq] at h
    obtain ⟨h1, h2⟩ := cond_some h
    simp only [Option.some.injEq] at h2
    subst h2
    exact Br.intro (fun _ => hk) (fun h => by rw [h] at h1; cases h1)

theorem exOp_sound {T : Tab} {ok : TypeId → Bool} {cf : CF} (hcf : CFOK P cf) {o : Oper} {env env' : Env} {σ σ' : St} (h : exOp T ok cf N o env σ = some (env', σ')) {K : Env → St → Prop} (hk : K env' σ') : vcOp (cxS P T ok) N o env σ K := by
  unfold exOp at h
  unfold vcOp
  simp only [fA_eq, fSt_eq, fEff_eq]
  split at h
  · rename_i f args ts hop
    unfold callVal
    simp only [fL_eq]
    split at h
    · rename_i g c0 c1 hf
      split at h
      · rename_i v σ1 hc
        split at h
        · rename_i env1 hp
          cases h
          obtain ⟨h1, h2⟩ := hcf _ _ _ _ _ hc
          rw [hop]
          dsimp only
          rw [hf]
          exact ⟨h1, h2.mono fun v2 σ2 ⟨e1, e2⟩ => by subst e1; subst e2; exact putE_sound hp hk⟩
        · cases h
      · cases h
    · cases h
  · rename_i hne
    split at h
    · rename_i v e ha
      split at h
      · rename_i env1 hp
        rw [forceE_eq, forceS_eq] at h
        cases h
        split
        · rename_i f args ts hop
          exact (hne _ _ _ hop).elim
        · rename_i l ts hop
          exact .old (aopK.of (by rw [← hop]; exact ha) (putE_sound (K := fun env' => K env' (e.st σ)) hp hk))
        · exact aopK.of ha (putE_sound (K := fun env' => K env' (e.st σ)) hp hk)
      · cases h
    · cases h

theorem exOps_sound {T : Tab} {ok : TypeId → Bool} {cf : CF} (hcf : CFOK P cf) {ops : List Oper} : ∀ (l : List Oper) {env env' : Env} {σ σ' : St}, exOps T ok cf N ops l env σ = some (env', σ') → ∀ {K : Env → St → Prop}, K env' σ' → vcOps (cxS P T ok) N ops l env σ K
  | [], env, env', σ, σ', h, K, hk => by simp only [exOps, Option.some.injEq, Prod.mk.injEq] at h; obtain ⟨rfl, rfl⟩ := h; exact hk
  | o :: rest, env, env', σ, σ', h, K, hk => by
    simp only [exOps] at h
    simp only [vcOps]
    have go : ∀ e0, (match exOp T ok cf N o e0 σ with
        | some (env', σ') => exOps T ok cf N ops rest env' σ'
        | none => none) = some (env', σ') → vcOp (cxS P T ok) N o e0 σ fun env' σ' => vcOps (cxS P T ok) N ops rest env' σ' K := by
      intro e0 h
      split at h
      · rename_i env1 σ1 h1
        exact exOp_sound hcf h1 (exOps_sound hcf rest h hk)
      · cases h
    have skip : ∀ e0, (match putE N o.dst (.tup []) e0 with
        | some env' => exOps T ok cf N ops rest env' σ
        | none => none) = some (env', σ') → putEnv N o.dst (.tup []) e0 fun env' => vcOps (cxS P T ok) N ops rest env' σ K := by
      intro e0 h
      split at h
      · rename_i env1 h1
        exact putE_sound h1 (exOps_sound hcf rest h hk)
      · cases h
    cases hg : o.guard with
    | none => rw [hg] at h; exact go env h
    | some jw =>
      obtain ⟨j, want⟩ := jw
      rw [hg] at h
      dsimp only at h ⊢
      cases ht : guardTmp ops j with
      | none => rw [ht] at h; cases h
      | some t =>
        rw [ht] at h
        dsimp only at h ⊢
        split at h
        · rename_i b hb
          rw [hb]
          dsimp only
          split at h
          · exact go _ h
          · exact go _ h
          · exact skip _ h
          · exact skip _ h
        · rename_i hb
          rw [hb]
          exact skip _ h
        · cases h
end Go.Sx
namespace Go.Sx
open Go Go.RowKit

variable {P : Program} {N : Nat}

/-! ### Pieces of code by their meaning -/
def hdF : Hd := ⟨fun _ _ _ _ => False, fun _ _ _ _ _ _ _ => False, fun _ _ _ _ => False⟩
theorem hdF_ok : HdOK P N hdF := ⟨fun _ _ _ _ h => h.elim, fun _ _ _ _ _ _ _ h => h.elim, fun _ _ _ _ _ h => h.elim⟩

theorem awp_skip {env : Env} {σ : St} {Q : Exit → Env → St → Prop} (h : Q .normal env σ) : Awp P N .skip env σ Q := fun F B w0 I0 pr r I D a w hF hR S => wpIn_skip (Post.same S h rfl)
theorem awp_exit {id : Nat} {env : Env} {σ : St} {Q : Exit → Env → St → Prop} (h : Q (.exit id) env σ) : Awp P N (.exit id) env σ Q := fun F B w0 I0 pr r I D a w hF hR S => wpIn_exit (Post.same S h rfl)
theorem awp_ret {env : Env} {σ : St} {Q : Exit → Env → St → Prop} (h : Q .ret env σ) : Awp P N .ret env σ Q := fun F B w0 I0 pr r I D a w hF hR S => wpIn_ret (Post.same S h rfl)

theorem awp_region {cx : Cx} (hcx : CxOK P cx) {id : Nat} {ops : Array Oper} {env : Env} {σ : St} {Q : Exit → Env → St → Prop} (hn : noDefer ops.toList = true) (h : vcOps cx N ops.toList ops.toList env σ (Q .normal)) : Awp P N (.region id ops false) env σ Q := by
  refine vcCode_sound hcx (hdF_ok (P := P) (N := N)) (.region id ops false) env σ Q ?_
  simp only [vcCode, hn, cond_true]
  exact h

theorem awp_seq {x y : Code} {env : Env} {σ : St} {Q : Exit → Env → St → Prop} (h : Awp P N x env σ (seqQ (fun env' σ' => Awp P N y env' σ' Q) Q)) : Awp P N (.seq x y) env σ Q := by
  intro F B w0 I0 pr r I D a w hF hR S
  refine wpIn_seq (Code.wpIn_mono (fun e a' w' hp => ?_) (h F B w0 I0 pr r I D a w hF hR S))
  cases e with
  | normal =>
    obtain ⟨pr1, ms1, env1, σ1, r1, I1, D1, p1, m1, n1, d1, q1, s1, t1, z1⟩ := hp
    refine Code.wpIn_mono (fun e2 a2 w2 h2 => ?_) (q1 F B w0 I0 pr1 r1 I1 D1 a' w' hF (hR.le p1) s1)
    have h1 : Post B w0 I0 pr N r I D w a.defers (fun _ env' σ' => env' = env1 ∧ σ' = σ1) .normal a' w' := ⟨pr1, ms1, env1, σ1, r1, I1, D1, p1, m1, n1, d1, ⟨rfl, rfl⟩, s1, t1, z1⟩
    obtain ⟨pr2, ms2, env2, σ2, r2, I2, D2, p2, m2, n2, d2, q2, s2, t2, z2⟩ := h2
    refine ⟨pr2, ms2 ++ ms1, env2, σ2, r2, I2, D2, fun b o h => p2 _ _ (p1 _ _ h), ?_, ?_, by rw [d2, d1, List.append_assoc], q2, s2, t1.trans t2, Nat.le_trans z1 z2⟩
    · intro d hd
      rcases List.mem_append.1 hd with h | h
      · obtain ⟨b, g1, g2, g3⟩ := m2 d h
        exact ⟨b, g1, g2, Nat.le_trans z1 g3⟩
      · obtain ⟨b, g1, g2, g3⟩ := m1 d h
        exact ⟨b, g1, p2 _ _ g2, g3⟩
    · refine List.pairwise_append.2 ⟨n2, n1, fun x hx y hy e => ?_⟩
      obtain ⟨b, g1, g2, g3⟩ := m2 x hx
      obtain ⟨b', g1', g2', g3'⟩ := m1 y hy
      have := (Array.getElem?_eq_some_iff.1 (s1.hr.prot _ _ g2').1).1
      rw [g1, g1'] at e
      simp only [Target.collected.injEq] at e
      omega
  | exit id => exact hp.mono fun _ _ q => q
  | goto l => exact hp.mono fun _ _ q => q
  | ret => exact hp.mono fun _ _ q => q
  | panic ch => exact hp.mono fun _ _ q => q
  | outgrown => exact hp.mono fun _ _ q => q

theorem awp_cond {c : Operand} {x y : Code} {env : Env} {σ : St} {Q : Exit → Env → St → Prop} {b : Bool} (hb : evA env c = .bool b) (h : cond b (Awp P N x (setC env c true) σ Q) (Awp P N y (setC env c false) σ Q)) : Awp P N (.cond c x y) env σ Q := by
  intro F B w0 I0 pr r I D a w hF hR S
  have hc := evA_VR S.er c
  rw [hb] at hc
  have hcv : a.eval c = .bool b := by generalize a.eval c = z at hc; cases hc; rfl
  cases b with
  | true => exact wpIn_cond_true hcv (h F B w0 I0 pr r I D a w hF hR (setC_SR S hb))
  | false => exact wpIn_cond_false hcv (h F B w0 I0 pr r I D a w hF hR (setC_SR S hb))

theorem awp_block {id : Nat} {c : Code} {env : Env} {σ : St} {Q : Exit → Env → St → Prop} (h : Awp P N c env σ (blockQ id Q)) : Awp P N (.block id c) env σ Q := by
  intro F B w0 I0 pr r I D a w hF hR S
  refine wpIn_block (Code.wpIn_mono (fun e a' w' h => ?_) (h F B w0 I0 pr r I D a w hF hR S))
  cases e with
  | exit id' =>
    by_cases hid : id' = id
    · subst hid
      simp only [Exit.inBlock, if_true]
      exact h.mono fun _ _ q => by simpa [blockQ] using q
    · simp only [Exit.inBlock, hid, if_false]
      exact h.mono fun _ _ q => by
        have : Nat.beq id' id = false := by rw [Bool.eq_false_iff]; intro hb; exact hid (Nat.eq_of_beq_eq_true hb)
        simpa [blockQ, this] using q
  | normal => exact h.mono fun _ _ q => q
  | goto l => exact h.mono fun _ _ q => q
  | ret => exact h.mono fun _ _ q => q
  | panic ch => exact h.mono fun _ _ q => q
  | outgrown => exact h.mono fun _ _ q => q

/-! ### The evaluator -/
def exDop (T : Tab) (ok : TypeId → Bool) (pc : PC) (N : Nat) (o : Oper) (env : Env) (σ : St) (k : Nat) : Option (Rec × Env × St) :=
  match o.op with
  | .call { callee := .value f, args, .. } => match evA env f with
    | .func g c0 c1 => match viewL σ.get ((c0 ++ evAll (evA env) args.toList) ++ c1) with
      | some p => match pc g p.1 with
        | some res => match p.2, scalarAV res.v, res.blks with
          | [], _, _ => match putE N o.dst (renAV (fun j => k + j) res.v) env with
            | some env' => some (⟨o, k, res.blks.length + 1, renAV (fun j => k + j) res.v, rowPuts k res.blks, readsL σ.get ((c0 ++ evAll (evA env) args.toList) ++ c1)⟩, env', σ.putL (rowPuts k res.blks))
            | none => none
          | _, true, [] => match putE N o.dst (renAV (fun j => k + j) res.v) env with
            | some env' => some (⟨o, k, 1, renAV (fun j => k + j) res.v, [], readsL σ.get ((c0 ++ evAll (evA env) args.toList) ++ c1)⟩, env', σ)
            | none => none
          | _, _, _ => none
        | none => none
      | none => none
    | _ => none
  | op => match aop T ok k (evA env) σ.get op with
    | some p => match putE N o.dst p.1 env with
      | some env' => some (⟨o, k, 1, p.1, p.2.puts k, readsA (evA env) op⟩, env', σ.putL (p.2.puts k))
      | none => none
    | none => none

def exDskip (N : Nat) (o : Oper) (env : Env) (σ : St) (k : Nat) : Option (Rec × Env × St) :=
  match putE N o.dst (.tup []) env with
  | some env' => some (⟨o, k, 1, .tup [], [], []⟩, env', σ)
  | none => none

def exD (T : Tab) (ok : TypeId → Bool) (pc : PC) (N : Nat) (ops : List Oper) : List Oper → Env → St → Nat → List Rec → Option (List Rec × Env × St)
  | [], env, σ, k, acc => some (acc.reverse, env, { σ with next := k })
  | o :: rest, env, σ, k, acc =>
    match (match o.guard with
      | none => exDop T ok pc N o env σ k
      | some (j, want) => match guardTmp ops j with
        | none => none
        | some t => match env.get t with
          | .bool b => match b, want with
            | true, true => exDop T ok pc N o ((t, .bool true) :: env) σ k
            | false, false => exDop T ok pc N o ((t, .bool false) :: env) σ k
            | true, false => exDskip N o ((t, .bool true) :: env) σ k
            | false, true => exDskip N o ((t, .bool false) :: env) σ k
          | .tup [] => exDskip N o env σ k
          | _ => none) with
    | some (x, env', σ') => exD T ok pc N ops rest env' σ' (k + x.cnt) (x :: acc)
    | none => none

theorem exDop_sound {T : Tab} {ok : TypeId → Bool} {pc : PC} {o : Oper} {env : Env} {σ : St} {k : Nat} {x : Rec} {env' : Env} {σ' : St} (h : exDop T ok pc N o env σ k = some (x, env', σ')) {K : Rec → Env → St → Prop} (hk : K x env' σ') : vcDop (cxS P T ok) pc N o env σ k K := by
  unfold exDop at h
  rw [vcDop_eq]
  unfold vcDop0
  split at h
  · rename_i f args ts hop
    rw [hop]
    dsimp only
    split at h
    · rename_i g c0 c1 hf
      rw [hf]
      dsimp only
      split at h
      · rename_i p hp
        rw [hp]
        show Got (pc g p.1) _
        split at h
        · rename_i res hres
          rw [hres]
          dsimp only [Got]
          split at h
          · rename_i hp2
            rw [hp2]
            dsimp only
            split at h
            · rename_i env1 hput
              cases h
              exact putE_sound (K := fun env' => K _ env' _) hput hk
            · cases h
          · rename_i hp2 hs hb hne
            split at h
            · rename_i env1 hput
              cases h
              rw [hs, hb]
              split
              · rename_i e; exact (hne e).elim
              · exact putE_sound (K := fun env' => K _ env' _) hput hk
              · rename_i h1 h2
                exact (h2 rfl rfl).elim
            · cases h
          · cases h
        · cases h
      · cases h
    · cases h
  · rename_i hne
    split at h
    · rename_i p ha
      split at h
      · rename_i env1 hp
        cases h
        split
        · rename_i f args ts hop
          exact (hne _ _ _ hop).elim
        · exact aopK.of ha (putE_sound (K := fun env' => K _ env' _) hp hk)
      · cases h
    · cases h

theorem exDskip_sound {o : Oper} {env : Env} {σ : St} {k : Nat} {x : Rec} {env' : Env} {σ' : St} (h : exDskip N o env σ k = some (x, env', σ')) {K : Rec → Env → St → Prop} (hk : K x env' σ') : vcDskip N o env σ k K := by
  unfold exDskip at h
  split at h
  · rename_i env1 hp
    cases h
    exact putE_sound (K := fun env' => K _ env' _) hp hk
  · cases h
end Go.Sx
namespace Go.Sx
open Go Go.RowKit

variable {P : Program} {N : Nat}

theorem exD_sound {T : Tab} {ok : TypeId → Bool} {pc : PC} {ops : List Oper} : ∀ (l : List Oper) {env : Env} {σ : St} {k : Nat} {acc recs : List Rec} {env' : Env} {σ' : St}, exD T ok pc N ops l env σ k acc = some (recs, env', σ') →
    ∀ {K : List Rec → Env → St → Prop}, K recs env' σ' → vcD (cxS P T ok) pc N ops l env σ k acc K
  | [], env, σ, k, acc, recs, env', σ', h, K, hk => by simp only [exD, Option.some.injEq, Prod.mk.injEq] at h; obtain ⟨rfl, rfl, rfl⟩ := h; exact hk
  | o :: rest, env, σ, k, acc, recs, env', σ', h, K, hk => by
    simp only [exD] at h
    split at h
    · rename_i x env1 σ1 h1
      have hrest : vcD (cxS P T ok) pc N ops rest env1 σ1 (k + x.cnt) (x :: acc) K := exD_sound rest h hk
      simp only [vcD, fN_eq]
      cases hg : o.guard with
      | none =>
        rw [hg] at h1
        exact exDop_sound (K := fun x env' σ' => vcD (cxS P T ok) pc N ops rest env' σ' (k + x.cnt) (x :: acc) K) h1 hrest
      | some jw =>
        obtain ⟨j, want⟩ := jw
        rw [hg] at h1
        dsimp only at h1 ⊢
        cases ht : guardTmp ops j with
        | none => rw [ht] at h1; cases h1
        | some t =>
          rw [ht] at h1
          dsimp only at h1 ⊢
          split at h1
          · rename_i b hb
            rw [hb]
            dsimp only
            split at h1
            · exact exDop_sound (K := fun x env' σ' => vcD (cxS P T ok) pc N ops rest env' σ' (k + x.cnt) (x :: acc) K) h1 hrest
            · exact exDop_sound (K := fun x env' σ' => vcD (cxS P T ok) pc N ops rest env' σ' (k + x.cnt) (x :: acc) K) h1 hrest
            · exact exDskip_sound (K := fun x env' σ' => vcD (cxS P T ok) pc N ops rest env' σ' (k + x.cnt) (x :: acc) K) h1 hrest
            · exact exDskip_sound (K := fun x env' σ' => vcD (cxS P T ok) pc N ops rest env' σ' (k + x.cnt) (x :: acc) K) h1 hrest
          · rename_i hb
            rw [hb]
            exact exDskip_sound (K := fun x env' σ' => vcD (cxS P T ok) pc N ops rest env' σ' (k + x.cnt) (x :: acc) K) h1 hrest
          · cases h1
    · cases h

def exDraw (T : Tab) (ok : TypeId → Bool) (pc : PC) (N : Nat) (ops : List Oper) (env : Env) (σ : St) : Option (Env × St) :=
  cond (noDefer ops) (match exD T ok pc N ops ops env σ σ.next [] with
    | some (recs, env', σ') => cond (drawOk ops recs) (some (env', σ')) none
    | none => none) none

theorem exDraw_sound {T : Tab} {ok : TypeId → Bool} {pc : PC} {ops : List Oper} {env env' : Env} {σ σ' : St} (h : exDraw T ok pc N ops env σ = some (env', σ')) {K : Env → St → Prop} (hk : K env' σ') : vcDraw (cxS P T ok) pc N ops env σ K := by
  unfold exDraw at h
  obtain ⟨h1, h⟩ := cond_some h
  split at h
  · rename_i recs env1 σ1 hd
    obtain ⟨h2, h⟩ := cond_some h
    cases h
    unfold vcDraw
    rw [h1]
    exact exD_sound ops hd ⟨h2, hk⟩
  · cases h

/-! ### Forgetting what is written over -/
def dedA {α : Type} : Nat → List (Nat × α) → List (Nat × α)
  | _, [] => []
  | m, (j, v) :: e => cond (Nat.testBit m j) (dedA m e) ((j, v) :: dedA (Nat.lor m (Nat.shiftLeft 1 j)) e)

theorem testBit_add {m j i : Nat} (hi : i ≠ j) : (Nat.lor m (Nat.shiftLeft 1 j)).testBit i = m.testBit i := by
  have h1 : (m ||| 1 <<< j).testBit i = (m.testBit i || (1 <<< j).testBit i) := Nat.testBit_or ..
  have h2 : (1 <<< j).testBit i = false := by
    cases hb : (1 <<< j).testBit i with
    | false => rfl
    | true => exact (hi (shift_bit hb)).elim
  have : (Nat.lor m (Nat.shiftLeft 1 j)).testBit i = (m ||| 1 <<< j).testBit i := rfl
  rw [this, h1, h2, Bool.or_false]

theorem dedE_get : ∀ (e : Env) (m i : Nat), m.testBit i = false → Env.get (dedA m e) i = Env.get e i
  | [], _, _, _ => rfl
  | (j, v) :: e, m, i, h => by
    simp only [dedA]
    cases hb : Nat.testBit m j with
    | true =>
      have hne : i ≠ j := fun e => by subst e; rw [hb] at h; cases h
      rw [Env.get_cons, if_neg hne]
      exact dedE_get e m i h
    | false =>
      simp only [cond_false, Env.get_cons]
      by_cases hij : i = j
      · rw [if_pos hij, if_pos hij]
      · rw [if_neg hij, if_neg hij]
        exact dedE_get e _ i (by rw [testBit_add hij]; exact h)

theorem hget_cons (j : Nat) (b : ABlk) (e : List (Nat × ABlk)) (i : Nat) : hget ((j, b) :: e) i = if i = j then b else hget e i := by
  simp only [hget]
  by_cases h : i = j
  · subst h; simp
  · have : Nat.beq i j = false := by rw [Bool.eq_false_iff]; intro hb; exact h (Nat.eq_of_beq_eq_true hb)
    simp [this, h]

theorem dedH_get : ∀ (e : List (Nat × ABlk)) (m i : Nat), m.testBit i = false → hget (dedA m e) i = hget e i
  | [], _, _, _ => rfl
  | (j, v) :: e, m, i, h => by
    simp only [dedA]
    cases hb : Nat.testBit m j with
    | true =>
      have hne : i ≠ j := fun e => by subst e; rw [hb] at h; cases h
      rw [hget_cons, if_neg hne]
      exact dedH_get e m i h
    | false =>
      simp only [cond_false, hget_cons]
      by_cases hij : i = j
      · rw [if_pos hij, if_pos hij]
      · rw [if_neg hij, if_neg hij]
        exact dedH_get e _ i (by rw [testBit_add hij]; exact h)

def dedS (σ : St) : St := { σ with heap := dedA 0 σ.heap }
theorem ded_forget (env : Env) (σ : St) : Forget env σ (dedA 0 env) (dedS σ) := ⟨fun i => .inl (dedE_get env 0 i (by simp)), fun i => .inl (dedH_get σ.heap 0 i (by simp)), rfl⟩

/-! ### Code -/
abbrev Out := Option (Exit × Env × St)

def exLoop (ec : Env → St → Out) : Nat → Env → St → Out
  | 0, _, _ => none
  | m + 1, env, σ => match ec env σ with
    | some (.normal, env', σ') => exLoop ec m (dedA 0 env') (dedS σ')
    | some (.exit id, env', σ') => some (.exit id, env', σ')
    | some (.ret, env', σ') => some (.ret, env', σ')
    | _ => none

def exRounds (ea eb : Env → St → Out) (ps : List Tmp) (env : Env) : List (List AV) → St → Out
  | [], σ => some (.normal, env, σ)
  | x :: xs, σ => cond (Nat.beq x.length ps.length) (match ea (putAll ps x env) σ with
    | some (.normal, env1, σ1) => match eb env1 σ1 with
      | some (.normal, _, σ2) => exRounds ea eb ps env xs σ2
      | some (.ret, _, σ2) => some (.ret, env, σ2)
      | some (.exit id, _, σ2) => some (.exit id, env, σ2)
      | _ => none
    | _ => none) none

def exCode (T : Tab) (ok : TypeId → Bool) (cf : CF) (pc : PC) (it : ITab) (lim N : Nat) : Code → Env → St → Out
  | .skip, env, σ => some (.normal, env, σ)
  | .region _ ops draw, env, σ => match draw with
    | false => cond (noDefer ops.toList) (match exOps T ok cf N ops.toList ops.toList env σ with
      | some (env', σ') => some (.normal, env', σ')
      | none => none) none
    | true => match exDraw T ok pc N ops.toList env σ with
      | some (env', σ') => some (.normal, env', σ')
      | none => none
  | .seq x y, env, σ => match exCode T ok cf pc it lim N x env σ with
    | some (.normal, env', σ') => exCode T ok cf pc it lim N y env' σ'
    | some (.exit id, env', σ') => some (.exit id, env', σ')
    | some (.ret, env', σ') => some (.ret, env', σ')
    | _ => none
  | .cond c x y, env, σ => match evA env c with
    | .bool true => exCode T ok cf pc it lim N x (setC env c true) σ
    | .bool false => exCode T ok cf pc it lim N y (setC env c false) σ
    | _ => none
  | .block id c, env, σ => match exCode T ok cf pc it lim N c env σ with
    | some (.exit id', env', σ') => some (cond (Nat.beq id' id) .normal (.exit id'), env', σ')
    | some (.normal, env', σ') => some (.normal, env', σ')
    | some (.ret, env', σ') => some (.ret, env', σ')
    | _ => none
  | .loop c, env, σ => exLoop (exCode T ok cf pc it lim N c) lim env σ
  | .rangeFunc f ps x y, env, σ => match evA env f with
    | .func g c0 c1 => match viewL σ.get c0, viewL σ.get c1 with
      | some p0, some p1 => match it g p0.1 p1.1 with
        | some xs => cond (allBelow N ps.toList) (match p0.2 ++ p1.2 with
          | [] => exRounds (exCode T ok cf pc it lim N x) (exCode T ok cf pc it lim N y) ps.toList env xs σ
          | a :: l => cond (mutL σ.get (a :: l)) (exRounds (exCode T ok cf pc it lim N x) (exCode T ok cf pc it lim N y) ps.toList env xs (frozSt σ (a :: l))) none) none
        | none => none
      | _, _ => none
    | _ => none
  | .exit id, env, σ => some (.exit id, env, σ)
  | .ret, env, σ => some (.ret, env, σ)
  | _, _, _ => none

def Is (e : Exit) (env : Env) (σ : St) : Exit → Env → St → Prop := fun e2 env2 σ2 => e2 = e ∧ env2 = env ∧ σ2 = σ

theorem exLoop_sound {c : Code} {ec : Env → St → Out} (hc : ∀ env σ e env' σ', ec env σ = some (e, env', σ') → Awp P N c env σ (Is e env' σ')) : ∀ (m : Nat) {env : Env} {σ : St} {e : Exit} {env' : Env} {σ' : St}, exLoop ec m env σ = some (e, env', σ') → LoopN P N c (Is e env' σ') m env σ
  | 0, env, σ, e, env', σ', h => by simp [exLoop] at h
  | m + 1, env, σ, e, env', σ', h => by
    simp only [exLoop] at h
    simp only [LoopN]
    split at h
    · rename_i env1 σ1 h1
      refine (hc _ _ _ _ _ h1).forgets fun e2 env2 σ2 hq => ?_
      obtain ⟨rfl, rfl, rfl⟩ := hq
      exact ⟨_, _, ded_forget _ _, exLoop_sound hc m h⟩
    · rename_i id env1 σ1 h1
      cases h
      exact (hc _ _ _ _ _ h1).mono fun e2 env2 σ2 hq => by obtain ⟨rfl, rfl, rfl⟩ := hq; exact ⟨rfl, rfl, rfl⟩
    · rename_i env1 σ1 h1
      cases h
      exact (hc _ _ _ _ _ h1).mono fun e2 env2 σ2 hq => by obtain ⟨rfl, rfl, rfl⟩ := hq; exact ⟨rfl, rfl, rfl⟩
    · cases h

theorem exRounds_sound {n0 : Nat} {assign body : Code} {ea eb : Env → St → Out} (ha : ∀ env σ e env' σ', ea env σ = some (e, env', σ') → Awp P N assign env σ (Is e env' σ')) (hb : ∀ env σ e env' σ', eb env σ = some (e, env', σ') → Awp P N body env σ (Is e env' σ')) {ps : List Tmp} {env : Env} :
    ∀ (xs : List (List AV)) {σ : St} {e : Exit} {env' : Env} {σ' : St}, exRounds ea eb ps env xs σ = some (e, env', σ') → Rounds P N n0 ps assign body env (Is e env' σ') xs σ
  | [], σ, e, env', σ', h => by simp only [exRounds, Option.some.injEq, Prod.mk.injEq] at h; obtain ⟨rfl, rfl, rfl⟩ := h; exact ⟨rfl, rfl, rfl⟩
  | x :: xs, σ, e, env', σ', h => by
    simp only [exRounds] at h
    obtain ⟨h1, h⟩ := cond_some h
    refine ⟨Nat.eq_of_beq_eq_true h1, ?_⟩
    split at h
    · rename_i env1 σ1 h2
      refine (ha _ _ _ _ _ h2).mono fun e2 env2 σ2 hq => ?_
      obtain ⟨rfl, rfl, rfl⟩ := hq
      refine ⟨rfl, ?_⟩
      split at h
      · rename_i env3 σ3 h3
        refine (hb _ _ _ _ _ h3).mono fun e4 env4 σ4 hq => ?_
        obtain ⟨rfl, rfl, rfl⟩ := hq
        exact ⟨_, .inl rfl, exRounds_sound ha hb xs h⟩
      · rename_i env3 σ3 h3
        cases h
        refine (hb _ _ _ _ _ h3).mono fun e4 env4 σ4 hq => ?_
        obtain ⟨rfl, rfl, rfl⟩ := hq
        exact ⟨rfl, rfl, rfl⟩
      · rename_i id env3 σ3 h3
        cases h
        refine (hb _ _ _ _ _ h3).mono fun e4 env4 σ4 hq => ?_
        obtain ⟨rfl, rfl, rfl⟩ := hq
        exact ⟨rfl, rfl, rfl⟩
      · cases h
    · cases h

theorem exCode_sound {T : Tab} (hT : TabOK P T) {ok : TypeId → Bool} (hok : EqOK P ok) {cf : CF} (hcf : CFOK P cf) {pc : PC} (hpc : PCOK P pc) {it : ITab} (hit : ∀ g c0 c1 xs, it g c0 c1 = some xs → ItOK P g c0 c1 xs) (hm : P.follows .mixedOrders = true) {lim : Nat} :
    ∀ (c : Code) (env : Env) (σ : St) (e : Exit) (env' : Env) (σ' : St), exCode T ok cf pc it lim N c env σ = some (e, env', σ') → Awp P N c env σ (Is e env' σ')
  | .skip, env, σ, e, env', σ', h => by simp only [exCode, Option.some.injEq, Prod.mk.injEq] at h; obtain ⟨rfl, rfl, rfl⟩ := h; exact awp_skip ⟨rfl, rfl, rfl⟩
  | .region id ops draw, env, σ, e, env', σ', h => by
    cases draw with
    | false =>
      simp only [exCode] at h
      obtain ⟨h1, h⟩ := cond_some h
      split at h
      · rename_i env1 σ1 h2
        cases h
        exact awp_region (cxS_ok hT hok) h1 (exOps_sound hcf _ h2 ⟨rfl, rfl, rfl⟩)
      · cases h
    | true =>
      simp only [exCode] at h
      split at h
      · rename_i env1 σ1 h2
        cases h
        refine (vcDraw_sound (cxS_ok hT hok) hpc hm id ops env σ (fun e s => e = env' ∧ s = σ') (exDraw_sound h2 ⟨rfl, rfl⟩)).mono fun e2 env2 σ2 hq => ?_
        cases e2 with
        | normal => exact ⟨rfl, hq.1, hq.2⟩
        | _ => exact hq.elim
      · cases h
  | .seq x y, env, σ, e, env', σ', h => by
    simp only [exCode] at h
    refine awp_seq ?_
    split at h
    · rename_i env1 σ1 h1
      refine (exCode_sound hT hok hcf hpc hit hm x _ _ _ _ _ h1).mono fun e2 env2 σ2 hq => ?_
      obtain ⟨rfl, rfl, rfl⟩ := hq
      exact exCode_sound hT hok hcf hpc hit hm y _ _ _ _ _ h
    · rename_i id env1 σ1 h1
      cases h
      refine (exCode_sound hT hok hcf hpc hit hm x _ _ _ _ _ h1).mono fun e2 env2 σ2 hq => ?_
      obtain ⟨rfl, rfl, rfl⟩ := hq
      exact ⟨rfl, rfl, rfl⟩
    · rename_i env1 σ1 h1
      cases h
      refine (exCode_sound hT hok hcf hpc hit hm x _ _ _ _ _ h1).mono fun e2 env2 σ2 hq => ?_
      obtain ⟨rfl, rfl, rfl⟩ := hq
      exact ⟨rfl, rfl, rfl⟩
    · cases h
  | .cond c x y, env, σ, e, env', σ', h => by
    simp only [exCode] at h
    split at h
    · rename_i hb; exact awp_cond hb (exCode_sound hT hok hcf hpc hit hm x _ _ _ _ _ h)
    · rename_i hb; exact awp_cond hb (exCode_sound hT hok hcf hpc hit hm y _ _ _ _ _ h)
    · cases h
  | .block id c, env, σ, e, env', σ', h => by
    simp only [exCode] at h
    refine awp_block ?_
    split at h
    · rename_i id' env1 σ1 h1
      cases h
      refine (exCode_sound hT hok hcf hpc hit hm c _ _ _ _ _ h1).mono fun e2 env2 σ2 hq => ?_
      obtain ⟨rfl, rfl, rfl⟩ := hq
      simp only [blockQ]
      cases Nat.beq id' id <;> exact ⟨rfl, rfl, rfl⟩
    · rename_i env1 σ1 h1
      cases h
      refine (exCode_sound hT hok hcf hpc hit hm c _ _ _ _ _ h1).mono fun e2 env2 σ2 hq => ?_
      obtain ⟨rfl, rfl, rfl⟩ := hq
      exact ⟨rfl, rfl, rfl⟩
    · rename_i env1 σ1 h1
      cases h
      refine (exCode_sound hT hok hcf hpc hit hm c _ _ _ _ _ h1).mono fun e2 env2 σ2 hq => ?_
      obtain ⟨rfl, rfl, rfl⟩ := hq
      exact ⟨rfl, rfl, rfl⟩
    · cases h
  | .loop c, env, σ, e, env', σ', h => by
    simp only [exCode] at h
    exact loopN_sound (exLoop_sound (fun env σ e env' σ' h => exCode_sound hT hok hcf hpc hit hm c env σ e env' σ' h) lim h)
  | .rangeFunc f ps x y, env, σ, e, env', σ', h => by
    simp only [exCode] at h
    refine rng_sound hit ?_
    unfold vcRng
    have hx : ∀ env σ e env' σ', exCode T ok cf pc it lim N x env σ = some (e, env', σ') → Awp P N x env σ (Is e env' σ') := fun env σ e env' σ' h => exCode_sound hT hok hcf hpc hit hm x env σ e env' σ' h
    have hy : ∀ env σ e env' σ', exCode T ok cf pc it lim N y env σ = some (e, env', σ') → Awp P N y env σ (Is e env' σ') := fun env σ e env' σ' h => exCode_sound hT hok hcf hpc hit hm y env σ e env' σ' h
    split at h
    · rename_i g c0 c1 hev
      rw [hev]
      dsimp only
      split at h
      · rename_i p0 p1 h0 h1
        rw [h0, h1]
        dsimp only [Got]
        split at h
        · rename_i xs hxs
          rw [hxs]
          dsimp only [Got]
          obtain ⟨h2, h⟩ := cond_some h
          rw [h2]
          simp only [cond_true]
          split at h
          · rename_i hl
            rw [hl]
            exact exRounds_sound hx hy xs h
          · rename_i a l hl
            rw [hl]
            obtain ⟨h3, h⟩ := cond_some h
            dsimp only
            rw [h3]
            exact exRounds_sound hx hy xs h
        · cases h
      · cases h
    · cases h
  | .exit id, env, σ, e, env', σ', h => by simp only [exCode, Option.some.injEq, Prod.mk.injEq] at h; obtain ⟨rfl, rfl, rfl⟩ := h; exact awp_exit ⟨rfl, rfl, rfl⟩
  | .ret, env, σ, e, env', σ', h => by simp only [exCode, Option.some.injEq, Prod.mk.injEq] at h; obtain ⟨rfl, rfl, rfl⟩ := h; exact awp_ret ⟨rfl, rfl, rfl⟩
  | .scope _, _, _, _, _, _, h => by simp [exCode] at h
  | .label _, _, _, _, _, _, h => by simp [exCode] at h
  | .goto _, _, _, _, _, _, h => by simp [exCode] at h
  | .refuse _, _, _, _, _, _, h => by simp [exCode] at h
end Go.Sx
namespace Go.Sx
open Go Go.RowKit

variable {P : Program} {N : Nat}

mutual
theorem renAV_pure (f : Nat → Nat) : ∀ (v : AV), pureAV v = true → renAV f v = v
  | .any, _ => rfl
  | .bool _, _ => rfl
  | .int _ _, _ => rfl
  | .flt _ _, _ => rfl
  | .str _, _ => rfl
  | .ptr _ _ _, h => by simp [pureAV] at h
  | .ipt _, _ => rfl
  | .nilp, _ => rfl
  | .nils, _ => rfl
  | .asl _ _ _, h => by simp [pureAV] at h
  | .bsl _ _ _ _ _, h => by simp [pureAV] at h
  | .isl _ _, _ => rfl
  | .amap _, h => by simp [pureAV] at h
  | .func g c0 c1, h => by
    simp only [pureAV, Bool.and_eq_true] at h
    simp only [renAV, renL_pure f c0 h.1, renL_pure f c1 h.2]
  | .yld _, _ => rfl
  | .agg cs, h => by simp only [pureAV] at h; simp only [renAV, renL_pure f cs h]
  | .tup cs, h => by simp only [pureAV] at h; simp only [renAV, renL_pure f cs h]
theorem renL_pure (f : Nat → Nat) : ∀ (cs : List AV), pureL cs = true → renL f cs = cs
  | [], _ => rfl
  | c :: cs, h => by
    simp only [pureL, Bool.and_eq_true] at h
    simp only [renL, renAV_pure f c h.1, renL_pure f cs h.2]
end

mutual
theorem idsLt_pure (m : Nat) : ∀ (v : AV), pureAV v = true → idsLt m v = true
  | .any, _ => rfl
  | .bool _, _ => rfl
  | .int _ _, _ => rfl
  | .flt _ _, _ => rfl
  | .str _, _ => rfl
  | .ptr _ _ _, h => by simp [pureAV] at h
  | .ipt _, _ => rfl
  | .nilp, _ => rfl
  | .nils, _ => rfl
  | .asl _ _ _, h => by simp [pureAV] at h
  | .bsl _ _ _ _ _, h => by simp [pureAV] at h
  | .isl _ _, _ => rfl
  | .amap _, h => by simp [pureAV] at h
  | .func g c0 c1, h => by
    simp only [pureAV, Bool.and_eq_true] at h
    simp only [idsLt, idsLtL_pure m c0 h.1, idsLtL_pure m c1 h.2, Bool.and_self]
  | .yld _, _ => rfl
  | .agg cs, h => by simp only [pureAV] at h; simp only [idsLt, idsLtL_pure m cs h]
  | .tup cs, h => by simp only [pureAV] at h; simp only [idsLt, idsLtL_pure m cs h]
theorem idsLtL_pure (m : Nat) : ∀ (cs : List AV), pureL cs = true → idsLtL m cs = true
  | [], _ => rfl
  | c :: cs, h => by
    simp only [pureL, Bool.and_eq_true] at h
    simp only [idsLtL, idsLt_pure m c h.1, idsLtL_pure m cs h.2, Bool.and_self]
end

/-- Rows that name none of the later ones. -/
def rowLt (n0 : Nat) : ABlk → Bool
  | .row _ elems _ pu => pu || elems.all (idsLtL n0)
  | .map _ => false
  | _ => true

def keepLt {α : Type} (n0 : Nat) : List (Nat × α) → List (Nat × α)
  | [] => []
  | p :: l => cond (Nat.blt p.1 n0) (p :: keepLt n0 l) (keepLt n0 l)

theorem keepLt_get (n0 : Nat) : ∀ (l : List (Nat × ABlk)) (i : Nat), hget (keepLt n0 l) i = hget l i ∨ hget (keepLt n0 l) i = .dead
  | [], i => .inl rfl
  | (j, b) :: l, i => by
    simp only [keepLt]
    cases hb : Nat.blt j n0 with
    | true =>
      simp only [cond_true, hget_cons]
      by_cases h : i = j
      · simp [h]
      · simp only [h, if_false]; exact keepLt_get n0 l i
    | false =>
      simp only [cond_false, hget_cons]
      by_cases h : i = j
      · right
        have key : ∀ (l : List (Nat × ABlk)), hget (keepLt n0 l) i = .dead := by
          intro l
          induction l with
          | nil => rfl
          | cons p l ih =>
            obtain ⟨q, c⟩ := p
            simp only [keepLt]
            cases hq : Nat.blt q n0 with
            | true =>
              simp only [cond_true, hget_cons]
              have : i ≠ q := fun e => by subst e; rw [h] at hq; rw [hb] at hq; cases hq
              simp only [this, if_false]; exact ih
            | false => exact ih
        exact key l
      · simp only [h, if_false]; exact keepLt_get n0 l i

/-- What a call leaves; what nobody knows any more is forgotten. -/
def gcS (n0 : Nat) (v : AV) (σ : St) : St :=
  let hp := dedA 0 σ.heap
  let old := keepLt n0 hp
  cond (pureAV v && old.all (fun p => rowLt n0 p.2)) { σ with heap := old } { σ with heap := hp }

theorem gcS_forget (n0 : Nat) (v : AV) (σ : St) : (∀ i, (gcS n0 v σ).get i = σ.get i ∨ (gcS n0 v σ).get i = .dead) ∧ (gcS n0 v σ).next = σ.next := by
  unfold gcS
  dsimp only
  cases pureAV v && (keepLt n0 (dedA 0 σ.heap)).all (fun p => rowLt n0 p.2) with
  | true =>
    refine ⟨fun i => ?_, rfl⟩
    rcases keepLt_get n0 (dedA 0 σ.heap) i with h | h
    · exact .inl (h.trans (dedH_get σ.heap 0 i (by simp)))
    · exact .inr h
  | false => exact ⟨fun i => .inl (dedH_get σ.heap 0 i (by simp)), rfl⟩

theorem SemCall.forgets {f : FuncId} {args : List AV} {σ : St} {K K' : AV → St → Prop} (h : SemCall P f args σ K) (hk : ∀ v σ, K v σ → ∃ σ', ((∀ i, σ'.get i = σ.get i ∨ σ'.get i = .dead) ∧ σ'.next = σ.next) ∧ K' v σ') : SemCall P f args σ K' :=
  fun B w0 I0 pr r I D w vs H hv => (h B w0 I0 pr r I D w vs H hv).mono fun e w' ⟨x, v, σ', r', I', D', h1, h2, h3, h4⟩ => by
    obtain ⟨σ2, hf, h5⟩ := hk _ _ h2
    exact ⟨x, v, σ2, r', I', D', h1, h5, by have := h3.kills hf.1; rw [hf.2]; exact this, h4⟩

def exBody (T : Tab) (ok : TypeId → Bool) (cf : CF) (pc : PC) (it : ITab) (lim : Nat) (fn : Func) (args : List AV) (σ : St) : Option (AV × St) :=
  match fn.body with
  | some c => cond (Nat.ble args.length fn.ntmps) (match exCode T ok cf pc it lim fn.ntmps c (env0 0 args) σ with
    | some (.normal, env, σ') => match vcRes T env σ'.get fn.results.toList with
      | some vs => some (resV vs, gcS σ.next (resV vs) σ')
      | none => none
    | some (.ret, env, σ') => match vcRes T env σ'.get fn.results.toList with
      | some vs => some (resV vs, gcS σ.next (resV vs) σ')
      | none => none
    | _ => none) none
  | none => none

/-- Functions that are met by a word of their own. -/
abbrev Ext := FuncId → List AV → Option AV
def ExtOK (P : Program) (ext : Ext) : Prop := ∀ f args v, ext f args = some v → PCall P f args ⟨v, []⟩ ∧ pureAV v = true

def idxN : List Nat → Nat → Nat
  | [], _ => 0
  | a :: l, i => cond (Nat.beq i a) 0 (idxN l i + 1)

theorem listed_idx : ∀ {ids : List Nat} {i : Nat}, memN ids i = true → listed ids (idxN ids i) = i
  | [], _, h => by simp [memN] at h
  | a :: l, i, h => by
    simp only [idxN]
    cases hb : Nat.beq i a with
    | true => rw [Nat.eq_of_beq_eq_true hb]; rfl
    | false =>
      simp only [memN, hb, Bool.false_or] at h
      exact listed_idx h

mutual
def idsAll (ids : List Nat) : AV → Bool
  | .ptr id _ _ | .asl id _ _ | .bsl id _ _ _ _ | .amap id => memN ids id
  | .func _ c0 c1 => idsAllL ids c0 && idsAllL ids c1
  | .agg cs => idsAllL ids cs
  | .tup cs => idsAllL ids cs
  | _ => true
def idsAllL (ids : List Nat) : List AV → Bool
  | [] => true
  | c :: cs => idsAll ids c && idsAllL ids cs
end

mutual
theorem ren_back {ids : List Nat} : ∀ (v : AV), idsAll ids v = true → renAV (listed ids) (renAV (idxN ids) v) = v
  | .any, _ => rfl
  | .bool _, _ => rfl
  | .int _ _, _ => rfl
  | .flt _ _, _ => rfl
  | .str _, _ => rfl
  | .ptr _ _ _, h => by simp only [idsAll] at h; simp only [renAV, listed_idx h]
  | .ipt _, _ => rfl
  | .nilp, _ => rfl
  | .nils, _ => rfl
  | .asl _ _ _, h => by simp only [idsAll] at h; simp only [renAV, listed_idx h]
  | .bsl _ _ _ _ _, h => by simp only [idsAll] at h; simp only [renAV, listed_idx h]
  | .isl _ _, _ => rfl
  | .amap _, h => by simp only [idsAll] at h; simp only [renAV, listed_idx h]
  | .func g c0 c1, h => by
    simp only [idsAll, Bool.and_eq_true] at h
    simp only [renAV, ren_backL c0 h.1, ren_backL c1 h.2]
  | .yld _, _ => rfl
  | .agg cs, h => by simp only [idsAll] at h; simp only [renAV, ren_backL cs h]
  | .tup cs, h => by simp only [idsAll] at h; simp only [renAV, ren_backL cs h]
theorem ren_backL {ids : List Nat} : ∀ (cs : List AV), idsAllL ids cs = true → renL (listed ids) (renL (idxN ids) cs) = cs
  | [], _ => rfl
  | c :: cs, h => by
    simp only [idsAllL, Bool.and_eq_true] at h
    simp only [renL, ren_back c h.1, ren_backL cs h.2]
end

mutual
def idsOf : AV → List Nat
  | .ptr id _ _ | .asl id _ _ | .bsl id _ _ _ _ | .amap id => [id]
  | .func _ c0 c1 => idsOfL c0 ++ idsOfL c1
  | .agg cs => idsOfL cs
  | .tup cs => idsOfL cs
  | _ => []
def idsOfL : List AV → List Nat
  | [] => []
  | c :: cs => idsOf c ++ idsOfL cs
end

def uniq : List Nat → List Nat → List Nat
  | acc, [] => acc.reverse
  | acc, a :: l => cond (memN acc a) (uniq acc l) (uniq (a :: acc) l)

def nodupB : List Nat → Bool
  | [] => true
  | a :: l => !memN l a && nodupB l

theorem memN_of {l : List Nat} {t : Nat} (h : t ∈ l) : memN l t = true := by
  induction l with
  | nil => simp at h
  | cons a l ih =>
    simp only [memN, Bool.or_eq_true]
    rcases List.mem_cons.1 h with rfl | h
    · exact .inl (Nat.beq_refl _)
    · exact .inr (ih h)
theorem nodupB_spec : ∀ {l : List Nat}, nodupB l = true → l.Nodup
  | [], _ => .nil
  | a :: l, h => by
    simp only [nodupB, Bool.and_eq_true, Bool.not_eq_true'] at h
    refine List.nodup_cons.2 ⟨fun hm => ?_, nodupB_spec h.2⟩
    rw [memN_of hm] at h; cases h.1

/-- A row that bears no number says so. -/
def tag1 (b : ABlk) : ABlk := match b with
  | .row es elems mt pu => cond pu (.row es elems mt true) (cond (elems.all pureL) (.row es elems mt true) (.row es elems mt pu))
  | b => b
def tagS (σ : St) : St := { σ with heap := σ.heap.map fun p => (p.1, tag1 p.2) }

theorem tagS_get (σ : St) (i : Nat) : (tagS σ).get i = tag1 (σ.get i) := by
  simp only [St.get, tagS]
  induction σ.heap with
  | nil => rfl
  | cons p l ih =>
    obtain ⟨j, b⟩ := p
    simp only [List.map_cons, hget_cons, ih]
    split <;> rfl

theorem HR.tag {B : Nat} {w0 : World} {I0 : Imm} {pr : Nat → Obj → Prop} {r : Locs} {I : Imm} {D : Nat → Prop} {h : Nat → ABlk} {n : Nat} {w : World} (H : HR B w0 I0 pr r I D h n w) {h' : Nat → ABlk} (hk : ∀ i, h' i = tag1 (h i)) : HR B w0 I0 pr r I D h' n w := by
  have hl : ∀ i, (h' i).live = (h i).live := by
    intro i
    rw [hk]
    cases h i with
    | row es elems mt pu => simp only [tag1]; cases pu <;> cases elems.all pureL <;> rfl
    | _ => rfl
  refine ⟨H.below, H.base, H.imm, H.dom, fun i hi => H.live i (by rwa [hl] at hi), fun i => ?_, fun i j hi hj => H.inj i j (by rwa [hl] at hi) (by rwa [hl] at hj), H.prot, fun b o hp => ⟨fun i hi => (H.protK b o hp).1 i (by rwa [hl] at hi), (H.protK b o hp).2⟩, H.immB⟩
  rw [hk]
  have hB := H.blk i
  cases hb : h i with
  | row es elems mt pu =>
    rw [hb] at hB
    simp only [tag1]
    cases hpu : pu with
    | true => rw [hpu] at hB; exact hB
    | false =>
    rw [hpu] at hB
    cases hp : elems.all pureL with
    | false => exact hB
    | true =>
      obtain ⟨h1, h2, h3, cs, T, fz, h4, h5, h6, h7, h8⟩ := hB
      refine ⟨h1, h2, h3, cs, T, fz, h4, h5, fun i e j c hi hj => ?_, h7, h8⟩
      obtain ⟨v, a, b⟩ := h6 i e j c hi hj
      have hpe := List.all_eq_true.1 hp e (List.mem_of_getElem? hi)
      exact ⟨v, a, (b.pure (pureL_get hpe hj)).weak fun _ h => h.elim⟩
  | _ => rw [hb] at hB; exact hB

theorem SemCall.tag {f : FuncId} {args : List AV} {σ : St} {K K' : AV → St → Prop} (h : SemCall P f args σ K) (hk : ∀ v σ, K v σ → K' v (tagS σ)) : SemCall P f args σ K' :=
  fun B w0 I0 pr r I D w vs H hv => (h B w0 I0 pr r I D w vs H hv).mono fun e w' ⟨x, v, σ', r', I', D', h1, h2, h3, h4⟩ =>
    ⟨x, v, tagS σ', r', I', D', h1, hk _ _ h2, h3.tag (tagS_get σ'), h4⟩

def rowsOf (σ : St) : List Nat → Option (List (Nat × List (List AV)))
  | [] => some []
  | i :: l => match σ.get i, rowsOf σ l with
    | .row es elems true true, some rs => some ((es, elems) :: rs)
    | _, _ => none

theorem rowsOf_spec {σ : St} : ∀ {ids : List Nat} {rs : List (Nat × List (List AV))}, rowsOf σ ids = some rs → ids.length = rs.length ∧ ∀ (j : Nat) (p : Nat × List (List AV)), rs[j]? = some p → σ.get (listed ids j) = .row p.1 p.2 true true
  | [], rs, h => by simp only [rowsOf, Option.some.injEq] at h; subst h; exact ⟨rfl, fun j p hj => by simp at hj⟩
  | i :: l, rs, h => by
    simp only [rowsOf] at h
    split at h
    · rename_i es elems rs' h1 h2
      cases h
      obtain ⟨g1, g2⟩ := rowsOf_spec h2
      refine ⟨by simp [g1], fun j p hj => ?_⟩
      cases j with
      | zero => simp at hj; subst hj; exact h1
      | succ j => exact g2 j p (by simpa using hj)
    · cases h

/-- Calls in regions that draw: on trees; new rows may come back. -/
def pcF (cf : CF) : PC := fun f args => match cf f args ⟨[], 0⟩ with
  | some (v, σ) => match rowsOf (tagS σ) (uniq [] (idsOf v)) with
    | some rs => cond (nodupB (uniq [] (idsOf v)) && idsAll (uniq [] (idsOf v)) v && idsLt rs.length (renAV (idxN (uniq [] (idsOf v))) v)) (some ⟨renAV (idxN (uniq [] (idsOf v))) v, rs⟩) none
    | none => none
  | none => none

def exF (P : Program) (T : Tab) (ok : TypeId → Bool) (it : ITab) (ext : Ext) (lim : Nat) : Nat → CF
  | 0 => fun _ _ _ => none
  | d + 1 => fun f args σ => match ext f args with
    | some v => cond (pureL args) (some (v, σ)) none
    | none => match P.funcs[f]? with
      | some fn => cond (fn.name == "runtime.NumGoroutine") none
        (exBody T ok (exF P T ok it ext lim d) (pcF (exF P T ok it ext lim d)) it lim fn args σ)
      | none => none

mutual
theorem viewR_pure {h : Nat → ABlk} {rv : List AV → Option (List AV × List Nat)} : ∀ (v : AV), pureAV v = true → viewR rv h v = some (v, [])
  | .any, _ => rfl
  | .bool _, _ => rfl
  | .int _ _, _ => rfl
  | .flt _ _, _ => rfl
  | .str _, _ => rfl
  | .ptr _ _ _, h => by simp [pureAV] at h
  | .ipt _, _ => rfl
  | .nilp, _ => rfl
  | .nils, _ => rfl
  | .asl _ _ _, h => by simp [pureAV] at h
  | .bsl _ _ _ _ _, h => by simp [pureAV] at h
  | .isl _ _, _ => rfl
  | .amap _, h => by simp [pureAV] at h
  | .func g c0 c1, hp => by
    simp only [pureAV, Bool.and_eq_true] at hp
    simp only [viewR, viewRL_pure c0 hp.1, viewRL_pure c1 hp.2, List.append_nil]
  | .yld _, _ => rfl
  | .agg cs, hp => by simp only [pureAV] at hp; simp only [viewR, viewRL_pure cs hp]
  | .tup cs, hp => by simp only [pureAV] at hp; simp only [viewR, viewRL_pure cs hp]
theorem viewRL_pure {h : Nat → ABlk} {rv : List AV → Option (List AV × List Nat)} : ∀ (args : List AV), pureL args = true → viewRL rv h args = some (args, [])
  | [], _ => rfl
  | c :: cs, hp => by
    simp only [pureL, Bool.and_eq_true] at hp
    simp only [viewRL, viewR_pure c hp.1, viewRL_pure cs hp.2, List.append_nil]
end
theorem viewL_pure {h : Nat → ABlk} (args : List AV) (hp : pureL args = true) : viewL h args = some (args, []) := viewRL_pure args hp

theorem exF_sound {T : Tab} (hT : TabOK P T) {ok : TypeId → Bool} (hok : EqOK P ok) {it : ITab} (hit : ∀ g c0 c1 xs, it g c0 c1 = some xs → ItOK P g c0 c1 xs) (hm : P.follows .mixedOrders = true) {ext : Ext} (hext : ExtOK P ext) {lim : Nat} :
    ∀ d, CFOK P (exF P T ok it ext lim d)
  | 0 => fun f args σ v σ' h => by simp [exF] at h
  | d + 1 => fun f args σ v σ' h => by
    have ih := exF_sound hT hok hit hm hext (lim := lim) d
    have hpc : PCOK P (pcF (exF P T ok it ext lim d)) := by
      intro f args res hr
      unfold pcF at hr
      split at hr
      · rename_i v σ' hx
        split at hr
        · rename_i rs hrs
          obtain ⟨hp, hr⟩ := cond_some hr
          cases hr
          simp only [Bool.and_eq_true] at hp
          obtain ⟨⟨hp1, hp2⟩, hp3⟩ := hp
          obtain ⟨h1, h2⟩ := ih _ _ _ _ _ hx
          obtain ⟨g1, g2⟩ := rowsOf_spec hrs
          refine pcall_of_sem h1 hp3 (h2.tag fun v2 σ2 hq => ?_)
          obtain ⟨rfl, rfl⟩ := hq
          exact ⟨_, nodupB_spec hp1, g1, (ren_back _ hp2).symm, g2⟩
        · cases hr
      · cases hr
    simp only [exF] at h
    split at h
    · rename_i v1 hx
      obtain ⟨hp, h⟩ := cond_some h
      cases h
      obtain ⟨hc, hpv⟩ := hext _ _ _ hx
      refine sem_of_pcall (pc := fun as => cond (pureL as) (match ext f as with
        | some v => some ⟨v, []⟩
        | none => none) none) (f := f) ?_ ?_
      · intro as res hr
        obtain ⟨_, hr⟩ := cond_some hr
        split at hr
        · rename_i v2 hx2
          cases hr
          exact (hext _ _ _ hx2).1
        · cases hr
      · unfold callP
        rw [viewL_pure args hp]
        dsimp only [Got]
        rw [hp, hx]
        dsimp only [Got, cond_true]
        exact ⟨renAV_pure _ _ hpv, rfl⟩
    · split at h
      · rename_i fn hfn
        cases hn : fn.name == "runtime.NumGoroutine" with
        | true => rw [hn] at h; cases h
        | false =>
          rw [hn] at h
          simp only [cond_false] at h
          unfold exBody at h
          split at h
          · rename_i c hb
            obtain ⟨hle, h⟩ := cond_some h
            have hle := Nat.le_of_ble_eq_true hle
            refine ⟨⟨fn, hfn, hn, by rw [hb]; rfl⟩, ?_⟩
            have main : ∀ e env1 σ1 vs, (e = .normal ∨ e = .ret) → exCode T ok (exF P T ok it ext lim d) (pcF (exF P T ok it ext lim d)) it lim fn.ntmps c (env0 0 args) σ = some (e, env1, σ1) → vcRes T env1 σ1.get fn.results.toList = some vs → (resV vs, gcS σ.next (resV vs) σ1) = (v, σ') →
                SemCall P f args σ fun v2 σ2 => v2 = v ∧ σ2 = σ' := by
              intro e env1 σ1 vs he hx hr heq
              cases heq
              refine SemCall.forgets (K := fun v2 σ2 => v2 = resV vs ∧ σ2 = σ1) (body_awp hT hfn hb hle ((exCode_sound hT hok ih hpc hit hm c _ _ _ _ _ hx).mono fun e2 env2 σ2 hq => ?_)) (fun v2 σ2 hq => ?_)
              · obtain ⟨rfl, rfl, rfl⟩ := hq
                rcases he with rfl | rfl
                · exact Got.intro hr ⟨rfl, rfl⟩
                · exact Got.intro hr ⟨rfl, rfl⟩
              · obtain ⟨rfl, rfl⟩ := hq
                exact ⟨_, gcS_forget _ _ _, rfl, rfl⟩
            split at h
            · rename_i env1 σ1 hx
              split at h
              · rename_i vs hr
                exact main _ _ _ _ (.inl rfl) hx hr (Option.some.inj h)
              · cases h
            · rename_i env1 σ1 hx
              split at h
              · rename_i vs hr
                exact main _ _ _ _ (.inr rfl) hx hr (Option.some.inj h)
              · cases h
            · cases h
          · cases h
      · cases h
end Go.Sx
namespace Go.Sx
open Go Go.RowKit

/-! ### Equality of abstract values, for the kernel -/
def eqKind : IntKind → IntKind → Bool
  | .i8, .i8 | .i16, .i16 | .i32, .i32 | .i64, .i64 | .u8, .u8 | .u16, .u16 | .u32, .u32 | .u64, .u64 => true
  | _, _ => false
theorem eqKind_eq {a b : IntKind} (h : eqKind a b = true) : a = b := by cases a <;> cases b <;> first | rfl | cases h
def eqFKind : FloatKind → FloatKind → Bool
  | .f32, .f32 | .f64, .f64 => true
  | _, _ => false
theorem eqFKind_eq {a b : FloatKind} (h : eqFKind a b = true) : a = b := by cases a <;> cases b <;> first | rfl | cases h
def eqI : Int → Int → Bool
  | .ofNat a, .ofNat b => Nat.beq a b
  | .negSucc a, .negSucc b => Nat.beq a b
  | _, _ => false
theorem eqI_eq {a b : Int} (h : eqI a b = true) : a = b := by
  cases a <;> cases b <;> simp only [eqI, Bool.false_eq_true] at h
  · rw [Nat.eq_of_beq_eq_true h]
  · rw [Nat.eq_of_beq_eq_true h]
def eqU : List UInt8 → List UInt8 → Bool
  | [], [] => true
  | a :: l, b :: m => Nat.beq a.toNat b.toNat && eqU l m
  | _, _ => false
theorem eqU_eq : ∀ {a b : List UInt8}, eqU a b = true → a = b
  | [], [], _ => rfl
  | a :: l, b :: m, h => by
    simp only [eqU, Bool.and_eq_true] at h
    rw [UInt8.toNat_inj.1 (Nat.eq_of_beq_eq_true h.1), eqU_eq h.2]
  | [], _ :: _, h => by simp [eqU] at h
  | _ :: _, [], h => by simp [eqU] at h
def eqS (a b : ByteArray) : Bool := eqU a.data.toList b.data.toList
theorem eqS_eq {a b : ByteArray} (h : eqS a b = true) : a = b := by
  obtain ⟨⟨a⟩⟩ := a
  obtain ⟨⟨b⟩⟩ := b
  have e : a = b := eqU_eq h
  rw [e]

mutual
def eqA : AV → AV → Bool
  | .any, .any => true
  | .bool a, .bool b => cond a b (!b)
  | .int k a, .int l b => eqKind k l && eqI a b
  | .flt k a, .flt l b => eqFKind k l && Nat.beq a b
  | .str a, .str b => eqS a b
  | .ipt a, .ipt b => eqL a b
  | .nilp, .nilp => true
  | .nils, .nils => true
  | .isl n a, .isl m b => Nat.beq n m && eqLL a b
  | .func f a b, .func g c d => Nat.beq f g && (eqL a c && eqL b d)
  | .agg a, .agg b => eqL a b
  | .tup a, .tup b => eqL a b
  | _, _ => false
def eqL : List AV → List AV → Bool
  | [], [] => true
  | a :: l, b :: m => eqA a b && eqL l m
  | _, _ => false
def eqLL : List (List AV) → List (List AV) → Bool
  | [], [] => true
  | a :: l, b :: m => eqL a b && eqLL l m
  | _, _ => false
end
mutual
theorem eqA_eq : ∀ (a b : AV), eqA a b = true → a = b := by
  intro a b h
  cases a <;> cases b <;> simp only [eqA, Bool.false_eq_true, Bool.and_eq_true] at h
  case any.any => rfl
  case bool.bool a b => cases a <;> cases b <;> first | rfl | cases h
  case int.int => rw [eqKind_eq h.1, eqI_eq h.2]
  case flt.flt => rw [eqFKind_eq h.1, Nat.eq_of_beq_eq_true h.2]
  case str.str => rw [eqS_eq h]
  case ipt.ipt => rw [eqL_eq _ _ h]
  case nilp.nilp => rfl
  case nils.nils => rfl
  case isl.isl => rw [Nat.eq_of_beq_eq_true h.1, eqLL_eq _ _ h.2]
  case func.func => rw [Nat.eq_of_beq_eq_true h.1, eqL_eq _ _ h.2.1, eqL_eq _ _ h.2.2]
  case agg.agg => rw [eqL_eq _ _ h]
  case tup.tup => rw [eqL_eq _ _ h]
theorem eqL_eq : ∀ (a b : List AV), eqL a b = true → a = b
  | [], [], _ => rfl
  | a :: l, b :: m, h => by
    simp only [eqL, Bool.and_eq_true] at h
    rw [eqA_eq a b h.1, eqL_eq l m h.2]
  | [], _ :: _, h => by simp [eqL] at h
  | _ :: _, [], h => by simp [eqL] at h
theorem eqLL_eq : ∀ (a b : List (List AV)), eqLL a b = true → a = b
  | [], [], _ => rfl
  | a :: l, b :: m, h => by
    simp only [eqLL, Bool.and_eq_true] at h
    rw [eqL_eq a b h.1, eqLL_eq l m h.2]
  | [], _ :: _, h => by simp [eqLL] at h
  | _ :: _, [], h => by simp [eqLL] at h
end
end Go.Sx
namespace Go.Sx
open Go Go.RowKit

variable {P : Program} {N : Nat}

/-! ### The evaluator with a table of contracts -/
def exCall (pt : PC) (f : FuncId) (args : List AV) (σ : St) : Option (AV × St) :=
  match viewL σ.get args with
  | some (vas, l) => match pt f vas with
    | some res => match l with
      | [] => some (renAV (fun j => σ.next + j) res.v, addSt σ res.blks)
      | a :: l => match scalarAV res.v, res.blks with
        | true, [] => some (res.v, σ)
        | _, _ => cond (mutL σ.get (a :: l)) (some (renAV (fun j => σ.next + j) res.v, addSt (frozSt σ (a :: l)) res.blks)) none
    | none => none
  | none => none

theorem exCall_sound {pt : PC} (hpt : PCOK P pt) {f : FuncId} {args : List AV} {σ : St} {v : AV} {σ' : St} (h : exCall pt f args σ = some (v, σ')) : FnOK P f ∧ SemCall P f args σ fun v2 σ2 => v2 = v ∧ σ2 = σ' := by
  refine sem_of_pcall (pc := pt f) (fun as res hr => hpt f as res hr) ?_
  unfold exCall at h
  unfold callP
  split at h
  · rename_i vas l hv
    rw [hv]
    dsimp only [Got]
    split at h
    · rename_i res hres
      rw [hres]
      dsimp only [Got]
      split at h
      · cases h; exact ⟨rfl, rfl⟩
      · split at h
        · rename_i h1 h2
          cases h
          rw [h1, h2]
          exact ⟨rfl, rfl⟩
        · rename_i h1
          obtain ⟨hm, h⟩ := cond_some h
          cases h
          dsimp only
          split
          · rename_i g1 g2
            exact (h1 g1 g2).elim
          · rw [hm]; exact ⟨rfl, rfl⟩
    · cases h
  · cases h

def exG (P : Program) (T : Tab) (ok : TypeId → Bool) (it : ITab) (xs : FuncId → Bool) (pt : PC) (lim : Nat) : Nat → CF
  | 0 => fun _ _ _ => none
  | d + 1 => fun f args σ => match cond (xs f) (exCall pt f args σ) none with
    | some r => some r
    | none => match P.funcs[f]? with
      | some fn => cond (fn.name == "runtime.NumGoroutine") none
        (exBody T ok (exG P T ok it xs pt lim d) (pcF (exG P T ok it xs pt lim d)) it lim fn args σ)
      | none => none

theorem pcF_ok {cf : CF} (ih : CFOK P cf) : PCOK P (pcF cf) := by
  intro f args res hr
  unfold pcF at hr
  split at hr
  · rename_i v σ' hx
    split at hr
    · rename_i rs hrs
      obtain ⟨hp, hr⟩ := cond_some hr
      cases hr
      simp only [Bool.and_eq_true] at hp
      obtain ⟨⟨hp1, hp2⟩, hp3⟩ := hp
      obtain ⟨h1, h2⟩ := ih _ _ _ _ _ hx
      obtain ⟨g1, g2⟩ := rowsOf_spec hrs
      refine pcall_of_sem h1 hp3 (h2.tag fun v2 σ2 hq => ?_)
      obtain ⟨rfl, rfl⟩ := hq
      exact ⟨_, nodupB_spec hp1, g1, (ren_back _ hp2).symm, g2⟩
    · cases hr
  · cases hr

theorem exG_sound {T : Tab} (hT : TabOK P T) {ok : TypeId → Bool} (hok : EqOK P ok) {it : ITab} (hit : ∀ g c0 c1 xs, it g c0 c1 = some xs → ItOK P g c0 c1 xs) (hm : P.follows .mixedOrders = true) {xs : FuncId → Bool} {pt : PC} (hpt : PCOK P pt) {lim : Nat} :
    ∀ d, CFOK P (exG P T ok it xs pt lim d)
  | 0 => fun f args σ v σ' h => by simp [exG] at h
  | d + 1 => fun f args σ v σ' h => by
    have ih := exG_sound hT hok hit hm hpt (xs := xs) (lim := lim) d
    have hpc : PCOK P (pcF (exG P T ok it xs pt lim d)) := pcF_ok ih
    simp only [exG] at h
    split at h
    · rename_i v1 hx
      cases h
      cases hxs : xs f with
      | false => rw [hxs] at hx; cases hx
      | true => rw [hxs] at hx; exact exCall_sound hpt hx
    · split at h
      · rename_i fn hfn
        cases hn : fn.name == "runtime.NumGoroutine" with
        | true => rw [hn] at h; cases h
        | false =>
          rw [hn] at h
          simp only [cond_false] at h
          unfold exBody at h
          split at h
          · rename_i c hb
            obtain ⟨hle, h⟩ := cond_some h
            have hle := Nat.le_of_ble_eq_true hle
            refine ⟨⟨fn, hfn, hn, by rw [hb]; rfl⟩, ?_⟩
            have main : ∀ e env1 σ1 vs, (e = .normal ∨ e = .ret) → exCode T ok (exG P T ok it xs pt lim d) (pcF (exG P T ok it xs pt lim d)) it lim fn.ntmps c (env0 0 args) σ = some (e, env1, σ1) → vcRes T env1 σ1.get fn.results.toList = some vs → (resV vs, gcS σ.next (resV vs) σ1) = (v, σ') →
                SemCall P f args σ fun v2 σ2 => v2 = v ∧ σ2 = σ' := by
              intro e env1 σ1 vs he hx hr heq
              cases heq
              refine SemCall.forgets (K := fun v2 σ2 => v2 = resV vs ∧ σ2 = σ1) (body_awp hT hfn hb hle ((exCode_sound hT hok ih hpc hit hm c _ _ _ _ _ hx).mono fun e2 env2 σ2 hq => ?_)) (fun v2 σ2 hq => ?_)
              · obtain ⟨rfl, rfl, rfl⟩ := hq
                rcases he with rfl | rfl
                · exact Got.intro hr ⟨rfl, rfl⟩
                · exact Got.intro hr ⟨rfl, rfl⟩
              · obtain ⟨rfl, rfl⟩ := hq
                exact ⟨_, gcS_forget _ _ _, rfl, rfl⟩
            split at h
            · rename_i env1 σ1 hx
              split at h
              · rename_i vs hr
                exact main _ _ _ _ (.inl rfl) hx hr (Option.some.inj h)
              · cases h
            · rename_i env1 σ1 hx
              split at h
              · rename_i vs hr
                exact main _ _ _ _ (.inr rfl) hx hr (Option.some.inj h)
              · cases h
            · cases h
          · cases h
      · cases h

/-- A contract that was reckoned. -/
theorem pcall_ex {cf : CF} (ih : CFOK P cf) {f : FuncId} {args : List AV} {res : PRes} (h : pcF cf f args = some res) : PCall P f args res := pcF_ok ih f args res h
end Go.Sx
namespace Go.Sx
open Go Go.RowKit

variable {P : Program} {N : Nat}

/-! ### Contracts of functions, met by hand or by a table -/
/-- A call that is met by its meaning. -/
def SC (P : Program) (f : FuncId) (args : List AV) (σ : St) (K : AV → St → Prop) : Prop := FnOK P f ∧ SemCall P f args σ K

/-- The calculus over a table of contracts; calls of functions in 'sx' are left to the hand. -/
def cxP (P : Program) (T : Tab) (ok : TypeId → Bool) (sx : FuncId → Bool) (pc : PC) : Cx := ⟨T, ok, fun f args σ K => cond (sx f) (SC P f args σ K) (callP (pc f) args σ K)⟩
theorem cxP_ok {T : Tab} {ok : TypeId → Bool} {sx : FuncId → Bool} {pc : PC} (hT : TabOK P T) (hok : EqOK P ok) (hpc : PCOK P pc) : CxOK P (cxP P T ok sx pc) :=
  ⟨hT, hok, fun f args σ K h => by
    simp only [cxP] at h
    cases hs : sx f with
    | true => rw [hs] at h; exact h
    | false => rw [hs] at h; exact sem_of_pcall (fun as res hr => hpc f as res hr) h⟩

def hdP (P : Program) (T : Tab) (ok : TypeId → Bool) (sx : FuncId → Bool) (pc : PC) (N : Nat) : Hd :=
  ⟨fun c env σ Q => Awp P N (.loop c) env σ Q, fun f ps x y env σ Q => Awp P N (.rangeFunc f ps x y) env σ Q, fun ops env σ K => vcDraw (cxP P T ok sx pc) pc N ops env σ K⟩
theorem hdP_ok {T : Tab} {ok : TypeId → Bool} {sx : FuncId → Bool} {pc : PC} (hT : TabOK P T) (hok : EqOK P ok) (hpc : PCOK P pc) (hm : P.follows .mixedOrders = true) (N : Nat) : HdOK P N (hdP P T ok sx pc N) :=
  ⟨fun _ _ _ _ h => h, fun _ _ _ _ _ _ _ h => h, fun id ops env σ K h => vcDraw_sound (cxP_ok hT hok hpc) hpc hm id ops env σ K h⟩

theorem FnOK.of {f : FuncId} {fn : Func} (hf : P.funcs[f]? = some fn) (h1 : (fn.name == "runtime.NumGoroutine") = false) (h2 : fn.body.isNone = false) : FnOK P f := ⟨fn, hf, h1, h2⟩

/-- What is given with a program. -/
structure Base (P : Program) where
  T : Tab
  ok : TypeId → Bool
  hT : TabOK P T
  hok : EqOK P ok
  hm : P.follows .mixedOrders = true

variable (Bs : Base P)

abbrev Base.body (sx : FuncId → Bool) (pc : PC) (fn : Func) (args : List AV) (σ : St) (K : AV → St → Prop) : Prop := vcBody (cxP P Bs.T Bs.ok sx pc) (hdP P Bs.T Bs.ok sx pc) fn args σ K
abbrev Base.code (sx : FuncId → Bool) (pc : PC) (N : Nat) (c : Code) (env : Env) (σ : St) (Q : Exit → Env → St → Prop) : Prop := vcCode (cxP P Bs.T Bs.ok sx pc) N (hdP P Bs.T Bs.ok sx pc N) c env σ Q

theorem Base.pcall {sx : FuncId → Bool} {pc : PC} (hpc : PCOK P pc) {f : FuncId} {fn : Func} (hf : P.funcs[f]? = some fn) (h1 : (fn.name == "runtime.NumGoroutine") = false) (h2 : fn.body.isNone = false)
    {args : List AV} {res : PRes} (hids : idsLt res.blks.length res.v = true) (hv : Bs.body sx pc fn args ⟨[], 0⟩ (Exports res)) : PCall P f args res :=
  pcall_of_body (cxP_ok Bs.hT Bs.hok hpc) (fun N => hdP_ok Bs.hT Bs.hok hpc Bs.hm N) hf (FnOK.of hf h1 h2) hids hv

theorem Base.sem {sx : FuncId → Bool} {pc : PC} (hpc : PCOK P pc) {f : FuncId} {fn : Func} (hf : P.funcs[f]? = some fn) (h1 : (fn.name == "runtime.NumGoroutine") = false) (h2 : fn.body.isNone = false)
    {args : List AV} {σ : St} {K : AV → St → Prop} (hv : Bs.body sx pc fn args σ K) : SC P f args σ K :=
  ⟨FnOK.of hf h1 h2, body_sem (cxP_ok Bs.hT Bs.hok hpc) (fun N => hdP_ok Bs.hT Bs.hok hpc Bs.hm N) hf hv⟩

theorem Base.awp {sx : FuncId → Bool} {pc : PC} (hpc : PCOK P pc) {c : Code} {env : Env} {σ : St} {Q : Exit → Env → St → Prop} (hv : Bs.code sx pc N c env σ Q) : Awp P N c env σ Q :=
  vcCode_sound (cxP_ok Bs.hT Bs.hok hpc) (hdP_ok Bs.hT Bs.hok hpc Bs.hm N) c env σ Q hv


/-! ### Loops -/
def keepE : List Nat → Env → Env
  | [], _ => []
  | i :: l, env => (i, env.get i) :: keepE l env
theorem keepE_get (env : Env) : ∀ (l : List Nat) (i : Nat), (keepE l env).get i = env.get i ∨ (keepE l env).get i = .any
  | [], i => .inr rfl
  | j :: l, i => by
    simp only [keepE, Env.get_cons]
    by_cases h : i = j
    · subst h; simp
    · simp only [h, if_false]; exact keepE_get env l i

def keepH : List Nat → (Nat → ABlk) → List (Nat × ABlk)
  | [], _ => []
  | i :: l, h => (i, h i) :: keepH l h
theorem keepH_get (h : Nat → ABlk) : ∀ (l : List Nat) (i : Nat), hget (keepH l h) i = h i ∨ hget (keepH l h) i = .dead
  | [], i => .inr rfl
  | j :: l, i => by
    simp only [keepH, hget_cons]
    by_cases e : i = j
    · subst e; simp
    · simp only [e, if_false]; exact keepH_get h l i
/-- What is kept of a state. -/
def keepS (l : List Nat) (σ : St) : St := ⟨keepH l σ.get, σ.next⟩

theorem keep_forget (l m : List Nat) (env : Env) (σ : St) : Forget env σ (keepE l env) (keepS m σ) := ⟨keepE_get env l, fun i => keepH_get σ.get m i, rfl⟩

theorem Awp.pre {c : Code} {env env' : Env} {σ σ' : St} {Q : Exit → Env → St → Prop} (hf : Forget env σ env' σ') (h : Awp P N c env' σ' Q) : Awp P N c env σ Q :=
  fun F B w0 I0 pr r I D a w hF hR S => h F B w0 I0 pr r I D a w hF hR (S.forget hf)

/-- A loop, by what stands at its head: 'E', 'Z' say it of a state of one's own. -/
theorem loop_fam {S : Type} (μ : S → Nat) (E : S → Env) (Z : S → St) (l m : List Nat) {c : Code} {Q : Exit → Env → St → Prop} (G : S → Prop)
    (step : ∀ s, G s → Awp P N c (E s) (Z s) (seqQ (fun env' σ' => ∃ s', G s' ∧ μ s' < μ s ∧ keepE l env' = E s' ∧ keepS m σ' = Z s') Q))
    (s : S) (hs : G s) {env : Env} {σ : St} (he : keepE l env = E s) (hz : keepS m σ = Z s) : Awp P N (.loop c) env σ Q := by
  have key : ∀ n s, μ s < n → G s → LoopN P N c Q n (E s) (Z s) := by
    intro n
    induction n with
    | zero => intro s h; omega
    | succ n ih =>
      intro s h hg
      simp only [LoopN]
      refine (step s hg).forgets fun e env' σ' hq => ?_
      cases e with
      | normal =>
        obtain ⟨s', g', m', e1, e2⟩ := hq
        refine ⟨keepE l env', keepS m σ', keep_forget _ _ _ _, ?_⟩
        simp only [seqQ]
        rw [e1, e2]
        exact ih s' (by omega) g'
      | exit id => exact ⟨env', σ', ⟨fun _ => .inl rfl, fun _ => .inl rfl, rfl⟩, hq⟩
      | goto l => exact ⟨env', σ', ⟨fun _ => .inl rfl, fun _ => .inl rfl, rfl⟩, hq⟩
      | ret => exact ⟨env', σ', ⟨fun _ => .inl rfl, fun _ => .inl rfl, rfl⟩, hq⟩
      | panic ch => exact ⟨env', σ', ⟨fun _ => .inl rfl, fun _ => .inl rfl, rfl⟩, hq⟩
      | outgrown => exact ⟨env', σ', ⟨fun _ => .inl rfl, fun _ => .inl rfl, rfl⟩, hq⟩
  have := loopN_sound (key (μ s + 1) s (by omega) hs)
  rw [← he, ← hz] at this
  exact Awp.pre (keep_forget l m env σ) this

theorem As.p {p : Prop} [Decidable p] {A : Prop} (h : p) (k : A) : As (decide p) A := As.intro (decide_eq_true h) k
theorem As.np {p : Prop} [Decidable p] {A : Prop} (h : ¬ p) (k : A) : As (!decide p) A := As.intro (by rw [decide_eq_false h]; rfl) k
theorem Br.dec {p : Prop} [Decidable p] {A A' : Prop} (h : p → A) (h' : ¬ p → A') : Br (decide p) A A' := Br.intro (fun e => h (of_decide_eq_true e)) (fun e => h' (of_decide_eq_false e))
theorem exports_of {v : AV} {res : AV} {σ : St} (h : v = res) (hp : renAV (listed []) res = res) : Exports ⟨res, []⟩ v σ := by subst h; exact exports_pure hp
theorem exports_int {k : IntKind} {n m : Int} {σ : St} (h : n = m) : Exports ⟨.int k m, []⟩ (.int k n) σ := exports_of (by rw [h]) rfl
theorem exports_bool {n m : Bool} {σ : St} (h : n = m) : Exports ⟨.bool m, []⟩ (.bool n) σ := exports_of (by rw [h]) rfl
end Go.Sx
namespace Go.Sx
open Go Go.RowKit

variable {P : Program} {N B l : Nat} {Ig : Imm} {JX : Zs → (Nat → Prop) → World → Prop}

theorem IS.forget {z : Zs} {env env' : Env} {σ σ' : St} {a : Act} {w : World} (S : IS N B Ig JX z env σ a w) (h : Forget env σ env' σ') : IS N B Ig JX z env' σ' a w := by
  obtain ⟨⟨r, D, O, H, hO, E, hj⟩, hd⟩ := S
  have S' := SR.forget (B := B) (w0 := w) (I0 := Ig) (pr := prO B O w) (a := a) ⟨H, E⟩ h
  exact ⟨⟨r, D, O, S'.hr, hO, S'.er, hj⟩, hd⟩

theorem AwpI.pre {c : Code} {env env' : Env} {σ σ' : St} {z : Zs} {Q : IQ} (hf : Forget env σ env' σ') (h : AwpI P N B Ig JX c env' σ' z Q) : AwpI P N B Ig JX c env σ z Q := fun a w S => h a w (S.forget hf)

theorem AwpI.forgets {c : Code} {env : Env} {σ : St} {z : Zs} {Q Q' : IQ} (h : AwpI P N B Ig JX c env σ z Q) (hq : ∀ e env σ z, Q e env σ z → ∃ env' σ', Forget env σ env' σ' ∧ Q' e env' σ' z) : AwpI P N B Ig JX c env σ z Q' :=
  fun a w S => Code.wpIn_mono (fun e a' w' ⟨env1, σ1, z1, q1, s1⟩ => by
    obtain ⟨env2, σ2, hf, q2⟩ := hq _ _ _ _ q1
    exact ⟨env2, σ2, z1, q2, s1.forget hf⟩) (h a w S)

theorem iloop_fam {S : Type} (μ : S → Nat) (E : S → Env) (Y : S → St) (Z : S → Zs) (ks ms : List Nat) {c : Code} {Q : IQ} (G : S → Prop)
    (step : ∀ s, G s → AwpI P N B Ig JX c (E s) (Y s) (Z s) (seqI (fun env' σ' z' => ∃ s', G s' ∧ μ s' < μ s ∧ keepE ks env' = E s' ∧ keepS ms σ' = Y s' ∧ z' = Z s') Q))
    (s : S) (hs : G s) {env : Env} {σ : St} {z : Zs} (he : keepE ks env = E s) (hy : keepS ms σ = Y s) (hz : z = Z s) : AwpI P N B Ig JX (.loop c) env σ z Q := by
  have key : ∀ n s, μ s < n → G s → LoopI (AwpI P N B Ig JX) c Q n (E s) (Y s) (Z s) := by
    intro n
    induction n with
    | zero => intro s h; omega
    | succ n ih =>
      intro s h hg
      simp only [LoopI]
      refine (step s hg).forgets fun e env' σ' z' hq => ?_
      cases e with
      | normal =>
        obtain ⟨s', g', m', e1, e2, e3⟩ := hq
        refine ⟨keepE ks env', keepS ms σ', keep_forget _ _ _ _, ?_⟩
        simp only [seqI]
        rw [e1, e2, e3]
        exact ih s' (by omega) g'
      | exit id => exact ⟨env', σ', ⟨fun _ => .inl rfl, fun _ => .inl rfl, rfl⟩, hq⟩
      | goto l => exact ⟨env', σ', ⟨fun _ => .inl rfl, fun _ => .inl rfl, rfl⟩, hq⟩
      | ret => exact ⟨env', σ', ⟨fun _ => .inl rfl, fun _ => .inl rfl, rfl⟩, hq⟩
      | panic ch => exact ⟨env', σ', ⟨fun _ => .inl rfl, fun _ => .inl rfl, rfl⟩, hq⟩
      | outgrown => exact ⟨env', σ', ⟨fun _ => .inl rfl, fun _ => .inl rfl, rfl⟩, hq⟩
  have := loopI_sound _ (key (μ s + 1) s (by omega) hs)
  rw [← he, ← hy, ← hz] at this
  exact AwpI.pre (keep_forget ks ms env σ) this

/-- The last thing of an iterator. -/
def ItEnd (T : Tab) (fn : Func) : IQ := fun e env' σ' z => (e = .normal ∨ e = .ret) ∧ (z = some [] ∨ z = none) ∧ ∃ vs, vcRes T env' σ'.get fn.results.toList = some vs

variable (Bs : Base P)

abbrev Base.icode (Bs : Base P) (pc : PC) (N B l : Nat) (Ig : Imm) (JX : Zs → (Nat → Prop) → World → Prop) : Code → Env → St → Zs → IQ → Prop := vcItC (cxP P Bs.T Bs.ok (fun _ => false) pc) pc N l (fun c env σ z Q => AwpI P N B Ig JX (.loop c) env σ z Q)

theorem Base.awpi {pc : PC} (hpc : PCOK P pc) (hI : ItEnv P B Ig l JX) {c : Code} {env : Env} {σ : St} {z : Zs} {Q : IQ} (hv : Bs.icode pc N B l Ig JX c env σ z Q) : AwpI P N B Ig JX c env σ z Q :=
  vcItC_sound (cxP_ok Bs.hT Bs.hok hpc) hpc hI (fun _ _ _ _ _ h => h) c env σ z Q hv

theorem Base.iter {pc : PC} (hpc : PCOK P pc) {g : FuncId} {fn : Func} {c : Code} (hf : P.funcs[g]? = some fn) (h1 : (fn.name == "runtime.NumGoroutine") = false) (hb : fn.body = some c) {c0 c1 : List AV} {xs : List (List AV)} (hle : Nat.ble (c0.length + 1 + c1.length) fn.ntmps = true)
    (hv : ∀ (B : Nat) (Ig : Imm) (l : Nat) (JX : Zs → (Nat → Prop) → World → Prop), ItEnv P B Ig l JX → Bs.icode pc fn.ntmps B l Ig JX c (env0 0 ((c0 ++ [AV.yld l]) ++ c1)) ⟨[], 0⟩ (some xs) (ItEnd Bs.T fn)) : ItOK P g c0 c1 xs :=
  it_of_body Bs.hT hf (FnOK.of hf h1 (by rw [hb]; rfl)) hb (Nat.le_of_ble_eq_true hle) (fun B Ig l JX hI => Bs.awpi hpc hI (hv B Ig l JX hI))
end Go.Sx
namespace Go.Sx
open Go Go.RowKit

variable {r r' : Locs} {D D' : Nat → Prop} {I I' : Imm} {w w' w0 : World} {I0 : Imm} {B n n' k N : Nat} {pr pr' : Nat → Obj → Prop} {h : Nat → ABlk} {P : Program}

/-- A call of a function that the model takes in place. -/
theorem op_ext {F : Fence} (hF : FOK F) (o : Oper) {env : Env} {σ : St} {a : Act} (S : SR B w0 I0 pr N r I D env σ a w) {K : Env → St → Prop} {Q : Exit → Act → World → Prop} {next : Act → World → Prop}
    {f : Operand} {args : Array Operand} {ts : Array TypeId} (hop : o.op = .call { callee := .value f, args := args, argTypes := ts }) {g : FuncId} (hf : evA env f = .func g [] []) {fn : Func} (hfn : P.funcs[g]? = some fn) (hname : (fn.name == "runtime.NumGoroutine") = false)
    (hb : fn.body.isNone = true) (hn : Extern.findNext fn = none) {e : Array Value → Sem Value} (he : Extern.find fn = some e) {v : AV}
    (hsem : ∀ vs, VRs r I w D (evAll (evA env) args.toList) vs → ∃ x, (e vs).run P w = .ok x w ∧ VR r I w D v x)
    (hput : putEnv N o.dst v env fun env' => K env' σ) (hnext : ∀ a' w', Leaves B w0 I0 pr N r I D w a.defers K a' w' → next a' w') : o.wpIn F 0 P a w next Q := by
  refine ⟨about_ok hF o a w, ?_⟩
  rw [Oper.semAt_eq _ _ _ (fun c e => by rw [hop] at e; cases e)]
  have hfv := evA_VR S.er f
  rw [hf] at hfv
  have hv : a.eval f = .func (.func g) #[] #[] := by
    generalize a.eval f = z at hfv
    cases hfv with
    | func _ _ _ _ v0 v1 h0 h1 g0 g1 =>
      have e0 : v0 = #[] := by simpa using h0
      have e1 : v1 = #[] := by simpa using h1
      rw [e0, e1]
  have hargs := evAll_VRs (fun x => evA_VR S.er x) args
  obtain ⟨x, h1, h2⟩ := hsem _ hargs
  have hrun : (execOp a.eval o).run P w = .ok (.value x) w := by
    have : execOp a.eval o = (do let d ← resolve a.eval { callee := .value f, args := args, argTypes := ts } o.type; invoke d.target d.args) := by
      unfold execOp; rw [hop]
    rw [this]
    simp [resolve, hv, Deferred.ofValue, invoke, run_callFunc_extern hfn hname hb hn he, h1, Result.andThen]
  rw [hrun]
  exact hnext _ _ (put_leaves (a := a) S.hr S.er (Step.refl _ _ _ _) h2 hput)
end Go.Sx
