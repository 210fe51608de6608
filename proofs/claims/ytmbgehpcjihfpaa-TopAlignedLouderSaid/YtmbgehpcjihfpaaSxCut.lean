/- A part of the proof: lemmas. -/
import Derived.Test.YtmbgehpcjihfpaaZx6
set_option linter.unusedVariables false
set_option linter.unusedSimpArgs false
namespace Go.Sx
open Go Go.RowKit
variable {P : Program} {N : Nat}
theorem Awp.seq {x y : Code} {env : Env} {σ : St} {Q : Exit → Env → St → Prop} (hv : Awp P N x env σ (seqQ (fun env1 σ1 => Awp P N y env1 σ1 Q) Q)) : Awp P N (.seq x y) env σ Q := by
    intro F B w0 I0 pr r I D a w hF hR S
    refine wpIn_seq (Code.wpIn_mono (fun e a' w' h => ?_) (hv F B w0 I0 pr r I D a w hF hR S))
    cases e with
    | normal =>
      obtain ⟨pr1, ms1, env1, σ1, r1, I1, D1, p1, m1, n1, d1, q1, s1, t1, z1⟩ := h
      refine Code.wpIn_mono (fun e2 a2 w2 h2 => ?_) (q1 F B w0 I0 pr1 r1 I1 D1 a' w' hF (hR.le p1) s1)
      have h1 : Post B w0 I0 pr N r I D w a.defers (fun _ env' σ' => env' = env1 ∧ σ' = σ1) .normal a' w' := ⟨pr1, ms1, env1, σ1, r1, I1, D1, p1, m1, n1, d1, ⟨rfl, rfl⟩, s1, t1, z1⟩
      obtain ⟨pr2, ms2, env2, σ2, r2, I2, D2, p2, m2, n2, d2, q2, s2, t2, z2⟩ := h2
      refine ⟨pr2, ms2 ++ ms1, env2, σ2, r2, I2, D2, fun b o h => p2 _ _ (p1 _ _ h), ?_, ?_, by rw [d2, d1, List.append_assoc], q2, s2, t1.trans t2, Nat.le_trans z1 z2⟩
      · intro d hd
        rcases List.mem_append.1 hd with h | h
        · obtain ⟨b, g1, g2, g3⟩ := m2 d h
          exact ⟨b, g1, g2, Nat.le_trans z1 g3⟩
        · obtain ⟨b, g1, g2, g3⟩ := m1 d h
          exact ⟨b, g1, p2 _ _ g2, g3⟩
      · refine List.pairwise_append.2 ⟨n2, n1, fun x hx y hy e => ?_⟩
        obtain ⟨b, g1, g2, g3⟩ := m2 x hx
        obtain ⟨b', g1', g2', g3'⟩ := m1 y hy
        have := (Array.getElem?_eq_some_iff.1 (s1.hr.prot _ _ g2').1).1
        rw [g1, g1'] at e
        simp only [Target.collected.injEq] at e
        omega
    | exit id => exact h.mono fun _ _ q => q
    | goto l => exact h.mono fun _ _ q => q
    | ret => exact h.mono fun _ _ q => q
    | panic ch => exact h.mono fun _ _ q => q
    | outgrown => exact h.mono fun _ _ q => q

theorem body_semA {cx : Cx} (hcx : CxOK P cx) {f : FuncId} {fn : Func} (hf : P.funcs[f]? = some fn) {args : List AV} {σ : St} {K : AV → St → Prop} (hv : match fn.body with
  | some c => Nat.ble args.length fn.ntmps = true ∧ Awp P fn.ntmps c (env0 0 args) σ (retQ cx.T fn.results.toList K)
  | none => False) : SemCall P f args σ K := by
  intro B w0 I0 pr r I D w vs H hargs
  split at hv
  · rename_i c hb
    obtain ⟨hle, hv⟩ := hv
    · have hle := Nat.le_of_ble_eq_true hle
      refine callsIn_of_wp_marks hf hb trivial ?_
      have hsz : vs.size = args.length := hargs.1
      have S : SR B w0 I0 pr fn.ntmps r I D (env0 0 args) σ { tmps := vs ++ Array.replicate (fn.ntmps - vs.size) undef, defers := [] } w := by
        refine ⟨H, by simp; omega, fun i => ?_⟩
        rw [env0_get]
        simp only [Nat.zero_le, if_true, Nat.sub_zero]
        cases hi : args[i]? with
        | none => simp; exact .any _ _
        | some v =>
          have hlt : i < vs.size := by rw [hsz]; exact (List.getElem?_eq_some_iff.1 hi).1
          have := hargs.2 i v vs[i] hi (by simp [hlt])
          simpa [Array.getD_eq_getD_getElem?, Array.getElem?_append, hlt] using this
      refine Code.wpIn_mono (fun e a' w' hp => ?_) (hv Fence.wide B w0 I0 pr r I D _ w (.inl rfl) (fun l hl => by cases hl) S)
      have fin : ∀ (pr' : Nat → Obj → Prop) (ms : List Deferred) (env' : Env) (σ' : St) (r' : Locs) (I' : Imm) (D' : Nat → Prop), (∀ b o, pr b o → pr' b o) → Mk w pr' ms → ms.Pairwise (fun a b => a.target ≠ b.target) → a'.defers = ms ++ [] →
          (Got (vcRes cx.T env' σ'.get fn.results.toList) fun vs => K (resV vs) σ') → SR B w0 I0 pr' fn.ntmps r' I' D' env' σ' a' w' → Step r D I w r' D' I' w' →
          LeavesInM Fence.wide 0 P fn a'.tmps (fun e w' => ∃ x v σ' r' I' D', e = .returned x ∧ K v σ' ∧ HR B w0 I0 pr r' I' D' σ'.get σ'.next w' ∧ VR r' I' w' D' v x ∧ Step r D I w r' D' I' w') a'.defers .returning w' := by
        intro pr' ms env' σ' r' I' D' p1 m1 n1 d1 q1 s1 t1
        obtain ⟨us, hus, hk⟩ := Got.cases q1
        rw [d1, List.append_nil]
        refine leaves_marks hcx.tab ms (pr := pr) m1 n1 (fun x o hx => ⟨p1 x o hx, (Array.getElem?_eq_some_iff.1 (H.prot x o hx).1).1⟩) s1.hr s1.er hus (fun x w2 H2 S2 V2 => ?_)
        exact ⟨x, resV us, σ', r', I', D', rfl, hk, H2, V2, t1.trans S2⟩
      obtain ⟨pr', ms, env', σ', r', I', D', p1, m1, n1, d1, q1, s1, t1, z1⟩ := hp
      cases e with
      | normal => exact fin pr' ms env' σ' r' I' D' p1 m1 n1 d1 q1 s1 t1
      | ret => exact fin pr' ms env' σ' r' I' D' p1 m1 n1 d1 q1 s1 t1
      | _ => exact q1.elim
  · exact hv.elim


/-! ### A body, cut between two statements -/
def takeS : Nat → Code → Code
  | n + 1, .seq x y => .seq x (takeS n y)
  | 0, _ => .skip
  | _, _ => .refuse ""
def dropS : Nat → Code → Code
  | n + 1, .seq _ y => dropS n y
  | 0, c => c
  | _, _ => .skip
inductive Cut (P : Program) (N : Nat) (c : Code) (env : Env) (σ : St) (Q : Exit → Env → St → Prop) : Prop
  | mk (h : Awp P N c env σ Q) : Cut P N c env σ Q
instance {c : Code} {env : Env} {σ : St} {Q : Exit → Env → St → Prop} : Stop (Cut P N c env σ Q) := ⟨trivial⟩
theorem Awp.skip {env : Env} {σ : St} {Q : Exit → Env → St → Prop} (h : Q .normal env σ) : Awp P N .skip env σ Q := fun F B w0 I0 pr r I D a w hF hR S => wpIn_skip (Post.same S h rfl)
theorem cutV {cx : Cx} (hcx : CxOK P cx) {hd : Hd} (hhd : HdOK P N hd) : ∀ (n : Nat) (c : Code) (env : Env) (σ : St) (Q : Exit → Env → St → Prop), vcCode cx N hd (takeS n c) env σ (seqQ (fun e s => Cut P N (dropS n c) e s Q) Q) → Awp P N c env σ Q
  | 0, c, env, σ, Q, hv => by
    have hv : Cut P N (dropS 0 c) env σ Q := by cases c <;> exact hv
    have e : dropS 0 c = c := by cases c <;> rfl
    rw [e] at hv
    exact hv.1
  | n + 1, .seq x y, env, σ, Q, hv => by
    refine Awp.seq ((vcCode_sound hcx hhd x env σ _ hv).mono fun e env1 σ1 h => ?_)
    cases e with
    | normal => exact cutV hcx hhd n y env1 σ1 Q h
    | _ => exact h
  | n + 1, .skip, _, _, _, hv => hv.elim
  | n + 1, .region .., _, _, _, hv => hv.elim
  | n + 1, .cond .., _, _, _, hv => hv.elim
  | n + 1, .block .., _, _, _, hv => hv.elim
  | n + 1, .loop .., _, _, _, hv => hv.elim
  | n + 1, .rangeFunc .., _, _, _, hv => hv.elim
  | n + 1, .exit .., _, _, _, hv => hv.elim
  | n + 1, .ret .., _, _, _, hv => hv.elim
  | n + 1, .scope .., _, _, _, hv => hv.elim
  | n + 1, .label .., _, _, _, hv => hv.elim
  | n + 1, .goto .., _, _, _, hv => hv.elim
  | n + 1, .refuse .., _, _, _, hv => hv.elim
variable (Bs : Base P)
/-- A contract out of a body that is cut behind its n-th statement. -/
theorem Base.pvc (n : Nat) {sx : FuncId → Bool} {pc : PC} (hpc : PCOK P pc) {f : FuncId} {fn : Func} (hf : P.funcs[f]? = some fn) (h1 : (fn.name == "runtime.NumGoroutine") = false) (h2 : fn.body.isNone = false)
    {args : List AV} {res : PRes} (hids : idsLt res.blks.length res.v = true) (hv : match fn.body with
      | some c => cond (Nat.ble args.length fn.ntmps) (vcCode (cxV P Bs.T Bs.ok sx pc) fn.ntmps (hdV P Bs.T Bs.ok sx pc fn.ntmps) (takeS n c) (env0 0 args) ⟨[], 0⟩ (seqQ (fun e s => Cut P fn.ntmps (dropS n c) e s (retQ Bs.T fn.results.toList (fun v σ => fA v fun v => Ret res v σ))) (retQ Bs.T fn.results.toList (fun v σ => fA v fun v => Ret res v σ)))) False
      | none => False) : PCall P f args res := by
  have hb : match fn.body with
      | some c => Nat.ble args.length fn.ntmps = true ∧ Awp P fn.ntmps c (env0 0 args) ⟨[], 0⟩ (retQ Bs.T fn.results.toList (fun v σ => fA v fun v => Ret res v σ))
      | none => False := by
    revert hv
    generalize fn.body = bd
    intro hv
    cases bd with
    | none => exact hv.elim
    | some c =>
      dsimp only at hv ⊢
      cases hle : Nat.ble args.length fn.ntmps with
      | false => rw [hle] at hv; exact hv.elim
      | true => rw [hle] at hv; exact ⟨rfl, cutV (cxV_ok Bs.hT Bs.hok hpc) (hdV_ok Bs.hT Bs.hok hpc Bs.hm _) n c _ _ _ hv⟩
  refine pcall_of_sem (FnOK.of hf h1 h2) hids (SemCall.tag (body_semA (cxV_ok (sx := sx) Bs.hT Bs.hok hpc) hf hb) fun v σ h => ?_)
  rw [fA_eq] at h; exact h.1
/-- A further cut. -/
theorem Base.cut (n : Nat) {sx : FuncId → Bool} {pc : PC} (hpc : PCOK P pc) {c : Code} {env : Env} {σ : St} {Q : Exit → Env → St → Prop} (hv : vcCode (cxV P Bs.T Bs.ok sx pc) N (hdV P Bs.T Bs.ok sx pc N) (takeS n c) env σ (seqQ (fun e s => Cut P N (dropS n c) e s Q) Q)) : Awp P N c env σ Q :=
  cutV (cxV_ok Bs.hT Bs.hok hpc) (hdV_ok Bs.hT Bs.hok hpc Bs.hm _) n c env σ Q hv
theorem Cut.go {c : Code} {env : Env} {σ : St} {Q : Exit → Env → St → Prop} (h : Awp P N c env σ Q) : Cut P N c env σ Q := ⟨h⟩
/-- The state may be written in another way. -/
theorem Cut.of {c : Code} {env env2 : Env} {σ σ2 : St} {Q : Exit → Env → St → Prop} (hr : Ren σ.next env σ env2 σ2) (h : Awp P N c env2 σ2 Q) : Cut P N c env σ Q := ⟨h.ren hr⟩
end Go.Sx
