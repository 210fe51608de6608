/- A part of the proof: lemmas. -/
import Derived.Test.YtmbgehpcjihfpaaZx3
import Derived.Test.YtmbgehpcjihfpaaZx6
import Derived.Test.YtmbgehpcjihfpaaZx7
import Derived.IntWalk
import Derived.KernelRfl
import Derived.Test.YtmbgehpcjihfpaaProg
set_option linter.unusedVariables false
set_option linter.unusedSimpArgs false
namespace Go.Proofs.Ytmbgehpcjihfpaa
open Go Go.Sx
noncomputable def tbl : List (Nat × TI) :=
  [(2, ⟨.int .i64, 1, 8, false, [.int .i64 0]⟩),
   (3, ⟨.int .i64, 1, 8, false, [.int .i64 0]⟩),
   (4, ⟨.bool, 1, 1, false, [.bool false]⟩),
   (6, ⟨.int .u8, 1, 1, false, [.int .u8 0]⟩),
   (8, ⟨.struct #[⟨ "x", 2, 0, false, "", "runtime", 0⟩, ⟨ "y", 3, 1, false, "", "runtime", 8⟩, ⟨ "signed", 4, 2, false, "", "runtime", 16⟩, ⟨ "code", 6, 3, false, "", "runtime", 17⟩], 4, 24, true, [.int .i64 0, .int .i64 0, .bool false, .int .u8 0]⟩),
   (9, ⟨.string, 1, 16, false, [.str ⟨#[]⟩]⟩),
   (10, ⟨.string, 1, 16, false, [.str ⟨#[]⟩]⟩),
   (11, ⟨.string, 1, 16, false, [.str ⟨#[]⟩]⟩),
   (12, ⟨.int .u64, 1, 8, false, [.int .u64 0]⟩),
   (14, ⟨.struct #[⟨ "msg", 9, 0, false, "", "runtime", 0⟩, ⟨ "addr", 12, 1, false, "", "runtime", 16⟩], 2, 24, true, [.str ⟨#[]⟩, .int .u64 0]⟩),
   (15, ⟨.pointer 92, 1, 8, false, [.nilp]⟩),
   (16, ⟨.pointer 95, 1, 8, false, [.nilp]⟩),
   (17, ⟨.pointer 104, 1, 8, false, [.nilp]⟩),
   (19, ⟨.struct #[⟨ "typ", 17, 0, false, "", "internal/runtime/maps", 0⟩], 1, 8, true, [.nilp]⟩),
   (22, ⟨.slice 35, 1, 24, false, [.nils]⟩),
   (24, ⟨.struct #[⟨ "Rate", 3, 0, false, "", "", 0⟩, ⟨ "Speed", 3, 1, false, "", "", 8⟩, ⟨ "Speakers", 22, 2, false, "", "", 16⟩], 3, 40, true, [.int .i64 0, .int .i64 0, .nils]⟩),
   (26, ⟨.struct #[⟨ "X", 3, 0, false, "", "", 0⟩, ⟨ "Y", 3, 1, false, "", "", 8⟩, ⟨ "Z", 3, 2, false, "", "", 16⟩], 3, 24, true, [.int .i64 0, .int .i64 0, .int .i64 0]⟩),
   (27, ⟨.slice 3, 1, 24, false, [.nils]⟩),
   (29, ⟨.int .i64, 1, 8, false, [.int .i64 0]⟩),
   (35, ⟨.struct #[⟨ "At", 26, 0, false, "", "", 0⟩, ⟨ "Gain", 3, 3, false, "", "", 24⟩, ⟨ "Delay", 3, 4, false, "", "", 32⟩], 5, 40, true, [.int .i64 0, .int .i64 0, .int .i64 0, .int .i64 0, .int .i64 0]⟩),
   (36, ⟨.complex .f64, 1, 16, false, [.cpx .f64 0 0]⟩),
   (40, ⟨.struct #[⟨ "Lo", 3, 0, false, "", "", 0⟩, ⟨ "Hi", 3, 1, false, "", "", 8⟩], 2, 16, true, [.int .i64 0, .int .i64 0]⟩),
   (43, ⟨.float .f64, 1, 8, false, [.flt .f64 0]⟩),
   (44, ⟨.array 4 43, 4, 32, true, [.flt .f64 0, .flt .f64 0, .flt .f64 0, .flt .f64 0]⟩),
   (45, ⟨.array 4 3, 4, 32, true, [.int .i64 0, .int .i64 0, .int .i64 0, .int .i64 0]⟩),
   (51, ⟨.slice 55, 1, 24, false, [.nils]⟩),
   (55, ⟨.struct #[⟨ "ArraySpeaker", 35, 0, true, "", "", 0⟩, ⟨ "strength", 40, 5, false, "", "shoebox/array", 40⟩, ⟨ "numbers", 40, 7, false, "", "shoebox/array", 56⟩], 9, 72, true, [.int .i64 0, .int .i64 0, .int .i64 0, .int .i64 0, .int .i64 0, .int .i64 0, .int .i64 0, .int .i64 0, .int .i64 0]⟩),
   (57, ⟨.pointer 35, 1, 8, false, [.nilp]⟩),
   (58, ⟨.func #[3, 57] #[] false, 1, 8, false, [.any]⟩),
   (60, ⟨.func #[35] #[4] false, 1, 8, false, [.any]⟩),
   (62, ⟨.array 2 3, 2, 16, true, [.int .i64 0, .int .i64 0]⟩),
   (64, ⟨.int .u64, 1, 8, false, [.int .u64 0]⟩),
   (69, ⟨.struct #[⟨ "a", 26, 0, false, "", "shoebox/array", 0⟩, ⟨ "b", 26, 3, false, "", "shoebox/array", 24⟩], 6, 48, true, [.int .i64 0, .int .i64 0, .int .i64 0, .int .i64 0, .int .i64 0, .int .i64 0]⟩),
   (73, ⟨.struct #[⟨ "Rate", 3, 0, false, "", "", 0⟩, ⟨ "Speed", 3, 1, false, "", "", 8⟩], 2, 16, true, [.int .i64 0, .int .i64 0]⟩),
   (86, ⟨.slice 29, 1, 24, false, [.nils]⟩),
   (98, ⟨.int .u8, 1, 1, false, [.int .u8 0]⟩),
   (107, ⟨.array 2 40, 4, 32, true, [.int .i64 0, .int .i64 0, .int .i64 0, .int .i64 0]⟩)]
def eqs : List Nat := []

theorem tblOK : (tbl.map fun p => mkTI Try.prog p.1) = tbl.map fun p => some p.2 := by kernel_rfl
theorem tabOK : TabOK Try.prog (tget tbl) := tabOK_of tblOK
theorem eqsOK : (eqs.all fun t => !Try.prog.stoodInHeld t && !Try.prog.eqGuardType Try.prog.depth t) = true := by kernel_rfl
theorem eqOK : EqOK Try.prog (memN eqs) := eqOK_of eqsOK
end Go.Proofs.Ytmbgehpcjihfpaa
namespace Go.Proofs.Ytmbgehpcjihfpaa
open Go Go.Sx
abbrev I (n : Int) : AV := .int .i64 n
def pt0 : PC := fun _ _ => none
theorem pt0_ok : PCOK Try.prog pt0 := fun _ _ _ h => by cases h
theorem mixed : Try.prog.follows .mixedOrders = true := by kernel_rfl
noncomputable def bs : Base Try.prog := ⟨tget tbl, memN eqs, tabOK, eqOK, mixed⟩
def nos : FuncId → Bool := fun _ => false
theorem wpl_step {P : Program} {F : Fence} {n : Nat} {ops : Array Oper} {Q : Exit → Act → World → Prop} {o : Oper} {rest : List Oper} {a : Act} {w : World} (hg : o.guard = none) (h : o.wpIn F n P a w (wpListIn F n P ops Q rest) Q) : wpListIn F n P ops Q (o :: rest) a w := by
  unfold wpListIn
  rw [if_pos (by simp [Region.wanted, hg])]
  exact h

theorem c202 {x y : Nat} (h : FloatKind.f64.format.sqrt x = some y) : PCall Try.prog 44 [.flt .f64 x] ⟨.flt .f64 y, []⟩ := by
  refine pcall_of_sem (FnOK.of Try.func44 (by kernel_rfl) (by kernel_rfl)) rfl (body_awp bs.hT Try.func44 (c := _) rfl (Nat.le_of_ble_eq_true (by kernel_rfl)) ?_)
  refine awp_seq (bs.awp (sx := nos) pt0_ok ?_)
  refine awp_seq ?_
  intro F B w0 I0 pr r I D a w hF hR S
  refine wpIn_region_list ?_
  refine wpl_step rfl ?_
  refine vcOp_sound (cxP_ok (sx := nos) bs.hT bs.hok pt0_ok) hF _ (fun c e => by cases e) S (K := fun env σ => env = [(3, .flt .f64 x), (2, .flt .f64 0), (0, .flt .f64 x)] ∧ σ = ⟨[], 0⟩) ⟨rfl, rfl⟩ (fun a1 w1 hl => ?_)
  obtain ⟨env1, σ1, r1, I1, D1, ⟨rfl, rfl⟩, S1, hd1, st1⟩ := hl
  refine wpl_step rfl ?_
  refine op_ext hF _ S1 (K := fun env σ => env = [(4, .flt .f64 y), (3, .flt .f64 x), (2, .flt .f64 0), (0, .flt .f64 x)] ∧ σ = ⟨[], 0⟩) rfl rfl Try.func45 (by kernel_rfl) (by kernel_rfl) (by kernel_rfl) (e := Extern.MathSqrt.sqrt) (by kernel_rfl) (v := .flt .f64 y) (fun vs hv => ?_) ⟨rfl, rfl⟩ (fun a2 w2 hl => ?_)
  · have e0 : vs.size = 1 := hv.1
    have hx := hv.2 0 (.flt .f64 x) vs[0] rfl (by simp [e0])
    have e1 : vs = #[.float .f64 x] := by
      apply Array.ext
      · simpa using e0
      · intro i h1 h2
        have : i = 0 := by simp at h2; omega
        subst this
        generalize vs[0] = z at hx
        cases hx; rfl
    subst e1
    have e2 : Extern.MathSqrt.sqrt #[.float .f64 x] = (match FloatKind.f64.format.sqrt x with
      | some r => pure (.float .f64 r)
      | none => do pure (.float .f64 (← choose (.nanBits .f64 x x)))) := rfl
    exact ⟨.float .f64 y, by rw [e2, h]; rfl, .flt _ _ _⟩
  obtain ⟨env2, σ2, r2, I2, D2, ⟨rfl, rfl⟩, S2, hd2, st2⟩ := hl
  refine wpl_step rfl ?_
  refine vcOp_sound (cxP_ok (sx := nos) bs.hT bs.hok pt0_ok) hF _ (fun c e => by cases e) S2 (K := fun env σ => env = [(2, .flt .f64 y), (4, .flt .f64 y), (3, .flt .f64 x), (2, .flt .f64 0), (0, .flt .f64 x)] ∧ σ = ⟨[], 0⟩) ⟨rfl, rfl⟩ (fun a3 w3 hl => ?_)
  obtain ⟨env3, σ3, r3, I3, D3, ⟨rfl, rfl⟩, S3, hd3, st3⟩ := hl
  have st := (st1.trans st2).trans st3
  refine ⟨pr, [], _, _, r3, I3, D3, fun _ _ h => h, fun d hd => by simp at hd, .nil, by rw [hd3, hd2, hd1]; rfl, ?_, S3, st, st.size⟩
  refine awp_ret ?_
  exact Got.intro rfl (exports_of rfl rfl)

def ins (f0 : FuncId) (r : List AV → Option PRes) (pt : PC) : PC := fun f a => cond (Nat.beq f f0) (r a) (pt f a)
theorem ins_ok {f0 : FuncId} {r : List AV → Option PRes} {pt : PC} (h0 : ∀ a res, r a = some res → PCall Try.prog f0 a res) (h : PCOK Try.prog pt) : PCOK Try.prog (ins f0 r pt) := by
  intro f a res hr
  unfold ins at hr
  cases hb : Nat.beq f f0 with
  | true => rw [hb] at hr; rw [Nat.eq_of_beq_eq_true hb]; exact h0 a res hr
  | false => rw [hb] at hr; exact h f a res hr

abbrev Bo (b : Bool) : AV := .bool b
abbrev P2 (x y : Int) : AV := .agg [I x, I y]
abbrev P3 (x y z : Int) : AV := .agg [I x, I y, I z]
abbrev P4 (x y z d : Int) : AV := .agg [I x, I y, I z, I d]

def within (n lo hi : Int) : Bool := decide (lo ≤ n) && decide (n ≤ hi)
theorem c30 (n lo hi : Int) : PCall Try.prog 43 [I n, I lo, I hi] ⟨Bo (within n lo hi), []⟩ := by
  refine bs.pcall (sx := nos) pt0_ok Try.func43 (by kernel_rfl) (by kernel_rfl) rfl ?_
  refine Br.intro (fun h => ?_) (fun h => ?_)
  · exact exports_bool (by simp [within, h])
  · exact exports_bool (by simp [within, h])
theorem W_eq {n : Int} (h1 : -9223372036854775808 ≤ n) (h2 : n ≤ 9223372036854775807) : IntKind.i64.wrap n = n := IntWalk.i64_in _ ⟨h1, by omega⟩
theorem within_iff {n lo hi : Int} : within n lo hi = true ↔ lo ≤ n ∧ n ≤ hi := by simp [within]
theorem within_not {n lo hi : Int} : within n lo hi = false ↔ n < lo ∨ hi < n := by simp [within]; omega

/-- One contract alone. -/
noncomputable def one (a0 : List AV) (r : PRes) (a : List AV) : Option PRes := by
  classical exact if a = a0 then some r else none
theorem one_hit (a : List AV) (r : PRes) : one a r a = some r := by unfold one; simp
theorem one_ok {f0 : FuncId} {a0 : List AV} {r : PRes} {pt : PC} (h0 : PCall Try.prog f0 a0 r) (h : PCOK Try.prog pt) : PCOK Try.prog (ins f0 (one a0 r) pt) := by
  refine ins_ok (fun a res hr => ?_) h
  unfold one at hr
  split at hr
  · rename_i e; cases hr; rw [e]; exact h0
  · cases hr

noncomputable def fam (g : Nat → List AV) (r : Nat → PRes) (n : Nat) (a : List AV) : Option PRes := by
  classical exact if hx : ∃ k, k < n ∧ a = g k then some (r (Classical.choose hx)) else none
theorem fam_hit {g : Nat → List AV} {r : Nat → PRes} {n k : Nat} (hi : ∀ j, g j = g k → r j = r k) (hk : k < n) : fam g r n (g k) = some (r k) := by
  classical
  unfold fam
  have hx : ∃ j, j < n ∧ g k = g j := ⟨k, hk, rfl⟩
  rw [dif_pos hx, hi _ (Classical.choose_spec hx).2.symm]
theorem fam_ok {f0 : FuncId} {g : Nat → List AV} {r : Nat → PRes} {n : Nat} {pt : PC} (h0 : ∀ k, k < n → PCall Try.prog f0 (g k) (r k)) (h : PCOK Try.prog pt) : PCOK Try.prog (ins f0 (fam g r n) pt) := by
  classical
  refine ins_ok (fun a res hr => ?_) h
  unfold fam at hr
  split at hr
  · rename_i hx
    obtain ⟨h1, h2⟩ := Classical.choose_spec hx
    cases hr
    have := h0 _ h1
    rw [← h2] at this
    exact this
  · cases hr
noncomputable def famA {α : Type} (p : α → Prop) (g : α → List AV) (r : α → PRes) (a : List AV) : Option PRes := by
  classical exact if hx : ∃ k, p k ∧ a = g k then some (r (Classical.choose hx)) else none
theorem famA_hit {α : Type} {p : α → Prop} {g : α → List AV} {r : α → PRes} {k : α} (hi : ∀ j, g j = g k → r j = r k) (hk : p k) : famA p g r (g k) = some (r k) := by
  classical
  unfold famA
  have hx : ∃ j, p j ∧ g k = g j := ⟨k, hk, rfl⟩
  rw [dif_pos hx, hi _ (Classical.choose_spec hx).2.symm]
theorem famA_ok {f0 : FuncId} {α : Type} {p : α → Prop} {g : α → List AV} {r : α → PRes} {pt : PC} (h0 : ∀ k, p k → PCall Try.prog f0 (g k) (r k)) (h : PCOK Try.prog pt) : PCOK Try.prog (ins f0 (famA p g r) pt) := by
  classical
  refine ins_ok (fun a res hr => ?_) h
  unfold famA at hr
  split at hr
  · rename_i hx
    obtain ⟨h1, h2⟩ := Classical.choose_spec hx
    cases hr
    have := h0 _ h1
    rw [← h2] at this
    exact this
  · cases hr
/-- A list of numbers, as it lies. -/
def nl (ns : List Int) : List (List AV) := ns.map fun n => [I n]
theorem nl_length (ns : List Int) : (nl ns).length = ns.length := by simp [nl]
theorem nl_get {ns : List Int} {k : Nat} (h : k < ns.length) : (nl ns)[((k : Nat) : Int).toNat]? = some [I ns[k]] := by simp [nl, h]
theorem W_succ {k : Nat} (h : k < 9000000000) : IntKind.i64.wrap ((k : Int) + 1) = ((k + 1 : Nat) : Int) := W_eq (by omega) (by omega)

/-- A list that grows: its name, and how it lies. -/
def gv (n0 : Nat) (k len : Nat) : AV := match k with
  | 0 => .nils
  | _ => .asl n0 0 len
def gz (n0 es : Nat) (k : Nat) (els : List (List AV)) (z : List (Nat × ABlk)) : List (Nat × ABlk) := match k with
  | 0 => z
  | _ => (n0, .row es els true true) :: z
def nm2 (a b : Nat) (k : Nat) : Nat := match k with
  | 0 => a
  | _ => b
end Go.Proofs.Ytmbgehpcjihfpaa
