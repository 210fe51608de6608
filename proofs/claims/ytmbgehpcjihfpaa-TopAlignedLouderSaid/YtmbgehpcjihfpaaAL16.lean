/- A part of the proof: lemmas. -/
import Derived.Test.YtmbgehpcjihfpaaAL15
set_option linter.unusedVariables false
set_option linter.unusedSimpArgs false
namespace Go.Proofs.Ytmbgehpcjihfpaa
open Go Go.Sx
/-! ### Equal bit by bit -/
theorem wpl_step_g {P : Program} {F : Fence} {n N B : Nat} {ops : List Oper} {Q : Exit → Act → World → Prop} {o : Oper} {rest : List Oper} {a : Act} {w w0 : World} {I0 I : Imm} {pr : Nat → Obj → Prop} {r : Locs} {D : Nat → Prop} {env : Env} {σ : St} {j t : Nat} {want : Bool}
    (S : SR B w0 I0 pr N r I D env σ a w) (hg : o.guard = some (j, want)) (hj : guardTmp ops j = some t) (hb : env.get t = .bool want) (h : o.wpIn F n P a w (wpListIn F n P ops.toArray Q rest) Q) : wpListIn F n P ops.toArray Q (o :: rest) a w := by
  have htv := S.er.2 t
  rw [hb] at htv
  have hval : a.tmps.getD t undef = .bool want := by
    generalize a.tmps.getD t undef = z at htv
    cases htv; rfl
  have hts : t < a.tmps.size := by
    rcases Nat.lt_or_ge t a.tmps.size with h | h
    · exact h
    · rw [Array.getD_eq_getD_getElem?, Array.getElem?_eq_none h] at hval
      cases hval
  unfold wpListIn
  have hwant : Region.wanted o (yielded ops.toArray a.tmps) = (yielded ops.toArray a.tmps j == some want) := by simp [Region.wanted, hg]
  rw [hwant, yielded_of hj a hts, hval]
  dsimp only
  rw [if_pos (by simp)]
  exact h
theorem ext20 {r : Locs} {I : Imm} {w : World} {D : Nat → Prop} {x : Nat} {vs : Array Value} (hv : VRs r I w D [.flt .f64 x] vs) : ∃ u, (Extern.MathFloatBits.float64bits vs).run Try.prog w = .ok u w ∧ VR r I w D (.int .u64 x) u := by
  have e0 : vs.size = 1 := hv.1
  have hx := hv.2 0 (.flt .f64 x) vs[0] rfl (by simp [e0])
  have e1 : vs = #[.float .f64 x] := by
    apply Array.ext
    · simpa using e0
    · intro i h1 h2
      have : i = 0 := by simp at h2; omega
      subst this
      generalize vs[0] = z at hx
      cases hx; rfl
  subst e1
  exact ⟨.int .u64 x, rfl, .int _ _ _⟩
set_option maxRecDepth 100000 in
set_option maxHeartbeats 8000000 in
theorem e12 (x y : Nat) : PCall Try.prog 12 [.cpx .f64 x y, .cpx .f64 x y] ⟨Bo true, []⟩ := by
  refine pcall_of_sem (FnOK.of Try.func12 (by kernel_rfl) (by kernel_rfl)) rfl (body_awp bs.hT Try.func12 (c := _) rfl (Nat.le_of_ble_eq_true (by kernel_rfl)) ?_)
  refine awp_seq (bs.awp (sx := nos) pt0_ok ?_)
  refine awp_seq ?_
  intro F B w0 I0 pr r I D a w hF hR S
  refine wpIn_region_list ?_
  refine wpl_step rfl ?_
  refine vcOp_sound (cxP_ok (sx := nos) bs.hT bs.hok pt0_ok) hF _ (fun c e => by cases e) S (K := fun env σ => env = (5, .cpx .f64 x y) :: (4, .bool false) :: env0 0 [.cpx .f64 x y, .cpx .f64 x y] ∧ σ = ⟨[], 0⟩) ⟨rfl, rfl⟩ (fun a1 w1 hl => ?_)
  obtain ⟨env1, σ1, r1, I1, D1, ⟨rfl, rfl⟩, S1, hd1, st1⟩ := hl
  refine wpl_step rfl ?_
  refine vcOp_sound (cxP_ok (sx := nos) bs.hT bs.hok pt0_ok) hF _ (fun c e => by cases e) S1 (K := fun env σ => env = (6, .flt .f64 x) :: (5, .cpx .f64 x y) :: (4, .bool false) :: env0 0 [.cpx .f64 x y, .cpx .f64 x y] ∧ σ = ⟨[], 0⟩) ⟨rfl, rfl⟩ (fun a2 w2 hl => ?_)
  obtain ⟨env2, σ2, r2, I2, D2, ⟨rfl, rfl⟩, S2, hd2, st2⟩ := hl
  refine wpl_step rfl ?_
  refine op_ext hF _ S2 (K := fun env σ => env = (7, .int .u64 x) :: (6, .flt .f64 x) :: (5, .cpx .f64 x y) :: (4, .bool false) :: env0 0 [.cpx .f64 x y, .cpx .f64 x y] ∧ σ = ⟨[], 0⟩) rfl rfl Try.func20 (by kernel_rfl) (by kernel_rfl) (by kernel_rfl) (e := Extern.MathFloatBits.float64bits) (by kernel_rfl) (v := .int .u64 x) (fun vs hv => ext20 hv) ⟨rfl, rfl⟩ (fun a3 w3 hl => ?_)
  obtain ⟨env3, σ3, r3, I3, D3, ⟨rfl, rfl⟩, S3, hd3, st3⟩ := hl
  refine wpl_step rfl ?_
  refine vcOp_sound (cxP_ok (sx := nos) bs.hT bs.hok pt0_ok) hF _ (fun c e => by cases e) S3 (K := fun env σ => env = (8, .cpx .f64 x y) :: (7, .int .u64 x) :: (6, .flt .f64 x) :: (5, .cpx .f64 x y) :: (4, .bool false) :: env0 0 [.cpx .f64 x y, .cpx .f64 x y] ∧ σ = ⟨[], 0⟩) ⟨rfl, rfl⟩ (fun a4 w4 hl => ?_)
  obtain ⟨env4, σ4, r4, I4, D4, ⟨rfl, rfl⟩, S4, hd4, st4⟩ := hl
  refine wpl_step rfl ?_
  refine vcOp_sound (cxP_ok (sx := nos) bs.hT bs.hok pt0_ok) hF _ (fun c e => by cases e) S4 (K := fun env σ => env = (9, .flt .f64 x) :: (8, .cpx .f64 x y) :: (7, .int .u64 x) :: (6, .flt .f64 x) :: (5, .cpx .f64 x y) :: (4, .bool false) :: env0 0 [.cpx .f64 x y, .cpx .f64 x y] ∧ σ = ⟨[], 0⟩) ⟨rfl, rfl⟩ (fun a5 w5 hl => ?_)
  obtain ⟨env5, σ5, r5, I5, D5, ⟨rfl, rfl⟩, S5, hd5, st5⟩ := hl
  refine wpl_step rfl ?_
  refine op_ext hF _ S5 (K := fun env σ => env = (10, .int .u64 x) :: (9, .flt .f64 x) :: (8, .cpx .f64 x y) :: (7, .int .u64 x) :: (6, .flt .f64 x) :: (5, .cpx .f64 x y) :: (4, .bool false) :: env0 0 [.cpx .f64 x y, .cpx .f64 x y] ∧ σ = ⟨[], 0⟩) rfl rfl Try.func20 (by kernel_rfl) (by kernel_rfl) (by kernel_rfl) (e := Extern.MathFloatBits.float64bits) (by kernel_rfl) (v := .int .u64 x) (fun vs hv => ext20 hv) ⟨rfl, rfl⟩ (fun a6 w6 hl => ?_)
  obtain ⟨env6, σ6, r6, I6, D6, ⟨rfl, rfl⟩, S6, hd6, st6⟩ := hl
  refine wpl_step rfl ?_
  refine vcOp_sound (cxP_ok (sx := nos) bs.hT bs.hok pt0_ok) hF _ (fun c e => by cases e) S6 (K := fun env σ => ∃ b, b = true ∧ env = (11, .bool b) :: (10, .int .u64 x) :: (9, .flt .f64 x) :: (8, .cpx .f64 x y) :: (7, .int .u64 x) :: (6, .flt .f64 x) :: (5, .cpx .f64 x y) :: (4, .bool false) :: env0 0 [.cpx .f64 x y, .cpx .f64 x y] ∧ σ = ⟨[], 0⟩) ⟨_, by simp, rfl, rfl⟩ (fun a7 w7 hl => ?_)
  obtain ⟨env7, σ7, r7, I7, D7, ⟨b7, rfl, rfl, rfl⟩, S7, hd7, st7⟩ := hl
  refine wpl_step rfl ?_
  refine vcOp_sound (cxP_ok (sx := nos) bs.hT bs.hok pt0_ok) hF _ (fun c e => by cases e) S7 (K := fun env σ => env = (12, .bool true) :: (11, .bool true) :: (10, .int .u64 x) :: (9, .flt .f64 x) :: (8, .cpx .f64 x y) :: (7, .int .u64 x) :: (6, .flt .f64 x) :: (5, .cpx .f64 x y) :: (4, .bool false) :: env0 0 [.cpx .f64 x y, .cpx .f64 x y] ∧ σ = ⟨[], 0⟩) ⟨rfl, rfl⟩ (fun a8 w8 hl => ?_)
  obtain ⟨env8, σ8, r8, I8, D8, ⟨rfl, rfl⟩, S8, hd8, st8⟩ := hl
  refine wpl_step_g S8 rfl rfl rfl ?_
  refine vcOp_sound (cxP_ok (sx := nos) bs.hT bs.hok pt0_ok) hF _ (fun c e => by cases e) S8 (K := fun env σ => env = (13, .cpx .f64 x y) :: (12, .bool true) :: (11, .bool true) :: (10, .int .u64 x) :: (9, .flt .f64 x) :: (8, .cpx .f64 x y) :: (7, .int .u64 x) :: (6, .flt .f64 x) :: (5, .cpx .f64 x y) :: (4, .bool false) :: env0 0 [.cpx .f64 x y, .cpx .f64 x y] ∧ σ = ⟨[], 0⟩) ⟨rfl, rfl⟩ (fun a9 w9 hl => ?_)
  obtain ⟨env9, σ9, r9, I9, D9, ⟨rfl, rfl⟩, S9, hd9, st9⟩ := hl
  refine wpl_step_g S9 rfl rfl rfl ?_
  refine vcOp_sound (cxP_ok (sx := nos) bs.hT bs.hok pt0_ok) hF _ (fun c e => by cases e) S9 (K := fun env σ => env = (14, .flt .f64 y) :: (13, .cpx .f64 x y) :: (12, .bool true) :: (11, .bool true) :: (10, .int .u64 x) :: (9, .flt .f64 x) :: (8, .cpx .f64 x y) :: (7, .int .u64 x) :: (6, .flt .f64 x) :: (5, .cpx .f64 x y) :: (4, .bool false) :: env0 0 [.cpx .f64 x y, .cpx .f64 x y] ∧ σ = ⟨[], 0⟩) ⟨rfl, rfl⟩ (fun a10 w10 hl => ?_)
  obtain ⟨env10, σ10, r10, I10, D10, ⟨rfl, rfl⟩, S10, hd10, st10⟩ := hl
  refine wpl_step_g S10 rfl rfl rfl ?_
  refine op_ext hF _ S10 (K := fun env σ => env = (15, .int .u64 y) :: (14, .flt .f64 y) :: (13, .cpx .f64 x y) :: (12, .bool true) :: (11, .bool true) :: (10, .int .u64 x) :: (9, .flt .f64 x) :: (8, .cpx .f64 x y) :: (7, .int .u64 x) :: (6, .flt .f64 x) :: (5, .cpx .f64 x y) :: (4, .bool false) :: env0 0 [.cpx .f64 x y, .cpx .f64 x y] ∧ σ = ⟨[], 0⟩) rfl rfl Try.func20 (by kernel_rfl) (by kernel_rfl) (by kernel_rfl) (e := Extern.MathFloatBits.float64bits) (by kernel_rfl) (v := .int .u64 y) (fun vs hv => ext20 hv) ⟨rfl, rfl⟩ (fun a11 w11 hl => ?_)
  obtain ⟨env11, σ11, r11, I11, D11, ⟨rfl, rfl⟩, S11, hd11, st11⟩ := hl
  refine wpl_step_g S11 rfl rfl rfl ?_
  refine vcOp_sound (cxP_ok (sx := nos) bs.hT bs.hok pt0_ok) hF _ (fun c e => by cases e) S11 (K := fun env σ => env = (16, .cpx .f64 x y) :: (15, .int .u64 y) :: (14, .flt .f64 y) :: (13, .cpx .f64 x y) :: (12, .bool true) :: (11, .bool true) :: (10, .int .u64 x) :: (9, .flt .f64 x) :: (8, .cpx .f64 x y) :: (7, .int .u64 x) :: (6, .flt .f64 x) :: (5, .cpx .f64 x y) :: (4, .bool false) :: env0 0 [.cpx .f64 x y, .cpx .f64 x y] ∧ σ = ⟨[], 0⟩) ⟨rfl, rfl⟩ (fun a12 w12 hl => ?_)
  obtain ⟨env12, σ12, r12, I12, D12, ⟨rfl, rfl⟩, S12, hd12, st12⟩ := hl
  refine wpl_step_g S12 rfl rfl rfl ?_
  refine vcOp_sound (cxP_ok (sx := nos) bs.hT bs.hok pt0_ok) hF _ (fun c e => by cases e) S12 (K := fun env σ => env = (17, .flt .f64 y) :: (16, .cpx .f64 x y) :: (15, .int .u64 y) :: (14, .flt .f64 y) :: (13, .cpx .f64 x y) :: (12, .bool true) :: (11, .bool true) :: (10, .int .u64 x) :: (9, .flt .f64 x) :: (8, .cpx .f64 x y) :: (7, .int .u64 x) :: (6, .flt .f64 x) :: (5, .cpx .f64 x y) :: (4, .bool false) :: env0 0 [.cpx .f64 x y, .cpx .f64 x y] ∧ σ = ⟨[], 0⟩) ⟨rfl, rfl⟩ (fun a13 w13 hl => ?_)
  obtain ⟨env13, σ13, r13, I13, D13, ⟨rfl, rfl⟩, S13, hd13, st13⟩ := hl
  refine wpl_step_g S13 rfl rfl rfl ?_
  refine op_ext hF _ S13 (K := fun env σ => env = (18, .int .u64 y) :: (17, .flt .f64 y) :: (16, .cpx .f64 x y) :: (15, .int .u64 y) :: (14, .flt .f64 y) :: (13, .cpx .f64 x y) :: (12, .bool true) :: (11, .bool true) :: (10, .int .u64 x) :: (9, .flt .f64 x) :: (8, .cpx .f64 x y) :: (7, .int .u64 x) :: (6, .flt .f64 x) :: (5, .cpx .f64 x y) :: (4, .bool false) :: env0 0 [.cpx .f64 x y, .cpx .f64 x y] ∧ σ = ⟨[], 0⟩) rfl rfl Try.func20 (by kernel_rfl) (by kernel_rfl) (by kernel_rfl) (e := Extern.MathFloatBits.float64bits) (by kernel_rfl) (v := .int .u64 y) (fun vs hv => ext20 hv) ⟨rfl, rfl⟩ (fun a14 w14 hl => ?_)
  obtain ⟨env14, σ14, r14, I14, D14, ⟨rfl, rfl⟩, S14, hd14, st14⟩ := hl
  refine wpl_step_g S14 rfl rfl rfl ?_
  refine vcOp_sound (cxP_ok (sx := nos) bs.hT bs.hok pt0_ok) hF _ (fun c e => by cases e) S14 (K := fun env σ => ∃ b, b = true ∧ env = (19, .bool b) :: (18, .int .u64 y) :: (17, .flt .f64 y) :: (16, .cpx .f64 x y) :: (15, .int .u64 y) :: (14, .flt .f64 y) :: (13, .cpx .f64 x y) :: (12, .bool true) :: (11, .bool true) :: (10, .int .u64 x) :: (9, .flt .f64 x) :: (8, .cpx .f64 x y) :: (7, .int .u64 x) :: (6, .flt .f64 x) :: (5, .cpx .f64 x y) :: (4, .bool false) :: env0 0 [.cpx .f64 x y, .cpx .f64 x y] ∧ σ = ⟨[], 0⟩) ⟨_, by simp, rfl, rfl⟩ (fun a15 w15 hl => ?_)
  obtain ⟨env15, σ15, r15, I15, D15, ⟨b15, rfl, rfl, rfl⟩, S15, hd15, st15⟩ := hl
  refine wpl_step rfl ?_
  refine vcOp_sound (cxP_ok (sx := nos) bs.hT bs.hok pt0_ok) hF _ (fun c e => by cases e) S15 (K := fun env σ => env = (20, .bool true) :: (19, .bool true) :: (18, .int .u64 y) :: (17, .flt .f64 y) :: (16, .cpx .f64 x y) :: (15, .int .u64 y) :: (14, .flt .f64 y) :: (13, .cpx .f64 x y) :: (12, .bool true) :: (11, .bool true) :: (10, .int .u64 x) :: (9, .flt .f64 x) :: (8, .cpx .f64 x y) :: (7, .int .u64 x) :: (6, .flt .f64 x) :: (5, .cpx .f64 x y) :: (4, .bool false) :: env0 0 [.cpx .f64 x y, .cpx .f64 x y] ∧ σ = ⟨[], 0⟩) ⟨rfl, rfl⟩ (fun a16 w16 hl => ?_)
  obtain ⟨env16, σ16, r16, I16, D16, ⟨rfl, rfl⟩, S16, hd16, st16⟩ := hl
  refine wpl_step rfl ?_
  refine vcOp_sound (cxP_ok (sx := nos) bs.hT bs.hok pt0_ok) hF _ (fun c e => by cases e) S16 (K := fun env σ => env = (4, .bool true) :: (20, .bool true) :: (19, .bool true) :: (18, .int .u64 y) :: (17, .flt .f64 y) :: (16, .cpx .f64 x y) :: (15, .int .u64 y) :: (14, .flt .f64 y) :: (13, .cpx .f64 x y) :: (12, .bool true) :: (11, .bool true) :: (10, .int .u64 x) :: (9, .flt .f64 x) :: (8, .cpx .f64 x y) :: (7, .int .u64 x) :: (6, .flt .f64 x) :: (5, .cpx .f64 x y) :: (4, .bool false) :: env0 0 [.cpx .f64 x y, .cpx .f64 x y] ∧ σ = ⟨[], 0⟩) ⟨rfl, rfl⟩ (fun a17 w17 hl => ?_)
  obtain ⟨env17, σ17, r17, I17, D17, ⟨rfl, rfl⟩, S17, hd17, st17⟩ := hl
  have st := ((((((((((((((((st1.trans st2).trans st3).trans st4).trans st5).trans st6).trans st7).trans st8).trans st9).trans st10).trans st11).trans st12).trans st13).trans st14).trans st15).trans st16).trans st17)
  refine ⟨pr, [], _, _, r17, I17, D17, fun _ _ h => h, fun d hd => by simp at hd, .nil, by rw [hd17, hd16, hd15, hd14, hd13, hd12, hd11, hd10, hd9, hd8, hd7, hd6, hd5, hd4, hd3, hd2, hd1]; rfl, ?_, S17, st, st.size⟩
  refine awp_ret ?_
  exact Got.intro rfl (exports_of rfl rfl)
end Go.Proofs.Ytmbgehpcjihfpaa
