/- A part of the proof: lemmas. -/
import Derived.Test.YtdaliaafmcjikaaGreatZx6
set_option linter.unusedVariables false
set_option linter.unusedSimpArgs false
namespace Go.Sx
open Go Go.RowKit
variable {P : Program} {N : Nat}
/-- A function value whose box stays. -/
theorem PCall.frzFn {f : FuncId} {args : List AV} {g : FuncId} {es : Nat} {cells : List AV} (h : PCall P f args ⟨.func g [] [.ptr 0 0 0], [(es, [cells])]⟩) : PCall P f args ⟨.func g [] [.ipt cells], []⟩ := by
  refine ⟨h.1, fun I w vs hI hv => (h.2 I w vs hI hv).mono fun e w' hh => ?_⟩
  obtain ⟨x, r', I', rfl, hp⟩ := hh
  obtain ⟨hb1, hb2, ⟨he1, he2⟩, hcap, hlen, cs, T, fz, hcells, hsz, hel, hmt, _⟩ := hp.rows 0 (es, [cells]) rfl
  dsimp only at he1 he2 hcap hlen hsz hel
  have hval := hp.val
  cases hval with
  | func _ _ _ _ v0 v1 h0 h1 g0 g1 =>
    let I2 : Imm := fun b o => I' b o ∨ (b = (r' 0).blk ∧ ∃ (j : Nat) (c : AV), cells[j]? = some c ∧ o = (r' 0).off + j)
    have himm : ∀ b o, I' b o → I2 b o := fun b o h => .inl h
    refine ⟨_, r', I2, rfl, hp.below, fun b o h => .inl (hp.immL b o h), fun b o h => ?_, fun b o h => ?_, fun j p hj => by simp at hj, fun j j' h1 => by simp at h1, ?_⟩
    · rcases h with h | ⟨rfl, _⟩
      · exact hp.immN b o h
      · exact .inr hb1
    · rcases h with h | ⟨rfl, _⟩
      · exact hp.immS b o h
      · exact hb2
    · refine .func _ _ _ _ _ _ h0 h1 (fun i c v hc _ => by simp at hc) (fun i c v hc hx => ?_)
      cases i with
      | succ i => simp at hc
      | zero =>
        simp at hc
        subst hc
        have hv1 := g1 0 (.ptr 0 0 0) v rfl hx
        cases hv1 with
        | ptr _ _ _ _ hd =>
          have e : (r' 0).off + 0 * (r' 0).es + 0 = (r' 0).off := by simp
          rw [e]
          have hcell : ∀ (j : Nat) (c : AV), cells[j]? = some c → ∃ v, w'.cell? ⟨(r' 0).blk, (r' 0).off + j, none⟩ = some v ∧ VR r' I2 w' (fun _ => False) c v := by
            intro j c hj
            obtain ⟨v, hv1, hv2⟩ := hel 0 cells j c rfl hj
            refine ⟨v, ?_, hv2.mono ⟨fun _ h => h.2.elim, fun b o h => ⟨himm b o h, rfl⟩, Nat.le_refl _⟩⟩
            simp only [Nat.zero_mul, Nat.add_zero] at hv1
            simp [World.cell?, hcells, hv1]
          refine .ipt _ _ _ _ (fun j => (w'.cell? ⟨(r' 0).blk, (r' 0).off + j, none⟩).getD undef) (fun j c hj => ?_) (fun j c hj => ?_)
          · obtain ⟨v, hv1, _⟩ := hcell j c hj
            exact ⟨.inr ⟨rfl, j, c, hj, rfl⟩, by rw [hv1]; rfl⟩
          · obtain ⟨v, hv1, hv2⟩ := hcell j c hj
            rw [hv1]
            exact hv2
/-- Rounds over a list; how many names there are goes with the state. -/
theorem roundsW {S : Type} (Z : S → List (Nat × ABlk)) (n0 : Nat) (n1 : S → Nat) (G : List (List AV) → S → Prop) {ps : List Tmp} {a b : Code} {env : Env} {Q : Exit → Env → St → Prop}
    (step : ∀ x xs s, G (x :: xs) s → x.length = ps.length ∧ Awp P N a (putAll ps x env) ⟨Z s, n1 s⟩ fun e env1 σ1 => e = .normal ∧ Bd P N b env1 σ1 fun e _ σ2 => match e with
      | .normal => Done (∃ s' fl, (okF n0 fl && keysF n0 fl (Z s') && imgF n0 fl && Nat.ble n0 (n1 s')) = true ∧ RenH (fOf fl) (n1 s') σ2.get (Z s') ∧ G xs s')
      | .ret => Q .ret env σ2
      | .exit id => Q (.exit id) env σ2
      | _ => False)
    (fin : ∀ s, G [] s → Q .normal env ⟨Z s, n1 s⟩) : ∀ (xs : List (List AV)) (s : S), G xs s → Rounds P N n0 ps a b env Q xs ⟨Z s, n1 s⟩
  | [], s, g => fin s g
  | x :: xs, s, g => by
    obtain ⟨h1, h2⟩ := step x xs s g
    refine ⟨h1, h2.mono fun e env1 σ1 h => ⟨h.1, h.2.1.mono fun e2 env2 σ2 h => ?_⟩⟩
    cases e2 with
    | normal =>
      obtain ⟨s', fl, k1, k2, g'⟩ := h.1
      exact ⟨⟨Z s', n1 s'⟩, .inr (Ren.of (env' := []) fl k1 trivial k2), roundsW Z n0 n1 G step fin xs s' g'⟩
    | exit id => exact h
    | goto l => exact h
    | ret => exact h
    | panic ch => exact h
    | outgrown => exact h
/-! ### An append by lengths where the order is drawn -/
theorem sliceEls_row {h : Nat → ABlk} {id len es : Nat} {elems : List (List AV)} {mt pu : Bool} (hb : h id = .row es elems mt pu) (hl : len = elems.length) : sliceEls es h (.asl id 0 len) = some (elems, pu) := by
  unfold sliceEls
  dsimp only
  rw [hb]
  dsimp only
  rw [Nat.beq_refl, List.drop_zero, hl, List.take_length]
  rfl
theorem aop_app {T : Tab} {ok : TypeId → Bool} {k : Nat} {ev : Operand → AV} {h : Nat → ABlk} {x y : Operand} {t tx e e' : TypeId} {ti tj te : TI} {id len : Nat} {elems ys : List (List AV)} {pu py : Bool} {K : AV × Eff → Prop}
    (h1 : T t = some ti) (h2 : T tx = some tj) (h3 : ti.desc = .slice e) (h4 : tj.desc = .slice e') (h5 : T e = some te) (hx : ev x = .asl id 0 len) (hb : h id = .row te.size elems true pu)
    (hy : sliceEls te.size h (ev y) = some (ys, py)) (hbt : Nat.ble (1000000 * te.bytes) 140737488355328 = true) (ho : oneEls ys = true) (hne : ys ≠ []) (hl : len = elems.length) (hbd : elems.length + ys.length ≤ 1000000)
    (hk : K (.asl k 0 (elems.length + ys.length), .app id (.row te.size (elems ++ ys) true (pu && py)))) : Got (aop T ok k ev h (.call { callee := .builtin .append, args := #[x, y], argTypes := #[t, tx] })) K := by
  have ha : aopA T ok k ev h (.call { callee := .builtin .append, args := #[x, y], argTypes := #[t, tx] }) = none := rfl
  have hbb : aopB T k ev h (.call { callee := .builtin .append, args := #[x, y], argTypes := #[t, tx] }) = appAV k h te (ev x) (ev y) := by
    unfold aopB
    dsimp only
    rw [h1, h2]
    dsimp only
    rw [h3, h4]
    dsimp only
    rw [h5]
  refine Got.intro (x := (.asl k 0 (elems.length + ys.length), .app id (.row te.size (elems ++ ys) true (pu && py)))) ?_ hk
  unfold aop
  rw [ha]
  dsimp only
  rw [hbb, hx]
  unfold appAV
  rw [hy]
  cases ys with
  | nil => exact absurd rfl hne
  | cons y0 ys =>
    dsimp only
    rw [sliceEls_row hb hl]
    dsimp only
    have b1 : Nat.ble (elems.length + (y0 :: ys).length) 1000000000000 = true := Nat.ble_eq_true_of_le (Nat.le_trans hbd (by decide))
    have b2 : Nat.ble ((elems.length + (y0 :: ys).length) * te.bytes) 140737488355328 = true := Nat.ble_eq_true_of_le (Nat.le_trans (Nat.mul_le_mul_right _ hbd) (Nat.le_of_ble_eq_true hbt))
    have b3 : Nat.beq (0 + len) elems.length = true := by rw [hl, Nat.zero_add]; exact Nat.beq_refl _
    rw [b1, b2, hb]
    dsimp only
    rw [b3, ho]
    rfl
end Go.Sx
