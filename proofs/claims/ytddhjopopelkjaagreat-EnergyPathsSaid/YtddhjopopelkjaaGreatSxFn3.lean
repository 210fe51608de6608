/- A part of the proof: lemmas. -/
import Derived.Test.YtddhjopopelkjaaGreatSxFn2
set_option linter.unusedVariables false
set_option linter.unusedSimpArgs false
namespace Go.Sx
open Go Go.RowKit
/-- The same for what is left of a row. -/
theorem aop_appD {T : Tab} {ok : TypeId → Bool} {k : Nat} {ev : Operand → AV} {h : Nat → ABlk} {x y : Operand} {t tx e e' : TypeId} {ti tj te : TI} {id idx len : Nat} {elems xs ys : List (List AV)} {pu py : Bool} {K : AV × Eff → Prop}
    (h1 : T t = some ti) (h2 : T tx = some tj) (h3 : ti.desc = .slice e) (h4 : tj.desc = .slice e') (h5 : T e = some te) (hx : ev x = .asl id idx len) (hb : h id = .row te.size elems true pu)
    (hy : sliceEls te.size h (ev y) = some (ys, py)) (hbt : Nat.ble (1000000 * te.bytes) 140737488355328 = true) (ho : oneEls ys = true) (hne : ys ≠ []) (hxs : elems.drop idx = xs) (hix : idx ≤ elems.length) (hl : len = xs.length) (hbd : xs.length + ys.length ≤ 1000000)
    (hk : K (.asl k 0 (xs.length + ys.length), .app id (.row te.size (xs ++ ys) true (pu && py)))) : Got (aop T ok k ev h (.call { callee := .builtin .append, args := #[x, y], argTypes := #[t, tx] })) K := by
  have ha : aopA T ok k ev h (.call { callee := .builtin .append, args := #[x, y], argTypes := #[t, tx] }) = none := rfl
  have hbb : aopB T k ev h (.call { callee := .builtin .append, args := #[x, y], argTypes := #[t, tx] }) = appAV k h te (ev x) (ev y) := by
    unfold aopB
    dsimp only
    rw [h1, h2]
    dsimp only
    rw [h3, h4]
    dsimp only
    rw [h5]
  have hse : sliceEls te.size h (.asl id idx len) = some (xs, pu) := by
    unfold sliceEls
    dsimp only
    rw [hb]
    dsimp only
    rw [Nat.beq_refl, hxs, hl, List.take_length]
    rfl
  refine Got.intro (x := (.asl k 0 (xs.length + ys.length), .app id (.row te.size (xs ++ ys) true (pu && py)))) ?_ hk
  unfold aop
  rw [ha]
  dsimp only
  rw [hbb, hx]
  unfold appAV
  rw [hy]
  cases ys with
  | nil => exact absurd rfl hne
  | cons y0 ys =>
    dsimp only
    rw [hse]
    dsimp only
    have b1 : Nat.ble (xs.length + (y0 :: ys).length) 1000000000000 = true := Nat.ble_eq_true_of_le (Nat.le_trans hbd (by decide))
    have b2 : Nat.ble ((xs.length + (y0 :: ys).length) * te.bytes) 140737488355328 = true := Nat.ble_eq_true_of_le (Nat.le_trans (Nat.mul_le_mul_right _ hbd) (Nat.le_of_ble_eq_true hbt))
    have hel : elems.length = idx + xs.length := by rw [← hxs, List.length_drop]; omega
    have b3 : Nat.beq (idx + len) elems.length = true := by rw [hl, hel]; exact Nat.beq_refl _
    rw [b1, b2, hb]
    dsimp only
    rw [b3, ho]
    rfl
theorem aop_slice {T : Tab} {ok : TypeId → Bool} {k : Nat} {ev : Operand → AV} {h : Nat → ABlk} {x lo : Operand} {t e : TypeId} {ti te : TI} {id len ll : Nat} {elems : List (List AV)} {mt pu : Bool} {K : AV × Eff → Prop}
    (h1 : T t = some ti) (h3 : ti.desc = .slice e) (h5 : T e = some te) (hx : ev x = .asl id 0 len) (hb : h id = .row te.size elems mt pu) (hlo : bndAV (some (ev lo)) 0 = some ll) (hl : ll < len)
    (hk : K (.asl id (0 + ll) (len - ll), .none)) : Got (aop T ok k ev h (.slice t x (some lo) none none)) K := by
  have ha : aopA T ok k ev h (.slice t x (some lo) none none) = none := rfl
  have hs : sliceAV T h t (ev x) (some (ev lo)) none = some (.asl id (0 + ll) (len - ll)) := by
    unfold sliceAV
    rw [h1]
    dsimp only
    rw [h3]
    dsimp only
    rw [h5]
    dsimp only
    rw [hx]
    dsimp only
    rw [hb]
    dsimp only
    rw [hlo]
    show cond _ _ _ = _
    have b1 : Nat.ble ll len = true := Nat.ble_eq_true_of_le (by omega)
    have b2 : Nat.ble len len = true := Nat.ble_eq_true_of_le (Nat.le_refl _)
    have b3 : Nat.blt ll len = true := by rw [Nat.blt_eq]; exact hl
    rw [Nat.beq_refl, b1, b2, b3, Bool.or_true]
    rfl
  refine Got.intro (x := (.asl id (0 + ll) (len - ll), .none)) ?_ hk
  unfold aop
  rw [ha]
  dsimp only
  show ret (sliceAV T h t (ev x) (some (ev lo)) none) = _
  rw [hs]
  rfl
theorem aop_sliceI {T : Tab} {ok : TypeId → Bool} {k : Nat} {ev : Operand → AV} {h : Nat → ABlk} {x lo : Operand} {t e : TypeId} {ti te : TI} {ll : Nat} {elems : List (List AV)} {K : AV × Eff → Prop}
    (h1 : T t = some ti) (h3 : ti.desc = .slice e) (h5 : T e = some te) (hx : ev x = .isl te.size elems) (hlo : bndAV (some (ev lo)) 0 = some ll) (hl : ll < elems.length)
    (hk : K (.isl te.size (elems.drop ll), .none)) : Got (aop T ok k ev h (.slice t x (some lo) none none)) K := by
  have ha : aopA T ok k ev h (.slice t x (some lo) none none) = none := rfl
  have hs : sliceAV T h t (ev x) (some (ev lo)) none = some (.isl te.size (elems.drop ll)) := by
    unfold sliceAV
    rw [h1]
    dsimp only
    rw [h3]
    dsimp only
    rw [h5]
    dsimp only
    rw [hx]
    dsimp only
    rw [hlo]
    show cond _ _ _ = _
    have b3 : Nat.blt ll elems.length = true := by rw [Nat.blt_eq]; exact hl
    rw [Nat.beq_refl, b3]
    rfl
  refine Got.intro (x := (.isl te.size (elems.drop ll), .none)) ?_ hk
  unfold aop
  rw [ha]
  dsimp only
  show ret (sliceAV T h t (ev x) (some (ev lo)) none) = _
  rw [hs]
  rfl
end Go.Sx
