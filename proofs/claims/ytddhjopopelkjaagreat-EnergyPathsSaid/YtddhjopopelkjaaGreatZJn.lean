/- A part of the proof: lemmas. -/
import Derived.Test.YtddhjopopelkjaaGreatZw10
import Derived.Shelf.Strings.OnBuilder
set_option linter.unusedVariables false
set_option linter.unusedSimpArgs false
namespace Go.Proofs
open Go.Shelf
def Tryz.lays156_ren : Go.Shelf.Ren := ⟨fun | 156 => 167 | 165 => 212 | 166 => 213 | 169 => 214 | 240 => 265 | 241 => 266 | 276 => 281 | 277 => 282 | n => n, fun | 31 => 216 | 9 => 9 | 3 => 3 | 4 => 4 | 0 => 0 | 20 => 20 | 72 => 262 | 76 => 266 | 70 => 259 | 37 => 260 | 75 => 265 | 127 => 298 | 164 => 304 | 5 => 5 | 80 => 268 | n => n, fun | n => n⟩
theorem Tryz.lays156 : Go.Proofs.Lays.n156 Tryz.prog Tryz.lays156_ren := {
  mixed := by kernel_rfl
  f156 := Tryz.func167.trans (congrArg some (by kernel_rfl))
  f165 := Tryz.func212.trans (congrArg some (by kernel_rfl))
  f166 := Tryz.func213.trans (congrArg some (by kernel_rfl))
  f169 := Tryz.func214.trans (congrArg some (by kernel_rfl))
  f240 := Tryz.func265.trans (congrArg some (by kernel_rfl))
  f241 := Tryz.func266.trans (congrArg some (by kernel_rfl))
  f276 := Tryz.func281.trans (congrArg some (by kernel_rfl))
  f277 := Tryz.func282.trans (congrArg some (by kernel_rfl))
  t0 := Tryz.underlying0
  a0 := Tryz.isAgg0
  z0 := Tryz.sizeOf0
  v0 := Tryz.zeroValue0
  t3 := Tryz.underlying3
  a3 := Tryz.isAgg3
  z3 := Tryz.sizeOf3
  v3 := Tryz.zeroValue3
  t4 := Tryz.underlying4
  a4 := Tryz.isAgg4
  z4 := Tryz.sizeOf4
  v4 := Tryz.zeroValue4
  t9 := Tryz.underlying9
  a9 := Tryz.isAgg9
  z9 := Tryz.sizeOf9
  v9 := Tryz.zeroValue9
  t20 := Tryz.underlying20
  a20 := Tryz.isAgg20
  z20 := Tryz.sizeOf20
  v20 := Tryz.zeroValue20
  t31 := Tryz.underlying216
  a31 := Tryz.isAgg216
  z31 := Tryz.sizeOf216
  v31 := Tryz.zeroValue216
  t37 := Tryz.underlying260
  a37 := Tryz.isAgg260
  z37 := Tryz.sizeOf260
  v37 := Tryz.zeroValue260
  t70 := Tryz.underlying259
  a70 := Tryz.isAgg259
  z70 := Tryz.sizeOf259
  v70 := Tryz.zeroValue259
  t72 := Tryz.underlying262
  a72 := Tryz.isAgg262
  z72 := Tryz.sizeOf262
  v72 := Tryz.zeroValue262
  t75 := Tryz.underlying265
  a75 := Tryz.isAgg265
  z75 := Tryz.sizeOf265
  v75 := Tryz.zeroValue265
  t76 := Tryz.underlying266
  a76 := Tryz.isAgg266
  z76 := Tryz.sizeOf266
  v76 := Tryz.zeroValue266
  t127 := Tryz.underlying298
  a127 := Tryz.isAgg298
  z127 := Tryz.sizeOf298
  v127 := Tryz.zeroValue298
  t164 := Tryz.underlying304
  a164 := Tryz.isAgg304
  z164 := Tryz.sizeOf304
  v164 := Tryz.zeroValue304 }
theorem Tryz.Builder_Extra_156 : Builder.Extra Tryz.prog Tryz.lays156_ren := {
  sizeBuilder := by kernel_rfl
  liesBuilder := by kernel_rfl
  t5 := Tryz.underlying5
  a5 := Tryz.isAgg5
  z5 := Tryz.sizeOf5
  v5 := Tryz.zeroValue5
  infoByte := by kernel_rfl
  cellsByte := by kernel_rfl
  sizeByte := by kernel_rfl
  neB5 := by decide }
open Go.RowKit in
theorem Tryz.strings_Join (bk o c : Nat) (xs : List ByteArray) (sep : ByteArray) (w : World) (hcells : ∀ (j : Nat) x, xs[j]? = some x → w.cell? ⟨bk, o + j, none⟩ = some (.string x)) (hbk : bk < w.heap.size) (hN : xs.length ≤ 140737488355328) (hcap : xs.length ≤ c) (hlen : (Lib.join (xs.map (·.data.toList)) sep.data.toList).length ≤ 140737488355328) :
    Calls Tryz.prog 167 #[.slice (some ⟨bk, o, none⟩) xs.length c, .string sep] w fun e w' => e = .returned (.string ⟨(Lib.join (xs.map (·.data.toList)) sep.data.toList).toArray⟩) ∧ Below w.heap.size w w' := Any.strings_Join Tryz.lays156 Tryz.Builder_Extra_156 bk o c xs sep w hcells hbk hN hcap hlen
end Go.Proofs

namespace Go.Proofs.YtddhjopopelkjaaGreat
open Go Go.Sx Go.RowKit
/-! ### strings.Join, by its contract -/
def jnS (l : List ByteArray) (sep : ByteArray) : ByteArray := ⟨(Lib.join (l.map (·.data.toList)) sep.data.toList).toArray⟩
theorem ppost_str {I : Imm} {w w' : World} {s : ByteArray} (hI : ∀ b o, I b o → b < w.heap.size) (hb : Below w.heap.size w w') : PPost I w I w' r0 ⟨.str s, []⟩ (.string s) :=
  ⟨hb, fun _ _ h => h, fun _ _ h => .inl h, fun b o h => Nat.lt_of_lt_of_le (hI b o h) hb.size, fun j p hj => by simp at hj, fun j j' h1 => by simp at h1, .str _ _⟩
theorem d167 {l : List ByteArray} {sep : ByteArray} (hN : l.length ≤ 140737488355328) (hlen : (Lib.join (l.map (·.data.toList)) sep.data.toList).length ≤ 140737488355328) :
    PCall Tryz.prog 167 [.isl 1 (sl l), .str sep] ⟨.str (jnS l sep), []⟩ := by
  refine ⟨FnOK.of Tryz.func167 (by kernel_rfl) (by kernel_rfl), fun I w vs hI hv => ?_⟩
  obtain ⟨hs, hc⟩ := hv
  have hs : vs.size = 2 := hs
  obtain ⟨v0, v1, rfl⟩ : ∃ v0 v1, vs = #[v0, v1] := ⟨vs[0], vs[1], by
    apply Array.ext
    · simp [hs]
    · intro i h1 h2
      have : i = 0 ∨ i = 1 := by omega
      rcases this with rfl | rfl <;> rfl⟩
  have h0 := hc 0 _ v0 rfl rfl
  have h1 := hc 1 _ v1 rfl rfl
  cases h1
  cases l with
  | nil =>
    have key : ∀ (a : Option Addr) (c : Nat), CallsIn Fence.wide 0 Tryz.prog 167 #[.slice a 0 c, .string sep] w fun e w' => ∃ x r' I', e = .returned x ∧ PPost I w I' w' r' ⟨.str (jnS [] sep), []⟩ x := fun a c =>
      (callsIn_wide.2 (Any.strings_Join_none Tryz.lays156 Tryz.Builder_Extra_156 a c sep w)).mono fun e w' ⟨he, hw⟩ => ⟨_, r0, I, he, by subst hw; exact ppost_str hI (Below.refl _ _)⟩
    have h0 : VR r0 I w (fun _ => False) (.isl 1 []) v0 := h0
    cases h0 with
    | isl0 => exact key _ _
    | isl => exact key _ _
  | cons x xs =>
    have h0 : VR r0 I w (fun _ => False) (.isl 1 ([.str x] :: sl xs)) v0 := h0
    cases h0 with
    | isl _ _ _ b o cap val hl g0 g1 g2 =>
      have hel : ∀ (j : Nat) (y : ByteArray), (x :: xs)[j]? = some y → (([AV.str x] :: sl xs)[j]? = some [.str y]) := fun j y hy => by
        have : ([AV.str x] :: sl xs) = (x :: xs).map fun s => [.str s] := rfl
        rw [this, List.getElem?_map, hy]; rfl
      have hcells : ∀ (j : Nat) (y : ByteArray), (x :: xs)[j]? = some y → w.cell? ⟨b, o + j, none⟩ = some (.string y) := fun j y hy => by
        have k1 := (g1 j _ 0 _ (hel j y hy) rfl).2
        have k2 := g2 j _ 0 _ (hel j y hy) rfl
        rw [Nat.mul_one, Nat.add_zero] at k1
        generalize val j 0 = z at *
        cases k2
        exact k1
      have hb : b < w.heap.size := hI b _ (g1 0 _ 0 _ (hel 0 x rfl) rfl).1
      have hl' : ([AV.str x] :: sl xs).length = (x :: xs).length := by simp [sl]
      rw [hl'] at hl
      have := (callsIn_wide.2 (Tryz.strings_Join b o cap (x :: xs) sep w hcells hb hN hl hlen)).mono (n := 0) (R' := fun e w' => ∃ x_1 r' I', e = .returned x_1 ∧ PPost I w I' w' r' ⟨.str (jnS (x :: xs) sep), []⟩ x_1) fun e w' ⟨he, hw⟩ => ⟨_, r0, I, he, ppost_str hI hw⟩
      rw [← hl'] at this
      exact this
end Go.Proofs.YtddhjopopelkjaaGreat
