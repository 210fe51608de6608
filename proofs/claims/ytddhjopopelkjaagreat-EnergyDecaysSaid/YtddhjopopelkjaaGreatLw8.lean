/- A part of the proof: lemmas. -/
import Derived.Test.YtddhjopopelkjaaGreatSx3
import Derived.Test.YtddhjopopelkjaaGreatSx6
import Derived.Test.YtddhjopopelkjaaGreatSx7
import Derived.IntWalk
import Derived.KernelRfl
import Derived.Test.YtddhjopopelkjaaGreatProg
import Derived.Test.YtddhjopopelkjaaGreatRows
set_option linter.unusedVariables false
set_option linter.unusedSimpArgs false
namespace Go.Proofs.YtddhjopopelkjaaGreat
open Go Go.Sx
noncomputable def tbl : List (Nat × TI) :=
  [(2, ⟨.int .i64, 1, 8, false, [.int .i64 0]⟩),
   (3, ⟨.int .i64, 1, 8, false, [.int .i64 0]⟩),
   (4, ⟨.bool, 1, 1, false, [.bool false]⟩),
   (5, ⟨.int .u8, 1, 1, false, [.int .u8 0]⟩),
   (6, ⟨.int .u8, 1, 1, false, [.int .u8 0]⟩),
   (8, ⟨.struct #[⟨ "x", 2, 0, false, "", "runtime", 0⟩, ⟨ "y", 3, 1, false, "", "runtime", 8⟩, ⟨ "signed", 4, 2, false, "", "runtime", 16⟩, ⟨ "code", 6, 3, false, "", "runtime", 17⟩], 4, 24, true, [.int .i64 0, .int .i64 0, .bool false, .int .u8 0]⟩),
   (9, ⟨.string, 1, 16, false, [.str ⟨#[]⟩]⟩),
   (10, ⟨.string, 1, 16, false, [.str ⟨#[]⟩]⟩),
   (11, ⟨.string, 1, 16, false, [.str ⟨#[]⟩]⟩),
   (12, ⟨.int .u64, 1, 8, false, [.int .u64 0]⟩),
   (14, ⟨.struct #[⟨ "msg", 9, 0, false, "", "runtime", 0⟩, ⟨ "addr", 12, 1, false, "", "runtime", 16⟩], 2, 24, true, [.str ⟨#[]⟩, .int .u64 0]⟩),
   (15, ⟨.pointer 308, 1, 8, false, [.nilp]⟩),
   (16, ⟨.pointer 311, 1, 8, false, [.nilp]⟩),
   (17, ⟨.pointer 319, 1, 8, false, [.nilp]⟩),
   (19, ⟨.struct #[⟨ "typ", 17, 0, false, "", "internal/runtime/maps", 0⟩], 1, 8, true, [.nilp]⟩),
   (22, ⟨.slice 133, 1, 24, false, [.nils]⟩),
   (23, ⟨.slice 153, 1, 24, false, [.nils]⟩),
   (24, ⟨.slice 207, 1, 24, false, [.nils]⟩),
   (25, ⟨.slice 155, 1, 24, false, [.nils]⟩),
   (26, ⟨.slice 122, 1, 24, false, [.nils]⟩),
   (28, ⟨.struct #[⟨ "Name", 9, 0, false, "", "", 0⟩, ⟨ "Height", 3, 1, false, "", "", 16⟩, ⟨ "Floor", 9, 2, false, "", "", 24⟩, ⟨ "Ceiling", 9, 3, false, "", "", 40⟩, ⟨ "Materials", 22, 4, false, "", "", 56⟩, ⟨ "Corners", 23, 5, false, "", "", 80⟩, ⟨ "Walls", 24, 6, false, "", "", 104⟩, ⟨ "Canopies", 25, 7, false, "", "", 128⟩, ⟨ "Seats", 26, 8, false, "", "", 152⟩], 9, 176, true, [.str ⟨#[]⟩, .int .i64 0, .str ⟨#[]⟩, .str ⟨#[]⟩, .nils, .nils, .nils, .nils, .nils]⟩),
   (29, ⟨.slice 3, 1, 24, false, [.nils]⟩),
   (31, ⟨.struct #[⟨ "Heights", 29, 0, false, "", "", 0⟩, ⟨ "Drawn", 29, 1, false, "", "", 24⟩], 2, 48, true, [.nils, .nils]⟩),
   (33, ⟨.struct #[⟨ "Hall", 28, 0, false, "", "", 0⟩, ⟨ "Setting", 31, 9, false, "", "", 176⟩], 11, 224, true, [.str ⟨#[]⟩, .int .i64 0, .str ⟨#[]⟩, .str ⟨#[]⟩, .nils, .nils, .nils, .nils, .nils, .nils, .nils]⟩),
   (34, ⟨.slice 198, 1, 24, false, [.nils]⟩),
   (36, ⟨.struct #[⟨ "Surfaces", 29, 0, false, "", "", 0⟩, ⟨ "Points", 34, 1, false, "", "", 24⟩, ⟨ "Square", 3, 2, false, "", "", 48⟩], 3, 56, true, [.nils, .nils, .int .i64 0]⟩),
   (38, ⟨.struct #[⟨ "Band", 3, 0, false, "", "", 0⟩, ⟨ "Air", 3, 1, false, "", "", 8⟩, ⟨ "Speed", 3, 2, false, "", "", 16⟩], 3, 24, true, [.int .i64 0, .int .i64 0, .int .i64 0]⟩),
   (42, ⟨.struct #[⟨ "Lo", 3, 0, false, "", "", 0⟩, ⟨ "Hi", 3, 1, false, "", "", 8⟩], 2, 16, true, [.int .i64 0, .int .i64 0]⟩),
   (43, ⟨.int .i64, 1, 8, false, [.int .i64 0]⟩),
   (54, ⟨.slice 29, 1, 24, false, [.nils]⟩),
   (56, ⟨.struct #[⟨ "Shares", 54, 0, false, "", "", 0⟩, ⟨ "Lost", 29, 1, false, "", "", 24⟩], 2, 48, true, [.nils, .nils]⟩),
   (74, ⟨.array 2 3, 2, 16, true, [.int .i64 0, .int .i64 0]⟩),
   (80, ⟨.struct #[⟨ "Hall", 28, 0, false, "", "", 0⟩, ⟨ "Setting", 31, 9, false, "", "", 176⟩], 11, 224, true, [.str ⟨#[]⟩, .int .i64 0, .str ⟨#[]⟩, .str ⟨#[]⟩, .nils, .nils, .nils, .nils, .nils, .nils, .nils]⟩),
   (82, ⟨.struct #[⟨ "X", 3, 0, false, "", "", 0⟩, ⟨ "Y", 3, 1, false, "", "", 8⟩, ⟨ "Z", 3, 2, false, "", "", 16⟩], 3, 24, true, [.int .i64 0, .int .i64 0, .int .i64 0]⟩),
   (83, ⟨.array 2 82, 6, 48, true, [.int .i64 0, .int .i64 0, .int .i64 0, .int .i64 0, .int .i64 0, .int .i64 0]⟩),
   (84, ⟨.slice 87, 1, 24, false, [.nils]⟩),
   (85, ⟨.func #[3, 3] #[3] false, 1, 8, false, [.any]⟩),
   (87, ⟨.struct #[⟨ "Kind", 3, 0, false, "", "", 0⟩, ⟨ "At", 3, 1, false, "", "", 8⟩], 2, 16, true, [.int .i64 0, .int .i64 0]⟩),
   (94, ⟨.slice 108, 1, 24, false, [.nils]⟩),
   (100, ⟨.struct #[⟨ "First", 3, 0, false, "", "", 0⟩, ⟨ "Count", 3, 1, false, "", "", 8⟩, ⟨ "Energy", 3, 2, false, "", "", 16⟩], 3, 24, true, [.int .i64 0, .int .i64 0, .int .i64 0]⟩),
   (108, ⟨.struct #[⟨ "Surfaces", 29, 0, false, "", "", 0⟩, ⟨ "Delay", 42, 1, false, "", "", 24⟩, ⟨ "Energy", 42, 3, false, "", "", 40⟩], 5, 56, true, [.nils, .int .i64 0, .int .i64 0, .int .i64 0, .int .i64 0]⟩),
   (122, ⟨.struct #[⟨ "Name", 9, 0, false, "", "", 0⟩, ⟨ "At", 82, 1, false, "", "", 16⟩], 4, 40, true, [.str ⟨#[]⟩, .int .i64 0, .int .i64 0, .int .i64 0]⟩),
   (126, ⟨.struct #[⟨ "List", 3, 0, false, "", "", 0⟩, ⟨ "Number", 3, 1, false, "", "", 8⟩], 2, 16, true, [.int .i64 0, .int .i64 0]⟩),
   (131, ⟨.array 4 3, 4, 32, true, [.int .i64 0, .int .i64 0, .int .i64 0, .int .i64 0]⟩),
   (133, ⟨.struct #[⟨ "Name", 9, 0, false, "", "", 0⟩, ⟨ "Absorbed", 131, 1, false, "", "", 16⟩, ⟨ "Scattered", 3, 5, false, "", "", 48⟩], 6, 56, true, [.str ⟨#[]⟩, .int .i64 0, .int .i64 0, .int .i64 0, .int .i64 0, .int .i64 0]⟩),
   (141, ⟨.func #[] #[43] false, 1, 8, false, [.any]⟩),
   (146, ⟨.struct #[⟨ "EnergyAir", 38, 0, true, "", "", 0⟩], 3, 24, true, [.int .i64 0, .int .i64 0, .int .i64 0]⟩),
   (148, ⟨.struct #[⟨ "Range", 42, 0, true, "", "", 0⟩], 2, 16, true, [.int .i64 0, .int .i64 0]⟩),
   (150, ⟨.struct #[⟨ "hall", 28, 0, false, "", "shoebox/energy", 0⟩, ⟨ "setting", 31, 9, false, "", "shoebox/energy", 176⟩], 11, 224, true, [.str ⟨#[]⟩, .int .i64 0, .str ⟨#[]⟩, .str ⟨#[]⟩, .nils, .nils, .nils, .nils, .nils, .nils, .nils]⟩),
   (153, ⟨.struct #[⟨ "X", 3, 0, false, "", "", 0⟩, ⟨ "Y", 3, 1, false, "", "", 8⟩], 2, 16, true, [.int .i64 0, .int .i64 0]⟩),
   (155, ⟨.struct #[⟨ "Name", 9, 0, false, "", "", 0⟩, ⟨ "Material", 9, 1, false, "", "", 16⟩, ⟨ "From", 153, 2, false, "", "", 32⟩, ⟨ "To", 153, 4, false, "", "", 48⟩, ⟨ "Heights", 29, 6, false, "", "", 64⟩], 7, 88, true, [.str ⟨#[]⟩, .str ⟨#[]⟩, .int .i64 0, .int .i64 0, .int .i64 0, .int .i64 0, .nils]⟩),
   (162, ⟨.func #[3] #[4] false, 1, 8, false, [.any]⟩),
   (167, ⟨.struct #[⟨ "EnergyExchange", 56, 0, true, "", "", 0⟩], 2, 48, true, [.nils, .nils]⟩),
   (170, ⟨.func #[3] #[43] false, 1, 8, false, [.any]⟩),
   (175, ⟨.struct #[⟨ "Hall", 28, 0, true, "", "", 0⟩], 9, 176, true, [.str ⟨#[]⟩, .int .i64 0, .str ⟨#[]⟩, .str ⟨#[]⟩, .nils, .nils, .nils, .nils, .nils]⟩),
   (177, ⟨.struct #[⟨ "room", 175, 0, true, "", "shoebox/hall", 0⟩, ⟨ "HallSetting", 31, 9, true, "", "", 176⟩], 11, 224, true, [.str ⟨#[]⟩, .int .i64 0, .str ⟨#[]⟩, .str ⟨#[]⟩, .nils, .nils, .nils, .nils, .nils, .nils, .nils]⟩),
   (198, ⟨.struct #[⟨ "X", 3, 0, false, "", "", 0⟩, ⟨ "Y", 3, 1, false, "", "", 8⟩, ⟨ "Z", 3, 2, false, "", "", 16⟩, ⟨ "Den", 3, 3, false, "", "", 24⟩], 4, 32, true, [.int .i64 0, .int .i64 0, .int .i64 0, .int .i64 0]⟩),
   (201, ⟨.struct #[⟨ "From", 198, 0, false, "", "", 0⟩, ⟨ "To", 198, 4, false, "", "", 32⟩], 8, 64, true, [.int .i64 0, .int .i64 0, .int .i64 0, .int .i64 0, .int .i64 0, .int .i64 0, .int .i64 0, .int .i64 0]⟩),
   (207, ⟨.struct #[⟨ "Name", 9, 0, false, "", "", 0⟩, ⟨ "Material", 9, 1, false, "", "", 16⟩, ⟨ "Curtain", 9, 2, false, "", "", 32⟩], 3, 48, true, [.str ⟨#[]⟩, .str ⟨#[]⟩, .str ⟨#[]⟩]⟩),
   (208, ⟨.slice 141, 1, 24, false, [.nils]⟩),
   (216, ⟨.slice 9, 1, 24, false, [.nils]⟩),
   (228, ⟨.struct #[⟨ "number", 3, 0, false, "", "shoebox/hall", 0⟩, ⟨ "from", 153, 1, false, "", "shoebox/hall", 8⟩, ⟨ "to", 153, 3, false, "", "shoebox/hall", 24⟩], 5, 40, true, [.int .i64 0, .int .i64 0, .int .i64 0, .int .i64 0, .int .i64 0]⟩),
   (231, ⟨.int .u64, 1, 8, false, [.int .u64 0]⟩),
   (237, ⟨.struct #[⟨ "X", 3, 0, false, "", "", 0⟩, ⟨ "Y", 3, 1, false, "", "", 8⟩, ⟨ "DX", 3, 2, false, "", "", 16⟩, ⟨ "DY", 3, 3, false, "", "", 24⟩], 4, 32, true, [.int .i64 0, .int .i64 0, .int .i64 0, .int .i64 0]⟩),
   (242, ⟨.struct #[⟨ "from", 198, 0, false, "", "shoebox/hall", 0⟩, ⟨ "to", 198, 4, false, "", "shoebox/hall", 32⟩], 8, 64, true, [.int .i64 0, .int .i64 0, .int .i64 0, .int .i64 0, .int .i64 0, .int .i64 0, .int .i64 0, .int .i64 0]⟩),
   (244, ⟨.func #[228] #[4] false, 1, 8, false, [.any]⟩),
   (251, ⟨.array 4 237, 16, 128, true, [.int .i64 0, .int .i64 0, .int .i64 0, .int .i64 0, .int .i64 0, .int .i64 0, .int .i64 0, .int .i64 0, .int .i64 0, .int .i64 0, .int .i64 0, .int .i64 0, .int .i64 0, .int .i64 0, .int .i64 0, .int .i64 0]⟩),
   (259, ⟨.pointer 262, 1, 8, false, [.nilp]⟩),
   (260, ⟨.slice 5, 1, 24, false, [.nils]⟩),
   (262, ⟨.struct #[⟨ "addr", 259, 0, false, "", "strings", 0⟩, ⟨ "buf", 260, 1, false, "", "strings", 8⟩], 2, 32, true, [.nilp, .nils]⟩),
   (271, ⟨.func #[148, 3] #[4] false, 1, 8, false, [.any]⟩),
   (278, ⟨.struct #[⟨ "x", 42, 0, false, "", "shoebox/hall", 0⟩, ⟨ "y", 42, 2, false, "", "shoebox/hall", 16⟩], 4, 32, true, [.int .i64 0, .int .i64 0, .int .i64 0, .int .i64 0]⟩),
   (285, ⟨.map 9 4, 1, 8, false, [.any]⟩),
   (286, ⟨.func #[] #[3, 43] false, 1, 8, false, [.any]⟩),
   (288, ⟨.struct #[⟨ "list", 3, 0, false, "", "shoebox/hall", 0⟩, ⟨ "check", 286, 1, false, "", "shoebox/hall", 8⟩], 2, 16, true, [.int .i64 0, .any]⟩),
   (294, ⟨.array 15 288, 30, 240, true, [.int .i64 0, .any, .int .i64 0, .any, .int .i64 0, .any, .int .i64 0, .any, .int .i64 0, .any, .int .i64 0, .any, .int .i64 0, .any, .int .i64 0, .any, .int .i64 0, .any, .int .i64 0, .any, .int .i64 0, .any, .int .i64 0, .any, .int .i64 0, .any, .int .i64 0, .any, .int .i64 0, .any]⟩),
   (295, ⟨.slice 43, 1, 24, false, [.nils]⟩),
   (296, ⟨.float .f64, 1, 8, false, [.flt .f64 0]⟩),
   (298, ⟨.pointer 5, 1, 8, false, [.nilp]⟩),
   (300, ⟨.func #[133] #[4] false, 1, 8, false, [.any]⟩),
   (302, ⟨.array 4 153, 8, 64, true, [.int .i64 0, .int .i64 0, .int .i64 0, .int .i64 0, .int .i64 0, .int .i64 0, .int .i64 0, .int .i64 0]⟩),
   (314, ⟨.int .u8, 1, 1, false, [.int .u8 0]⟩)]
def eqs : List Nat := [42, 82, 100, 153]

theorem tblOK : (tbl.map fun p => mkTI Tryz.prog p.1) = tbl.map fun p => some p.2 := by kernel_rfl
theorem tabOK : TabOK Tryz.prog (tget tbl) := tabOK_of tblOK
theorem eqsOK : (eqs.all fun t => !Tryz.prog.stoodInHeld t && !Tryz.prog.eqGuardType Tryz.prog.depth t) = true := by kernel_rfl
theorem eqOK : EqOK Tryz.prog (memN eqs) := eqOK_of eqsOK
end Go.Proofs.YtddhjopopelkjaaGreat
namespace Go.Proofs.YtddhjopopelkjaaGreat
open Go Go.Sx
abbrev I (n : Int) : AV := .int .i64 n
def pt0 : PC := fun _ _ => none
theorem pt0_ok : PCOK Tryz.prog pt0 := fun _ _ _ h => by cases h
theorem mixed : Tryz.prog.follows .mixedOrders = true := by kernel_rfl
noncomputable def bs : Base Tryz.prog := ⟨tget tbl, memN eqs, tabOK, eqOK, mixed⟩
def nos : FuncId → Bool := fun _ => false
def sgn (n : Int) : Int := if n > 0 then 1 else if n < 0 then -1 else 0
theorem c115 (n : Int) : PCall Tryz.prog 272 [I n] ⟨I (sgn n), []⟩ := by
  refine bs.pcall (sx := nos) pt0_ok Tryz.func272 (by kernel_rfl) (by kernel_rfl) rfl ?_
  refine Br.intro (fun h1 => ?_) (fun h1 => ?_)
  · exact exports_int (by simp at h1; simp [sgn, h1])
  · refine Br.intro (fun h2 => ?_) (fun h2 => ?_)
    · exact exports_int (by simp at h1 h2; simp [sgn, h2, Int.not_lt.2 h1])
    · exact exports_int (by simp at h1 h2; simp [sgn, Int.not_lt.2 h2, Int.not_lt.2 h1])

set_option maxHeartbeats 1000000 in
theorem c145 {nm ht fl ce ms wa ca se : AV} {es : List (List AV)} {i : Nat} {x y u v : Int} (hn : es.length < 1000) (h1 : es[i]? = some [I x, I y]) (h2 : es[(i + 1) % es.length]? = some [I u, I v]) :
    PCall Tryz.prog 183 [.agg [nm, ht, fl, ce, ms, .isl 2 es, wa, ca, se], I i] ⟨.agg [I i, I x, I y, I u, I v], []⟩ := by
  have hi : i < es.length := (List.getElem?_eq_some_iff.1 h1).1
  have hw : IntKind.i64.wrap ((i : Int) + 1) = ((i + 1 : Nat) : Int) := IntWalk.i64_in _ ⟨by omega, by omega⟩
  have hm : (IntKind.i64.wrap ((i : Int) + 1)).tmod (es.length : Int) = (((i + 1) % es.length : Nat) : Int) := by rw [hw]; rfl
  refine bs.pcall (sx := nos) pt0_ok Tryz.func183 (by kernel_rfl) (by kernel_rfl) rfl ?_
  refine Got.intro h1 ?_
  have hp : 0 < es.length := by omega
  refine As.np (by omega) ?_
  refine As.p (by rw [hm]; exact Int.natCast_nonneg _) ?_
  refine Got.intro (x := [I u, I v]) (by rw [hm]; exact h2) ?_
  refine Dr.intro (by kernel_rfl) ?_
  refine Got.intro rfl ?_
  exact exports_of rfl rfl

abbrev pt (p : Int × Int) : List AV := [I p.1, I p.2]
def cor (ps : List (Int × Int)) (i : Nat) : Int × Int := ps.getD i (0, 0)
def wallV (ps : List (Int × Int)) (i : Nat) : AV := .agg [I i, I (cor ps i).1, I (cor ps i).2, I (cor ps ((i + 1) % ps.length)).1, I (cor ps ((i + 1) % ps.length)).2]
def wallsX (ps : List (Int × Int)) : List (List AV) := (List.range ps.length).map fun i => [wallV ps i]

theorem es_get {ps : List (Int × Int)} {i : Nat} (h : i < ps.length) : (ps.map pt)[i]? = some [I (cor ps i).1, I (cor ps i).2] := by
  simp [cor, h]

def r145 : List AV → Option PRes
  | [.agg [_, _, _, _, _, .isl 2 es, _, _, _], .int .i64 (.ofNat i)] => match es[i]?, es[(i + 1) % es.length]? with
    | some [.int .i64 x, .int .i64 y], some [.int .i64 u, .int .i64 v] => cond (Nat.blt es.length 1000) (some ⟨.agg [I i, I x, I y, I u, I v], []⟩) none
    | _, _ => none
  | _ => none
def pcW : PC := fun f a => cond (Nat.beq f 183) (r145 a) none
theorem pcW_ok : PCOK Tryz.prog pcW := by
  intro f a res h
  unfold pcW at h
  cases hb : Nat.beq f 183 with
  | false => rw [hb] at h; cases h
  | true =>
    rw [hb] at h
    rw [Nat.eq_of_beq_eq_true hb]
    simp only [cond_true] at h
    unfold r145 at h
    split at h
    · split at h
      · rename_i h1 h2
        obtain ⟨h3, h4⟩ := cond_some h
        cases h4
        exact c145 (by simpa [Nat.blt_eq] using h3) h1 h2
      · cases h
    · cases h

theorem it180 {nm ht fl ce ms wa ca se : AV} {ps : List (Int × Int)} (hp : pureL [nm, ht, fl, ce, ms, wa, ca, se] = true) (hn : ps.length < 1000) :
    ItOK Tryz.prog 193 [.agg [nm, ht, fl, ce, ms, .isl 2 (ps.map pt), wa, ca, se]] [] (wallsX ps) := by
  refine bs.iter pcW_ok Tryz.func193 (by kernel_rfl) rfl (by kernel_rfl) fun B Ig l JX hI => ?_
  refine iloop_fam (S := Nat) (fun k => ps.length - k) (fun k => [(1, .yld l), (2, .ptr 0 0 0), (8, I ps.length), (9, I k)]) (fun _ => ⟨[(0, .row 9 [[nm, ht, fl, ce, ms, .isl 2 (ps.map pt), wa, ca, se]] true false)], 1⟩) (fun k => some ((wallsX ps).drop k)) [1, 2, 8, 9] [0] (fun k => k ≤ ps.length) ?_ 0 (Nat.zero_le _) ?_ rfl rfl
  · intro k hk
    refine bs.awpi pcW_ok hI ?_
    refine Br.dec (fun hlt => ?_) (fun hge => ?_)
    · have hlt : k < ps.length := by omega
      have hx : (wallsX ps).drop k = [wallV ps k] :: (wallsX ps).drop (k + 1) := by
        rw [List.drop_eq_getElem_cons (by simp [wallsX, hlt])]; simp [wallsX]
      rw [hx]
      have hpu : pureL [.agg [nm, ht, fl, ce, ms, .isl 2 (ps.map pt), wa, ca, se], I k] = true := by
        simp only [pureL, pureAV, Bool.and_eq_true, Bool.and_true] at hp ⊢; simp [hp]
      have hr : r145 [.agg [nm, ht, fl, ce, ms, .isl 2 (ps.map pt), wa, ca, se], I k] = some ⟨wallV ps k, []⟩ := by
        have e1 := es_get hlt
        have e2 := es_get (ps := ps) (i := (k + 1) % ps.length) (Nat.mod_lt _ (by omega))
        have hl : (ps.map pt).length = ps.length := by simp
        show (match (ps.map pt)[k]?, (ps.map pt)[(k + 1) % (ps.map pt).length]? with
          | some [.int .i64 x, .int .i64 y], some [.int .i64 u, .int .i64 v] => cond (Nat.blt (ps.map pt).length 1000) (some (PRes.mk (.agg [I k, I x, I y, I u, I v]) [])) none
          | _, _ => none) = _
        rw [hl, e1, e2]
        have : Nat.blt ps.length 1000 = true := by simpa [Nat.blt_eq] using hn
        simp only [this]; rfl
      refine Got.intro (viewL_pure _ hpu) ?_
      refine Got.intro hr ?_
      refine ⟨rfl, rfl, rfl, rfl, ?_, ?_⟩
      · refine ⟨k + 1, by omega, by omega, ?_, rfl, rfl⟩
        have hw : IntKind.i64.wrap ((k : Int) + 1) = ((k + 1 : Nat) : Int) := IntWalk.i64_in _ ⟨by omega, by omega⟩
        exact congrArg (fun x => [(1, AV.yld l), (2, .ptr 0 0 0), (8, I ps.length), (9, I x)]) hw
      · refine ⟨.inr rfl, .inr rfl, ?_⟩
        exact ⟨[], rfl⟩
    · have : k = ps.length := by omega
      subst this
      refine ⟨.inl rfl, .inl ?_, [], rfl⟩
      simp [wallsX]
  · exact congrArg (fun x : Nat => [(1, AV.yld l), (2, .ptr 0 0 0), (8, I x), (9, I 0)]) (by simp)

def backX (v : List AV → AV) (els : List (List AV)) : Nat → List (List AV)
  | 0 => []
  | m + 1 => [I m, v (els.getD m [])] :: backX v els m

def hd1 (e : List AV) : AV := e.headD .any

theorem pureLL_get {els : List (List AV)} (h : els.all pureL = true) {m : Nat} {e : List AV} (he : els[m]? = some e) : pureL e = true :=
  List.all_eq_true.1 h e (List.mem_of_getElem? he)

end Go.Proofs.YtddhjopopelkjaaGreat
namespace Go.Proofs.YtddhjopopelkjaaGreat
open Go Go.Sx

theorem wpl_step {P : Program} {F : Fence} {n : Nat} {ops : Array Oper} {Q : Exit → Act → World → Prop} {o : Oper} {rest : List Oper} {a : Act} {w : World} (hg : o.guard = none) (h : o.wpIn F n P a w (wpListIn F n P ops Q rest) Q) : wpListIn F n P ops Q (o :: rest) a w := by
  unfold wpListIn
  rw [if_pos (by simp [Region.wanted, hg])]
  exact h

theorem c202 {x y : Nat} (h : FloatKind.f64.format.sqrt x = some y) : PCall Tryz.prog 264 [.flt .f64 x] ⟨.flt .f64 y, []⟩ := by
  refine pcall_of_sem (FnOK.of Tryz.func264 (by kernel_rfl) (by kernel_rfl)) rfl (body_awp bs.hT Tryz.func264 (c := _) rfl (Nat.le_of_ble_eq_true (by kernel_rfl)) ?_)
  refine awp_seq (bs.awp (sx := nos) pt0_ok ?_)
  refine awp_seq ?_
  intro F B w0 I0 pr r I D a w hF hR S
  refine wpIn_region_list ?_
  refine wpl_step rfl ?_
  refine vcOp_sound (cxP_ok (sx := nos) bs.hT bs.hok pt0_ok) hF _ (fun c e => by cases e) S (K := fun env σ => env = [(3, .flt .f64 x), (2, .flt .f64 0), (0, .flt .f64 x)] ∧ σ = ⟨[], 0⟩) ⟨rfl, rfl⟩ (fun a1 w1 hl => ?_)
  obtain ⟨env1, σ1, r1, I1, D1, ⟨rfl, rfl⟩, S1, hd1, st1⟩ := hl
  refine wpl_step rfl ?_
  refine op_ext hF _ S1 (K := fun env σ => env = [(4, .flt .f64 y), (3, .flt .f64 x), (2, .flt .f64 0), (0, .flt .f64 x)] ∧ σ = ⟨[], 0⟩) rfl rfl Tryz.func280 (by kernel_rfl) (by kernel_rfl) (by kernel_rfl) (e := Extern.MathSqrt.sqrt) (by kernel_rfl) (v := .flt .f64 y) (fun vs hv => ?_) ⟨rfl, rfl⟩ (fun a2 w2 hl => ?_)
  · have e0 : vs.size = 1 := hv.1
    have hx := hv.2 0 (.flt .f64 x) vs[0] rfl (by simp [e0])
    have e1 : vs = #[.float .f64 x] := by
      apply Array.ext
      · simpa using e0
      · intro i h1 h2
        have : i = 0 := by simp at h2; omega
        subst this
        generalize vs[0] = z at hx
        cases hx; rfl
    subst e1
    have e2 : Extern.MathSqrt.sqrt #[.float .f64 x] = (match FloatKind.f64.format.sqrt x with
      | some r => pure (.float .f64 r)
      | none => do pure (.float .f64 (← choose (.nanBits .f64 x x)))) := rfl
    exact ⟨.float .f64 y, by rw [e2, h]; rfl, .flt _ _ _⟩
  obtain ⟨env2, σ2, r2, I2, D2, ⟨rfl, rfl⟩, S2, hd2, st2⟩ := hl
  refine wpl_step rfl ?_
  refine vcOp_sound (cxP_ok (sx := nos) bs.hT bs.hok pt0_ok) hF _ (fun c e => by cases e) S2 (K := fun env σ => env = [(2, .flt .f64 y), (4, .flt .f64 y), (3, .flt .f64 x), (2, .flt .f64 0), (0, .flt .f64 x)] ∧ σ = ⟨[], 0⟩) ⟨rfl, rfl⟩ (fun a3 w3 hl => ?_)
  obtain ⟨env3, σ3, r3, I3, D3, ⟨rfl, rfl⟩, S3, hd3, st3⟩ := hl
  have st := (st1.trans st2).trans st3
  refine ⟨pr, [], _, _, r3, I3, D3, fun _ _ h => h, fun d hd => by simp at hd, .nil, by rw [hd3, hd2, hd1]; rfl, ?_, S3, st, st.size⟩
  refine awp_ret ?_
  exact Got.intro rfl (exports_of rfl rfl)

/-! ### The tables of iterators and of what is taken in place -/
def pairsOf : List (List AV) → Option (List (Int × Int))
  | [] => some []
  | [.int .i64 x, .int .i64 y] :: l => match pairsOf l with
    | some ps => some ((x, y) :: ps)
    | none => none
  | _ => none
theorem pairsOf_eq : ∀ {es : List (List AV)} {ps : List (Int × Int)}, pairsOf es = some ps → es = ps.map pt := by
  intro es
  induction es with
  | nil => intro ps h; simp only [pairsOf, Option.some.injEq] at h; subst h; rfl
  | cons e l ih =>
    intro ps h
    unfold pairsOf at h
    split at h
    · rename_i h0; cases h0
    · rename_i x y l' h0
      cases h0
      split at h
      · rename_i qs hq
        cases h
        rw [ih hq]; rfl
      · cases h
    · cases h

def wallsT (c0 c1 : List AV) : Option (List (List AV)) := match c0, c1 with
  | [.agg [nm, ht, fl, ce, ms, .isl 2 es, wa, ca, se]], [] => match pairsOf es with
    | some ps => cond (pureL [nm, ht, fl, ce, ms, wa, ca, se] && Nat.blt ps.length 1000) (some (wallsX ps)) none
    | none => none
  | _, _ => none
def itT : ITab := fun g c0 c1 => cond (Nat.beq g 193) (wallsT c0 c1) none
theorem itT_ok : ∀ g c0 c1 xs, itT g c0 c1 = some xs → ItOK Tryz.prog g c0 c1 xs := by
  intro g c0 c1 xs h
  unfold itT at h
  obtain ⟨h1, h⟩ := cond_some h
  rw [Nat.eq_of_beq_eq_true h1]
  unfold wallsT at h
  split at h
  · split at h
    · rename_i ps hps
      obtain ⟨h2, h⟩ := cond_some h
      cases h
      simp only [Bool.and_eq_true, Nat.blt_eq] at h2
      rw [pairsOf_eq hps]
      exact it180 h2.1 h2.2
    · cases h
  · cases h

def sqrtT : PC := fun f a => cond (Nat.beq f 264) (match a with
  | [.flt .f64 x] => match FloatKind.f64.format.sqrt x with
    | some y => some ⟨.flt .f64 y, []⟩
    | none => none
  | _ => none) none
theorem sqrtT_ok : PCOK Tryz.prog sqrtT := by
  intro f a res h
  unfold sqrtT at h
  obtain ⟨h1, h⟩ := cond_some h
  rw [Nat.eq_of_beq_eq_true h1]
  split at h
  · split at h
    · rename_i hs; cases h; exact c202 hs
    · cases h
  · cases h

/-- The evaluator of this program. -/
noncomputable def exT (xs : List Nat) (pt : PC) : CF := exG Tryz.prog (tget tbl) (memN eqs) itT (memN xs) pt 1000 40
theorem exT_ok {xs : List Nat} {pt : PC} (hpt : PCOK Tryz.prog pt) : CFOK Tryz.prog (exT xs pt) := exG_sound tabOK eqOK itT_ok mixed hpt 40
def isR (v0 : AV) : Option PRes → Bool
  | some ⟨v, []⟩ => eqA v v0
  | _ => false
theorem isR_eq {v0 : AV} {o : Option PRes} (h : isR v0 o = true) : o = some ⟨v0, []⟩ := by
  unfold isR at h
  split at h
  · rw [eqA_eq _ _ h]
  · cases h
theorem reckoned {xs : List Nat} {pt : PC} (hpt : PCOK Tryz.prog pt) {f : FuncId} {a : List AV} {v : AV} (h : isR v (pcF (exT xs pt) f a) = true) : PCall Tryz.prog f a ⟨v, []⟩ := pcall_ex (exT_ok hpt) (isR_eq h)
/-- A table with one contract more. -/
def withC (f0 : FuncId) (a0 : List AV) (v0 : AV) (pt : PC) : PC := fun f a => cond (Nat.beq f f0 && eqL a a0) (some ⟨v0, []⟩) (pt f a)
theorem withC_ok {f0 : FuncId} {a0 : List AV} {v0 : AV} {pt : PC} (h0 : PCall Tryz.prog f0 a0 ⟨v0, []⟩) (h : PCOK Tryz.prog pt) : PCOK Tryz.prog (withC f0 a0 v0 pt) := by
  intro f a res hr
  unfold withC at hr
  cases hb : (Nat.beq f f0 && eqL a a0) with
  | true =>
    rw [hb] at hr
    cases hr
    simp only [Bool.and_eq_true] at hb
    rw [Nat.eq_of_beq_eq_true hb.1, eqL_eq _ _ hb.2]
    exact h0
  | false => rw [hb] at hr; exact h f a res hr
end Go.Proofs.YtddhjopopelkjaaGreat
namespace Go.Proofs.YtddhjopopelkjaaGreat
open Go Go.Sx
abbrev S (l : List UInt8) : AV := .str ⟨⟨l⟩⟩
def boxA : AV := .agg [S [104], I 600, S [119], S [119], .isl 6 [[S [119], I 100, I 100, I 100, I 100, I 0]], .isl 2 [[I 0, I 0], [I 1000, I 0], [I 1000, I 2000], [I 0, I 2000]],
  .isl 3 [[S [97], S [119], S []], [S [98], S [119], S []], [S [99], S [119], S []], [S [100], S [119], S []]], .nils, .nils]
def fine : AV := .tup [.agg [I 0, I 0], I 0]
set_option maxRecDepth 1000000 in
theorem aw207 : isR fine (pcF (exT [264] sqrtT) 207 [boxA]) = true := by kernel_rfl
theorem box_ok : PCall Tryz.prog 207 [boxA] ⟨fine, []⟩ := reckoned sqrtT_ok aw207
def boxT : PC := withC 207 [boxA] fine sqrtT
theorem boxT_ok : PCOK Tryz.prog boxT := withC_ok box_ok sqrtT_ok
set_option maxRecDepth 1000000 in
theorem aw16 : isR (.bool true) (pcF (exT [264, 207] boxT) 16 []) = true := by kernel_rfl
theorem awake_ok : PCall Tryz.prog 16 [] ⟨.bool true, []⟩ := reckoned boxT_ok aw16
end Go.Proofs.YtddhjopopelkjaaGreat
namespace Go.Proofs.YtddhjopopelkjaaGreat
open Go Go.Sx

theorem own : ownKnob Tryz.prog.godebug = none := by kernel_rfl
theorem laidOut : laidOutB Tryz.prog = true := by kernel_rfl
def tys : List TypeId := [94, 108, 42, 29, 3]
theorem tysOK : tys.all (suppT (tget tbl) tys) = true := by kernel_rfl
theorem fLaid : laidOutB Tryz.checked.prog = true := by kernel_rfl
theorem fMaps : mapsRowed Tryz.checked.prog = true := by kernel_rfl
theorem fPlain : Tryz.checked.prog.plainKeys = Rows.energyArrivesRow.plainKeys := by kernel_rfl
theorem fHeard : Tryz.checked.prog.stopsHeard = true := by kernel_rfl
theorem fMay : Tryz.checked.prog.mayEnter = true := by kernel_rfl
theorem fLifts : Tryz.checked.prog.liftsFinal = Rows.energyArrivesRow.lifted := by kernel_rfl
theorem fMake : Tryz.checked.prog.make = some Rows.energyArrivesRow.make := by kernel_rfl
end Go.Proofs.YtddhjopopelkjaaGreat
namespace Go.En

/-! ### Plain law: exchanges -/
def tot : List Int → Int
  | [] => 0
  | x :: l => x + tot l
/-- Thousandths, rounded up. -/
def above (n : Int) : Int := (n + 999) / 1000
def addP (kept : Int) : List Int → List Int → List Int
  | s :: row, o :: out => (o + kept * s / 1000) :: addP kept row out
  | _, out => out
def gsum (kept : Int) : List Int → Int
  | [] => 0
  | s :: row => kept * s / 1000 + gsum kept row
def addAt : List Int → Nat → Int → List Int
  | [], _, _ => []
  | o :: out, 0, x => (o + x) :: out
  | o :: out, i + 1, x => o :: addAt out i x
/-- The greatest number, and where it stands first. -/
def lmax : Int → List Int → Int
  | m, [] => m
  | m, x :: l => lmax (max m x) l
def imaxG : Nat → Int → Nat → List Int → Nat
  | b, _, _, [] => b
  | b, m, i, x :: l => if m < x then imaxG i x (i + 1) l else imaxG b m (i + 1) l
def imax : List Int → Nat
  | [] => 0
  | x :: l => imaxG 0 x 1 l
def stepG : List (List Int) → List Int → List Int → List Int → Int → List Int × Int
  | row :: rows, L :: ls, n :: e, out, all => stepG rows ls e (addAt (addP (n - above (n * L)) row out) (imax row) (n - above (n * L) - gsum (n - above (n * L)) row)) (all + above (n * L))
  | _, _, _, out, all => (out, all)
def zer (n : Nat) : List Int := List.replicate n 0
def step (rows : List (List Int)) (ls e : List Int) : List Int × Int := stepG rows ls e (zer e.length) 0
def run (rows : List (List Int)) (ls : List Int) : Nat → List Int → List Int × Int
  | 0, e => (e, 0)
  | k + 1, e => ((run rows ls k (step rows ls e).1).1, (step rows ls e).2 + (run rows ls k (step rows ls e).1).2)
/-- Right exchanges of so many patches. -/
structure ExOk (n : Nat) (rows : List (List Int)) (ls : List Int) : Prop where
  pos : 0 < n
  rl : rows.length = n
  ll : ls.length = n
  row : ∀ r ∈ rows, r.length = n ∧ (∀ s ∈ r, 0 ≤ s ∧ s ≤ 1000) ∧ tot r = 1000
  lost : ∀ x ∈ ls, 0 ≤ x ∧ x ≤ 1000
def Nn (l : List Int) : Prop := ∀ x ∈ l, 0 ≤ x

theorem tot_append : ∀ (a b : List Int), tot (a ++ b) = tot a + tot b
  | [], b => by simp [tot]
  | x :: a, b => by simp only [List.cons_append, tot]; rw [tot_append a b]; omega
theorem tot_nn : ∀ {l : List Int}, Nn l → 0 ≤ tot l
  | [], _ => by simp [tot]
  | x :: l, h => by
    have h1 := h x (by simp)
    have h2 := tot_nn (l := l) fun y hy => h y (by simp [hy])
    simp only [tot]; omega
theorem le_tot : ∀ {l : List Int}, Nn l → ∀ x ∈ l, x ≤ tot l
  | [], _, x, hx => by simp at hx
  | y :: l, h, x, hx => by
    have h1 := h y (by simp)
    have hn : Nn l := fun z hz => h z (by simp [hz])
    have h2 := tot_nn hn
    simp only [tot]
    rcases List.mem_cons.1 hx with rfl | hx
    · omega
    · have := le_tot hn x hx; omega
theorem tot_zer (n : Nat) : tot (zer n) = 0 := by
  unfold zer
  induction n with
  | zero => rfl
  | succ n ih => rw [List.replicate_succ, tot, ih]; rfl
theorem zer_nn (n : Nat) : Nn (zer n) := by
  intro x hx
  have := List.eq_of_mem_replicate hx
  omega
theorem above_bd {n L : Int} (h0 : 0 ≤ n) (h1 : 0 ≤ L) (h2 : L ≤ 1000) : 0 ≤ above (n * L) ∧ above (n * L) ≤ n := by
  have a := Int.mul_nonneg h0 h1
  have b : n * L ≤ n * 1000 := Int.mul_le_mul_of_nonneg_left h2 h0
  unfold above
  omega
theorem part_nn {k s : Int} (h0 : 0 ≤ k) (h1 : 0 ≤ s) : 0 ≤ k * s / 1000 := Int.ediv_nonneg (Int.mul_nonneg h0 h1) (by omega)
theorem addP_len (kept : Int) : ∀ (row out : List Int), (addP kept row out).length = out.length
  | [], out => by simp [addP]
  | _ :: _, [] => by simp [addP]
  | s :: row, o :: out => by simp only [addP, List.length_cons]; rw [addP_len kept row out]
theorem addP_tot (kept : Int) : ∀ (row out : List Int), row.length = out.length → tot (addP kept row out) = tot out + gsum kept row
  | [], [], _ => by simp [addP, tot, gsum]
  | s :: row, o :: out, h => by
    simp only [addP, tot, gsum]
    rw [addP_tot kept row out (by simpa using h)]; omega
  | [], _ :: _, h => by simp at h
  | _ :: _, [], h => by simp at h
theorem addP_nn {kept : Int} (hk : 0 ≤ kept) : ∀ {row out : List Int}, (∀ s ∈ row, 0 ≤ s ∧ s ≤ 1000) → Nn out → Nn (addP kept row out)
  | [], out, _, h => by simpa [addP] using h
  | _ :: _, [], _, h => by simpa [addP] using h
  | s :: row, o :: out, hr, h => by
    intro x hx
    simp only [addP] at hx
    rcases List.mem_cons.1 hx with rfl | hx
    · have := h o (by simp)
      have := part_nn hk (hr s (by simp)).1
      omega
    · exact addP_nn hk (fun s hs => hr s (by simp [hs])) (fun y hy => h y (by simp [hy])) x hx
theorem gsum_bd {kept : Int} (hk : 0 ≤ kept) : ∀ {row : List Int}, (∀ s ∈ row, 0 ≤ s ∧ s ≤ 1000) → 0 ≤ gsum kept row ∧ 1000 * gsum kept row ≤ kept * tot row ∧ kept * tot row ≤ 1000 * gsum kept row + 999 * row.length
  | [], _ => by simp [gsum, tot]
  | s :: row, h => by
    obtain ⟨h1, h2, h3⟩ := gsum_bd hk (row := row) fun x hx => h x (by simp [hx])
    have h0 := part_nn hk (h s (by simp)).1
    simp only [gsum, tot, List.length_cons]
    rw [Int.mul_add kept]
    generalize kept * s = a at *
    generalize kept * tot row = b at *
    omega
theorem addAt_len : ∀ (l : List Int) (i : Nat) (x : Int), (addAt l i x).length = l.length
  | [], _, _ => rfl
  | o :: out, 0, x => rfl
  | o :: out, i + 1, x => by simp only [addAt, List.length_cons]; rw [addAt_len out i x]
theorem addAt_tot : ∀ {l : List Int} {i : Nat} (x : Int), i < l.length → tot (addAt l i x) = tot l + x
  | [], i, x, h => by simp at h
  | o :: out, 0, x, _ => by simp only [addAt, tot]; omega
  | o :: out, i + 1, x, h => by
    simp only [addAt, tot]
    rw [addAt_tot x (by simpa using h)]; omega
theorem addAt_nn {x : Int} (hx : 0 ≤ x) : ∀ {l : List Int} {i : Nat}, Nn l → Nn (addAt l i x)
  | [], _, h => by simpa [addAt] using h
  | o :: out, 0, h => by
    intro y hy
    simp only [addAt] at hy
    rcases List.mem_cons.1 hy with rfl | hy
    · have := h o (by simp); omega
    · exact h y (by simp [hy])
  | o :: out, i + 1, h => by
    intro y hy
    simp only [addAt] at hy
    rcases List.mem_cons.1 hy with rfl | hy
    · exact h y (by simp)
    · exact addAt_nn hx (fun z hz => h z (by simp [hz])) y hy
theorem imaxG_lt : ∀ (l : List Int) (b : Nat) (m : Int) (i : Nat), b < i → imaxG b m i l < i + l.length
  | [], b, m, i, h => by simpa [imaxG] using h
  | x :: l, b, m, i, h => by
    rw [imaxG, List.length_cons]
    split
    · have := imaxG_lt l i x (i + 1) (by omega); omega
    · have := imaxG_lt l b m (i + 1) (by omega); omega
theorem imax_lt {l : List Int} (h : 0 < l.length) : imax l < l.length := by
  cases l with
  | nil => simp at h
  | cons x l =>
    have := imaxG_lt l 0 x 1 (by omega)
    simp only [imax, List.length_cons]; omega

/-! One step. -/
section
variable {n : Nat}
structure StepOk (n : Nat) (e out : List Int) (all : Int) (r : List Int × Int) : Prop where
  len : r.1.length = n
  nn : Nn r.1
  al : all ≤ r.2
  sum : tot r.1 + r.2 = tot out + all + tot e
theorem stepG_ok (hn : 0 < n) : ∀ {rows : List (List Int)} {ls e out : List Int} {all : Int}, rows.length = e.length → ls.length = e.length → (∀ r ∈ rows, r.length = n ∧ (∀ s ∈ r, 0 ≤ s ∧ s ≤ 1000) ∧ tot r = 1000) → (∀ x ∈ ls, 0 ≤ x ∧ x ≤ 1000) → Nn e → out.length = n → Nn out → StepOk n e out all (stepG rows ls e out all)
  | [], [], [], out, all, _, _, _, _, _, ho, hno => ⟨ho, hno, Int.le_refl _, by simp [stepG, tot]⟩
  | row :: rows, L :: ls, x :: e, out, all, h1, h2, hr, hl, he, ho, hno => by
    obtain ⟨r1, r2, r3⟩ := hr row (by simp)
    obtain ⟨l1, l2⟩ := hl L (by simp)
    have hx := he x (by simp)
    obtain ⟨a1, a2⟩ := above_bd hx l1 l2
    rw [stepG]
    generalize above (x * L) = a at *
    have hk : 0 ≤ x - a := by omega
    obtain ⟨g1, g2, g3⟩ := gsum_bd hk r2
    rw [r3] at g2 g3
    have hlen : (addP (x - a) row out).length = n := by rw [addP_len, ho]
    have hi : imax row < (addP (x - a) row out).length := by rw [hlen, ← r1]; exact imax_lt (by omega)
    have hl1 : (addAt (addP (x - a) row out) (imax row) (x - a - gsum (x - a) row)).length = n := by rw [addAt_len, hlen]
    have hl2 : Nn (addAt (addP (x - a) row out) (imax row) (x - a - gsum (x - a) row)) := addAt_nn (by omega) (addP_nn hk r2 hno)
    have ih := stepG_ok hn (all := all + a) (by simpa using h1) (by simpa using h2) (fun r hr' => hr r (by simp [hr'])) (fun y hy => hl y (by simp [hy])) (fun y hy => he y (by simp [hy])) hl1 hl2
    refine ⟨ih.len, ih.nn, by have := ih.al; omega, ?_⟩
    rw [ih.sum, addAt_tot _ hi, addP_tot _ _ _ (by rw [r1, ho])]
    simp only [tot]
    omega
  | [], _ :: _, [], _, _, _, h, _, _, _, _, _ => by simp at h
  | _ :: _, _, [], _, _, h, _, _, _, _, _, _ => by simp at h
  | [], _, _ :: _, _, _, h, _, _, _, _, _, _ => by simp at h
  | _ :: _, [], _ :: _, _, _, _, h, _, _, _, _, _ => by simp at h
variable {rows : List (List Int)} {ls e : List Int}
theorem step_ok (h : ExOk n rows ls) (he : e.length = n) (hn : Nn e) : StepOk n e (zer e.length) 0 (step rows ls e) :=
  stepG_ok h.pos (by rw [h.rl, he]) (by rw [h.ll, he]) h.row h.lost hn (by unfold zer; rw [List.length_replicate, he]) (zer_nn _)
theorem step_sum (h : ExOk n rows ls) (he : e.length = n) (hn : Nn e) : tot (step rows ls e).1 + (step rows ls e).2 = tot e := by
  have := (step_ok h he hn).sum
  rw [tot_zer] at this
  omega
theorem step_nn (h : ExOk n rows ls) (he : e.length = n) (hn : Nn e) : 0 ≤ (step rows ls e).2 ∧ tot (step rows ls e).1 ≤ tot e := by
  have a := (step_ok h he hn).al
  have b := step_sum h he hn
  omega
theorem run_ok (h : ExOk n rows ls) : ∀ (k : Nat) {e : List Int}, e.length = n → Nn e → (run rows ls k e).1.length = n ∧ Nn (run rows ls k e).1 ∧ 0 ≤ (run rows ls k e).2 ∧ tot (run rows ls k e).1 + (run rows ls k e).2 = tot e
  | 0, e, he, hn => ⟨he, hn, Int.le_refl _, by simp [run]⟩
  | k + 1, e, he, hn => by
    have s := step_ok h he hn
    have t := step_sum h he hn
    have u := step_nn h he hn
    obtain ⟨r1, r2, r3, r4⟩ := run_ok h k s.len s.nn
    rw [run]
    exact ⟨r1, r2, by dsimp only; omega, by dsimp only; omega⟩
theorem run_add : ∀ (a b : Nat) (e : List Int), run rows ls (a + b) e = ((run rows ls b (run rows ls a e).1).1, (run rows ls a e).2 + (run rows ls b (run rows ls a e).1).2)
  | 0, b, e => by simp [run]
  | a + 1, b, e => by
    rw [show a + 1 + b = (a + b) + 1 by omega, run, run_add a b, run]
    dsimp only
    rw [Int.add_assoc]
theorem run_succ (k : Nat) (e : List Int) : run rows ls (k + 1) e = ((step rows ls (run rows ls k e).1).1, (run rows ls k e).2 + (step rows ls (run rows ls k e).1).2) := by
  rw [run_add k 1 e]
  simp [run]
end

/-! ### What is left is bounded -/
def bndS (least most : Int) (n : Nat) (r : Int × Int) : Int × Int := (max 0 (r.1 - r.1 * most / 1000 - n), r.2 - above (r.2 * least))
def bnd (least most : Int) (n : Nat) : Nat → Int × Int → Int × Int
  | 0, r => r
  | k + 1, r => bnd least most n k (bndS least most n r)
/-- What a step takes away. -/
def lostG : List Int → List Int → Int
  | L :: ls, x :: e => above (x * L) + lostG ls e
  | _, _ => 0
theorem stepG_all : ∀ {rows : List (List Int)} {ls e out : List Int} {all : Int}, rows.length = e.length → ls.length = e.length → (stepG rows ls e out all).2 = all + lostG ls e
  | [], [], [], out, all, _, _ => by simp [stepG, lostG]
  | row :: rows, L :: ls, x :: e, out, all, h1, h2 => by
    rw [stepG, stepG_all (by simpa using h1) (by simpa using h2), lostG]; omega
  | [], _ :: _, [], _, _, _, h => by simp at h
  | _ :: _, _, [], _, _, h, _ => by simp at h
  | [], _, _ :: _, _, _, h, _ => by simp at h
  | _ :: _, [], _ :: _, _, _, _, h => by simp at h
theorem lostG_bd {least most : Int} (h0 : 0 ≤ least) : ∀ {ls e : List Int}, ls.length = e.length → Nn e → (∀ x ∈ ls, least ≤ x ∧ x ≤ most) → tot e * least ≤ 1000 * lostG ls e ∧ 1000 * lostG ls e ≤ tot e * most + 999 * e.length
  | [], [], _, _, _ => by simp [lostG, tot]
  | L :: ls, x :: e, hl, hn, h => by
    obtain ⟨h1, h2⟩ := lostG_bd h0 (ls := ls) (e := e) (by simpa using hl) (fun y hy => hn y (by simp [hy])) fun y hy => h y (by simp [hy])
    obtain ⟨g1, g2⟩ := h L (by simp)
    have hx := hn x (by simp)
    have a1 : x * least ≤ x * L := Int.mul_le_mul_of_nonneg_left g1 hx
    have a2 : x * L ≤ x * most := Int.mul_le_mul_of_nonneg_left g2 hx
    simp only [lostG, tot, List.length_cons]
    rw [Int.add_mul, Int.add_mul]
    unfold above
    generalize x * L = p at *
    generalize x * least = q at *
    generalize x * most = r at *
    generalize tot e * least = u at *
    generalize tot e * most = v at *
    omega
  | [], _ :: _, h, _, _ => by simp at h
  | _ :: _, [], h, _, _ => by simp at h
/-- The bound of one step goes with the total. -/
theorem bndS_ok {least most : Int} {n : Nat} {r : Int × Int} {T A : Int} (h0 : 0 ≤ least) (h1 : least ≤ most) (h2 : most ≤ 1000) (hT : 0 ≤ T) (hlo : r.1 ≤ T) (hhi : T ≤ r.2) (hz : 0 ≤ r.1) (hA1 : T * least ≤ 1000 * A) (hA2 : 1000 * A ≤ T * most + 999 * n) (hA3 : A ≤ T) :
    (bndS least most n r).1 ≤ T - A ∧ T - A ≤ (bndS least most n r).2 ∧ 0 ≤ (bndS least most n r).1 := by
  have b1 : (r.2 - T) * least ≤ (r.2 - T) * 1000 := Int.mul_le_mul_of_nonneg_left (by omega) (by omega)
  have b2 : (T - r.1) * most ≤ (T - r.1) * 1000 := Int.mul_le_mul_of_nonneg_left h2 (by omega)
  rw [Int.sub_mul, Int.sub_mul] at b1 b2
  unfold bndS above
  dsimp only
  generalize r.2 * least = p at *
  generalize T * least = q at *
  generalize r.1 * most = u at *
  generalize T * most = v at *
  omega
theorem bnd_ok {n : Nat} {rows : List (List Int)} {ls : List Int} {least most : Int} (h : ExOk n rows ls) (h0 : 0 ≤ least) (h1 : least ≤ most) (h2 : most ≤ 1000) (hl : ∀ x ∈ ls, least ≤ x ∧ x ≤ most) : ∀ (k : Nat) {e : List Int} {r : Int × Int}, e.length = n → Nn e → r.1 ≤ tot e → tot e ≤ r.2 → 0 ≤ r.1 →
    (bnd least most n k r).1 ≤ tot (run rows ls k e).1 ∧ tot (run rows ls k e).1 ≤ (bnd least most n k r).2
  | 0, e, r, _, _, a, b, _ => ⟨a, b⟩
  | k + 1, e, r, he, hn, a, b, c => by
    have s := step_ok h he hn
    have t := step_sum h he hn
    have u := step_nn h he hn
    have hall : (step rows ls e).2 = lostG ls e := by
      unfold step
      rw [stepG_all (by rw [h.rl, he]) (by rw [h.ll, he])]; omega
    obtain ⟨l1, l2⟩ := lostG_bd h0 (ls := ls) (e := e) (by rw [h.ll, he]) hn hl
    rw [he] at l2
    have hle : lostG ls e ≤ tot e := by have := tot_nn s.nn; omega
    obtain ⟨q1, q2, q3⟩ := bndS_ok (n := n) h0 h1 h2 (tot_nn hn) a b c l1 l2 hle
    rw [bnd, run]
    exact bnd_ok h h0 h1 h2 hl k s.len s.nn (by omega) (by omega) q3

/-! ### The least number of steps -/
/-- So much is left, or less. -/
theorem parts_iff {now total m : Int} (h0 : 0 ≤ m) (ht : 0 ≤ total) : now * 1000000 ≤ m * total ↔ now ≤ total / 1000000 * m + total % 1000000 * m / 1000000 := by
  have e := Int.mul_ediv_add_emod total 1000000
  have : m * total = 1000000 * (total / 1000000 * m) + total % 1000000 * m := by
    conv => lhs; rw [← e]
    rw [Int.mul_add, Int.mul_comm m (total % 1000000), Int.mul_comm (total / 1000000) m, ← Int.mul_assoc, ← Int.mul_assoc, Int.mul_comm m 1000000]
  rw [this]
  generalize total / 1000000 * m = a
  generalize total % 1000000 * m = b
  omega
end Go.En
namespace Go.En

/-! ### Plain law: reciprocal exchanges -/
def nth (l : List Int) (i : Nat) : Int := l.getD i 0
theorem nth_cons_zero (x : Int) (l : List Int) : nth (x :: l) 0 = x := rfl
theorem nth_cons_succ (x : Int) (l : List Int) (i : Nat) : nth (x :: l) (i + 1) = nth l i := rfl
theorem nth_get {l : List Int} {i : Nat} (h : i < l.length) : nth l i = l[i] := by
  unfold nth
  rw [List.getD_eq_getElem?_getD, List.getElem?_eq_getElem h]; rfl
theorem nth_zer (n i : Nat) : nth (zer n) i = 0 := by
  unfold nth zer
  rw [List.getD_eq_getElem?_getD, List.getElem?_replicate]
  split <;> rfl
theorem nth_addP (kept : Int) : ∀ (row out : List Int) (i : Nat), row.length = out.length → i < out.length → nth (addP kept row out) i = nth out i + kept * nth row i / 1000
  | s :: row, o :: out, 0, _, _ => rfl
  | s :: row, o :: out, i + 1, h, hi => by
    simp only [addP, nth_cons_succ]
    exact nth_addP kept row out i (by simpa using h) (by simpa using hi)
  | [], [], _, _, hi => by simp at hi
  | [], _ :: _, _, h, _ => by simp at h
  | _ :: _, [], _, h, _ => by simp at h
theorem nth_addAt (x : Int) : ∀ (l : List Int) (j i : Nat), i < l.length → nth (addAt l j x) i = nth l i + if i = j then x else 0
  | [], _, _, h => by simp at h
  | o :: l, 0, 0, _ => rfl
  | o :: l, 0, i + 1, _ => by
    rw [if_neg (by omega)]
    simp only [addAt, nth_cons_succ]; omega
  | o :: l, j + 1, 0, _ => by
    rw [if_neg (by omega)]
    simp only [addAt, nth_cons_zero]; omega
  | o :: l, j + 1, i + 1, h => by
    simp only [addAt, nth_cons_succ]
    rw [nth_addAt x l j i (by simpa using h)]
    by_cases e : i = j
    · rw [if_pos e, if_pos (by omega)]
    · rw [if_neg e, if_neg (by omega)]
def col (i : Nat) : List (List Int) → List Int → Int
  | row :: rows, x :: e => x * nth row i + col i rows e
  | _, _ => 0
theorem stepG_col {n : Nat} (hn : 0 < n) : ∀ {rows : List (List Int)} {ls e out : List Int} {all : Int}, rows.length = e.length → ls.length = e.length → (∀ r ∈ rows, r.length = n ∧ (∀ s ∈ r, 0 ≤ s ∧ s ≤ 1000) ∧ tot r = 1000) → (∀ x ∈ ls, x = 0) → Nn e → out.length = n → ∀ i, i < n →
    col i rows e - 999 * rows.length ≤ 1000 * (nth (stepG rows ls e out all).1 i - nth out i) ∧ 1000 * (nth (stepG rows ls e out all).1 i - nth out i) ≤ col i rows e + 999 * n * rows.length
  | [], [], [], out, all, _, _, _, _, _, _, i, _ => by simp [stepG, col]
  | row :: rows, L :: ls, x :: e, out, all, h1, h2, hr, hl, he, ho, i, hi => by
    obtain ⟨r1, r2, r3⟩ := hr row (by simp)
    have hL : L = 0 := hl L (by simp)
    subst hL
    have hx := he x (by simp)
    have ha : above (x * 0) = 0 := by unfold above; omega
    rw [stepG, ha, Int.sub_zero]
    obtain ⟨g1, g2, g3⟩ := gsum_bd hx r2
    rw [r3] at g2 g3
    have hlen : (addP x row out).length = n := by rw [addP_len, ho]
    have hl1 : (addAt (addP x row out) (imax row) (x - gsum x row)).length = n := by rw [addAt_len, hlen]
    have ih := stepG_col hn (rows := rows) (ls := ls) (e := e) (all := all + 0) (by simpa using h1) (by simpa using h2) (fun r hr' => hr r (by simp [hr'])) (fun y hy => hl y (by simp [hy])) (fun y hy => he y (by simp [hy])) hl1 i hi
    have q := nth_addAt (x - gsum x row) (addP x row out) (imax row) i (by omega)
    have q2 := nth_addP x row out i (by rw [r1, ho]) (by omega)
    rw [q, q2] at ih
    simp only [col, List.length_cons]
    generalize x * nth row i = p at *
    rw [r1] at g3
    have e1 : 999 * (n : Int) * ((rows.length + 1 : Nat) : Int) = 999 * (n : Int) * (rows.length : Int) + 999 * n := by
      rw [Int.natCast_add, Int.mul_add]; simp
    rw [e1]
    generalize 999 * (n : Int) * (rows.length : Int) = z at *
    split at ih <;> omega
  | [], _ :: _, [], _, _, _, h, _, _, _, _, _, _ => by simp at h
  | _ :: _, _, [], _, _, h, _, _, _, _, _, _, _ => by simp at h
  | [], _, _ :: _, _, _, h, _, _, _, _, _, _, _ => by simp at h
  | _ :: _, [], _ :: _, _, _, _, h, _, _, _, _, _, _ => by simp at h
theorem col_eq {a : Int} {i : Nat} : ∀ {rows : List (List Int)} {e r : List Int}, rows.length = e.length → r.length = e.length → (∀ j (h1 : j < rows.length) (h2 : j < e.length) (h3 : j < r.length), e[j] * nth rows[j] i = a * r[j]) → col i rows e = a * tot r
  | [], [], [], _, _, _ => by simp [col, tot]
  | row :: rows, x :: e, s :: r, h1, h2, h => by
    have h0 := h 0 (by simp) (by simp) (by simp)
    simp only [List.getElem_cons_zero] at h0
    rw [col, tot, Int.mul_add, h0, col_eq (rows := rows) (e := e) (r := r) (by simpa using h1) (by simpa using h2)]
    intro j g1 g2 g3
    have := h (j + 1) (by simpa using g1) (by simpa using g2) (by simpa using g3)
    simpa using this
  | [], [], _ :: _, _, g, _ => by simp at g
  | [], _ :: _, _, h, _, _ => by simp at h
  | _ :: _, [], _, h, _, _ => by simp at h
  | _ :: _, _ :: _, [], _, h, _ => by simp at h
/-- Reciprocal with areas. -/
def Rec (rows : List (List Int)) (a : List Int) : Prop := ∀ i k (hi : i < rows.length) (hk : k < rows.length), nth a i * nth rows[i] k = nth a k * nth rows[k] i
theorem rec_step {n : Nat} {rows : List (List Int)} {ls a : List Int} (h : ExOk n rows ls) (hz : ∀ x ∈ ls, x = 0) (ha : a.length = n) (hn : Nn a) (hr : Rec rows a) {i : Nat} (hi : i < n) :
    nth a i - n * n ≤ nth (step rows ls a).1 i ∧ nth (step rows ls a).1 i ≤ nth a i + n * n := by
  have hri : i < rows.length := by rw [h.rl]; exact hi
  obtain ⟨r1, r2, r3⟩ := h.row rows[i] (List.getElem_mem hri)
  have hc : col i rows a = nth a i * tot rows[i] := col_eq (by rw [h.rl, ha]) (by rw [r1, ha]) fun j g1 g2 g3 => by
    rw [← nth_get g2, ← nth_get g3]
    exact (hr i j hri g1).symm
  rw [r3] at hc
  have hs := stepG_col h.pos (rows := rows) (ls := ls) (e := a) (out := zer a.length) (all := 0) (by rw [h.rl, ha]) (by rw [h.ll, ha]) h.row hz hn (by unfold zer; rw [List.length_replicate, ha]) i hi
  rw [nth_zer, hc, h.rl] at hs
  have hnn : (n : Int) ≤ n * n := by
    have : (1 : Int) * n ≤ n * n := Int.mul_le_mul_of_nonneg_right (by have := h.pos; omega) (by omega)
    omega
  have e1 : 999 * (n : Int) * (n : Int) = 999 * ((n : Int) * n) := Int.mul_assoc _ _ _
  rw [e1] at hs
  unfold step
  generalize (n : Int) * n = z at *
  omega
theorem step_lost0 {n : Nat} {rows : List (List Int)} {ls a : List Int} (h : ExOk n rows ls) (hz : ∀ x ∈ ls, x = 0) (ha : a.length = n) : (step rows ls a).2 = 0 := by
  unfold step
  rw [stepG_all (by rw [h.rl, ha]) (by rw [h.ll, ha])]
  have : ∀ (ls e : List Int), (∀ x ∈ ls, x = 0) → lostG ls e = 0 := by
    intro ls
    induction ls with
    | nil => intro e _; cases e <;> rfl
    | cons L ls ih =>
      intro e hz
      cases e with
      | nil => rfl
      | cons x e =>
        have hL : L = 0 := hz L (by simp)
        subst hL
        rw [lostG, ih e fun y hy => hz y (by simp [hy])]
        unfold above; omega
  rw [this ls a hz]; rfl

/-! ### Plain law: what has arrived -/
structure Ech where
  su : List Int
  dl : Int
  dh : Int
  el : Int
  eh : Int
structure Ech.ok (x : Ech) : Prop where
  d : 0 ≤ x.dl ∧ x.dl ≤ x.dh
  e : 0 ≤ x.el ∧ x.el ≤ x.eh
def upLo (t : Int) : List Ech → Int
  | [] => 0
  | x :: l => (if x.dh ≤ t then x.el else 0) + upLo t l
def upHi (t : Int) : List Ech → Int
  | [] => 0
  | x :: l => (if x.dl ≤ t then x.eh else 0) + upHi t l
def sumLo : List Ech → Int
  | [] => 0
  | x :: l => x.el + sumLo l
def sumHi : List Ech → Int
  | [] => 0
  | x :: l => x.eh + sumHi l
theorem upLo_mono {s t : Int} (h : s ≤ t) : ∀ {l : List Ech}, (∀ x ∈ l, x.ok) → upLo s l ≤ upLo t l
  | [], _ => by simp [upLo]
  | x :: l, hx => by
    have ih := upLo_mono h (l := l) fun y hy => hx y (by simp [hy])
    have h0 := (hx x (by simp)).e
    simp only [upLo]
    split <;> split <;> omega
theorem upHi_mono {s t : Int} (h : s ≤ t) : ∀ {l : List Ech}, (∀ x ∈ l, x.ok) → upHi s l ≤ upHi t l
  | [], _ => by simp [upHi]
  | x :: l, hx => by
    have ih := upHi_mono h (l := l) fun y hy => hx y (by simp [hy])
    have h0 := (hx x (by simp)).e
    simp only [upHi]
    split <;> split <;> omega
theorem upLo_le {t : Int} : ∀ {l : List Ech}, (∀ x ∈ l, x.ok) → upLo t l ≤ upHi t l
  | [], _ => by simp [upLo, upHi]
  | x :: l, hx => by
    have ih := upLo_le (t := t) (l := l) fun y hy => hx y (by simp [hy])
    have h0 := (hx x (by simp)).e
    have h1 := (hx x (by simp)).d
    simp only [upLo, upHi]
    split <;> split <;> omega
theorem upLo_all {t : Int} : ∀ {l : List Ech}, (∀ x ∈ l, x.dh ≤ t) → upLo t l = sumLo l
  | [], _ => rfl
  | x :: l, h => by
    rw [upLo, sumLo, if_pos (h x (by simp)), upLo_all fun y hy => h y (by simp [hy])]
theorem upHi_all {t : Int} : ∀ {l : List Ech}, (∀ x ∈ l, x.dl ≤ t) → upHi t l = sumHi l
  | [], _ => rfl
  | x :: l, h => by
    rw [upHi, sumHi, if_pos (h x (by simp)), upHi_all fun y hy => h y (by simp [hy])]
theorem sumLo_nn : ∀ {l : List Ech}, (∀ x ∈ l, x.ok) → 0 ≤ sumLo l
  | [], _ => by simp [sumLo]
  | x :: l, h => by
    have ih := sumLo_nn (l := l) fun y hy => h y (by simp [hy])
    have h0 := (h x (by simp)).e
    simp only [sumLo]; omega
/-- The burst that begins with an echo. -/
def ownN (w d : Int) : List Ech → Int
  | [] => 0
  | y :: l => (if y.dh - d ≤ w then 1 else 0) + ownN w d l
def ownE (w d : Int) : List Ech → Int
  | [] => 0
  | y :: l => (if y.dh - d ≤ w then y.el else 0) + ownE w d l
theorem ownE_mono {v w d : Int} (h : v ≤ w) : ∀ {l : List Ech}, (∀ x ∈ l, x.ok) → ownE v d l ≤ ownE w d l
  | [], _ => by simp [ownE]
  | x :: l, hx => by
    have ih := ownE_mono h (d := d) (l := l) fun y hy => hx y (by simp [hy])
    have h0 := (hx x (by simp)).e
    simp only [ownE]
    split <;> split <;> omega
theorem ownE_le {w d : Int} : ∀ {l : List Ech}, (∀ x ∈ l, x.ok) → 0 ≤ ownE w d l ∧ ownE w d l ≤ sumLo l
  | [], _ => by simp [ownE, sumLo]
  | x :: l, hx => by
    have ih := ownE_le (w := w) (d := d) (l := l) fun y hy => hx y (by simp [hy])
    have h0 := (hx x (by simp)).e
    simp only [ownE, sumLo]
    split <;> omega
/-- The best burst: first, count, energy. -/
def bestG (w : Int) : Int → List Ech → Int × Int × Int → Int × Int × Int
  | _, [], b => b
  | i, x :: l, b => bestG w (i + 1) l (if b.2.2 < ownE w x.dl (x :: l) then (i, ownN w x.dl (x :: l), ownE w x.dl (x :: l)) else b)
theorem bestG_mono {v w : Int} (h : v ≤ w) : ∀ {l : List Ech} {i : Int} {a b : Int × Int × Int}, (∀ x ∈ l, x.ok) → a.2.2 ≤ b.2.2 → (bestG v i l a).2.2 ≤ (bestG w i l b).2.2
  | [], _, _, _, _, hab => hab
  | x :: l, i, a, b, hx, hab => by
    rw [bestG, bestG]
    have ho := ownE_mono h (d := x.dl) hx
    refine bestG_mono h (fun y hy => hx y (by simp [hy])) ?_
    split <;> split <;> (try dsimp only) <;> omega
theorem bestG_le {w s : Int} : ∀ {l : List Ech} {i : Int} {a : Int × Int × Int}, (∀ x ∈ l, x.ok) → sumLo l ≤ s → a.2.2 ≤ s → (bestG w i l a).2.2 ≤ s
  | [], _, _, _, _, ha => ha
  | x :: l, i, a, hx, hs, ha => by
    rw [bestG]
    have ho := (ownE_le (w := w) (d := x.dl) hx).2
    have h0 := (hx x (by simp)).e
    refine bestG_le (fun y hy => hx y (by simp [hy])) (by simp only [sumLo] at hs; omega) ?_
    split <;> (try dsimp only) <;> omega
end Go.En
namespace Go.En

/-! ### Plain law: which echoes are right -/
def rgE (lo hi most : Int) : Int := if (0 ≤ lo ∧ lo ≤ most) ∧ (0 ≤ hi ∧ hi ≤ most) then (if hi < lo then 9 else 0) else 2
def ecE (p : Option Int) (x : Ech) : Int :=
  if rgE x.dl x.dh 10000000 = 0 then (if rgE x.el x.eh 1000000000000 = 0 then (match p with
    | some q => if x.dl < q then 9 else 0
    | none => 0) else rgE x.el x.eh 1000000000000) else rgE x.dl x.dh 10000000
/-- The number of the first wrong echo, and its error. -/
def ecGo : Nat → Option Int → List Ech → Int × Int
  | _, _, [] => (0, 0)
  | i, p, x :: l => if ecE p x = 0 then ecGo (i + 1) (some x.dl) l else (i, ecE p x)
def ecV (l : List Ech) : Int × Int := if 500 < l.length then (0, 8) else ecGo 0 none l
theorem rgE_zero {lo hi most : Int} (h : rgE lo hi most = 0) : 0 ≤ lo ∧ lo ≤ hi ∧ hi ≤ most := by
  unfold rgE at h
  split at h
  · rename_i g
    split at h
    · cases h
    · omega
  · cases h
theorem ecE_zero {p : Option Int} {x : Ech} (h : ecE p x = 0) : x.ok ∧ x.dh ≤ 10000000 ∧ x.eh ≤ 1000000000000 := by
  unfold ecE at h
  split at h
  · rename_i h1
    split at h
    · rename_i h2
      have a := rgE_zero h1
      have b := rgE_zero h2
      exact ⟨⟨by omega, by omega⟩, by omega, by omega⟩
    · rename_i h2; exact absurd h h2
  · rename_i h1; exact absurd h h1
theorem ecGo_zero : ∀ {l : List Ech} {i : Nat} {p : Option Int}, (ecGo i p l).2 = 0 → ∀ x ∈ l, x.ok ∧ x.dh ≤ 10000000 ∧ x.eh ≤ 1000000000000
  | [], _, _, _, x, hx => by simp at hx
  | y :: l, i, p, h, x, hx => by
    rw [ecGo] at h
    split at h
    · rename_i h1
      rcases List.mem_cons.1 hx with rfl | hx
      · exact ecE_zero h1
      · exact ecGo_zero h x hx
    · rename_i h1; exact absurd h h1
theorem ecV_zero {l : List Ech} (h : (ecV l).2 = 0) : l.length ≤ 500 ∧ ∀ x ∈ l, x.ok ∧ x.dh ≤ 10000000 ∧ x.eh ≤ 1000000000000 := by
  unfold ecV at h
  split at h
  · cases h
  · exact ⟨by omega, ecGo_zero h⟩
theorem upLo_bd {t : Int} : ∀ {l : List Ech}, (∀ x ∈ l, x.ok ∧ x.dh ≤ 10000000 ∧ x.eh ≤ 1000000000000) → 0 ≤ upLo t l ∧ upLo t l ≤ 1000000000000 * l.length
  | [], _ => by simp [upLo]
  | x :: l, h => by
    have ih := upLo_bd (t := t) (l := l) fun y hy => h y (by simp [hy])
    obtain ⟨h1, h2, h3⟩ := h x (by simp)
    have := h1.e
    simp only [upLo, List.length_cons]
    split <;> omega
theorem upHi_bd {t : Int} : ∀ {l : List Ech}, (∀ x ∈ l, x.ok ∧ x.dh ≤ 10000000 ∧ x.eh ≤ 1000000000000) → 0 ≤ upHi t l ∧ upHi t l ≤ 1000000000000 * l.length
  | [], _ => by simp [upHi]
  | x :: l, h => by
    have ih := upHi_bd (t := t) (l := l) fun y hy => h y (by simp [hy])
    obtain ⟨h1, h2, h3⟩ := h x (by simp)
    have := h1.e
    simp only [upHi, List.length_cons]
    split <;> omega
theorem ownE_bd {w d : Int} : ∀ {l : List Ech}, (∀ x ∈ l, x.ok ∧ x.dh ≤ 10000000 ∧ x.eh ≤ 1000000000000) → 0 ≤ ownE w d l ∧ ownE w d l ≤ 1000000000000 * l.length
  | [], _ => by simp [ownE]
  | x :: l, h => by
    have ih := ownE_bd (w := w) (d := d) (l := l) fun y hy => h y (by simp [hy])
    obtain ⟨h1, h2, h3⟩ := h x (by simp)
    have := h1.e
    simp only [ownE, List.length_cons]
    split <;> omega
theorem ownN_bd {w d : Int} : ∀ {l : List Ech}, 0 ≤ ownN w d l ∧ ownN w d l ≤ l.length
  | [] => by simp [ownN]
  | x :: l => by
    have ih := ownN_bd (w := w) (d := d) (l := l)
    simp only [ownN, List.length_cons]
    split <;> omega

/-! ### Which exchanges are right -/
def shr (n : Int) : Bool := decide (0 ≤ n) && decide (n ≤ 1000)
def rowE (n : Nat) (row : List Int) (l : Int) : Int := if row.length = n then (if row.all shr then (if tot row = 1000 then (if shr l then 0 else 2) else 21) else 2) else 10
def exGo (n : Nat) : Nat → List (List Int) → List Int → Int × Int
  | i, row :: rows, l :: ls => if rowE n row l = 0 then exGo n (i + 1) rows ls else (i, rowE n row l)
  | _, _, _ => (0, 0)
def exV (rows : List (List Int)) (ls : List Int) : Int × Int := if rows.length = 0 then (0, 10) else if 12 < rows.length then (0, 8) else if ls.length = rows.length then exGo rows.length 0 rows ls else (0, 10)
theorem shr_iff {n : Int} : shr n = true ↔ 0 ≤ n ∧ n ≤ 1000 := by simp [shr]
theorem rowE_zero {n : Nat} {row : List Int} {l : Int} (h : rowE n row l = 0) : (row.length = n ∧ (∀ s ∈ row, 0 ≤ s ∧ s ≤ 1000) ∧ tot row = 1000) ∧ 0 ≤ l ∧ l ≤ 1000 := by
  unfold rowE at h
  split at h
  · rename_i h1
    split at h
    · rename_i h2
      split at h
      · rename_i h3
        split at h
        · rename_i h4
          rw [List.all_eq_true] at h2
          exact ⟨⟨h1, fun s hs => shr_iff.1 (h2 s hs), h3⟩, shr_iff.1 h4⟩
        · cases h
      · cases h
    · cases h
  · cases h
theorem exGo_zero {n : Nat} : ∀ {rows : List (List Int)} {ls : List Int} {i : Nat}, ls.length = rows.length → (exGo n i rows ls).2 = 0 → (∀ r ∈ rows, r.length = n ∧ (∀ s ∈ r, 0 ≤ s ∧ s ≤ 1000) ∧ tot r = 1000) ∧ (∀ x ∈ ls, 0 ≤ x ∧ x ≤ 1000)
  | [], [], _, _, _ => ⟨by simp, by simp⟩
  | row :: rows, l :: ls, i, hl, h => by
    rw [exGo] at h
    split at h
    · rename_i h1
      obtain ⟨g1, g2⟩ := rowE_zero h1
      obtain ⟨k1, k2⟩ := exGo_zero (i := i + 1) (by simpa using hl) h
      exact ⟨fun r hr => by rcases List.mem_cons.1 hr with rfl | hr; exact g1; exact k1 r hr, fun x hx => by rcases List.mem_cons.1 hx with rfl | hx; exact g2; exact k2 x hx⟩
    · rename_i h1; exact absurd h h1
  | [], _ :: _, _, hl, _ => by simp at hl
  | _ :: _, [], _, hl, _ => by simp at hl
theorem exV_zero {rows : List (List Int)} {ls : List Int} (h : (exV rows ls).2 = 0) : ExOk rows.length rows ls ∧ rows.length ≤ 12 := by
  unfold exV at h
  split at h
  · cases h
  · rename_i h1
    split at h
    · cases h
    · rename_i h2
      split at h
      · rename_i h3
        obtain ⟨g1, g2⟩ := exGo_zero h3 h
        exact ⟨⟨by omega, rfl, h3, g1, g2⟩, by omega⟩
      · cases h
def enE (n : Nat) (e : List Int) : Int := if e.length = n then (if e.all fun x => decide (0 ≤ x) && decide (x ≤ 1000000000000) then 0 else 2) else 10
theorem enE_zero {n : Nat} {e : List Int} (h : enE n e = 0) : e.length = n ∧ ∀ x ∈ e, 0 ≤ x ∧ x ≤ 1000000000000 := by
  unfold enE at h
  split at h
  · rename_i h1
    split at h
    · rename_i h2
      rw [List.all_eq_true] at h2
      exact ⟨h1, fun x hx => by have := h2 x hx; simp only [Bool.and_eq_true, decide_eq_true_eq] at this; exact this⟩
    · cases h
  · cases h
theorem tot_bd {M : Int} : ∀ {l : List Int}, (∀ x ∈ l, 0 ≤ x ∧ x ≤ M) → 0 ≤ tot l ∧ tot l ≤ M * l.length
  | [], _ => by simp [tot]
  | x :: l, h => by
    have ih := tot_bd (l := l) fun y hy => h y (by simp [hy])
    have h0 := h x (by simp)
    simp only [tot, List.length_cons]
    rw [show M * ((l.length + 1 : Nat) : Int) = M * l.length + M by rw [Int.natCast_add, Int.mul_add]; simp]
    omega
end Go.En
namespace Go.Proofs.YtddhjopopelkjaaGreat
open Go Go.Sx
def ins (f0 : FuncId) (r : List AV → Option PRes) (pt : PC) : PC := fun f a => cond (Nat.beq f f0) (r a) (pt f a)
theorem ins_ok {f0 : FuncId} {r : List AV → Option PRes} {pt : PC} (h0 : ∀ a res, r a = some res → PCall Tryz.prog f0 a res) (h : PCOK Tryz.prog pt) : PCOK Tryz.prog (ins f0 r pt) := by
  intro f a res hr
  unfold ins at hr
  cases hb : Nat.beq f f0 with
  | true => rw [hb] at hr; rw [Nat.eq_of_beq_eq_true hb]; exact h0 a res hr
  | false => rw [hb] at hr; exact h f a res hr

abbrev Bo (b : Bool) : AV := .bool b
abbrev P2 (x y : Int) : AV := .agg [I x, I y]
abbrev P3 (x y z : Int) : AV := .agg [I x, I y, I z]
abbrev P4 (x y z d : Int) : AV := .agg [I x, I y, I z, I d]

def within (n lo hi : Int) : Bool := decide (lo ≤ n) && decide (n ≤ hi)
theorem c30 (n lo hi : Int) : PCall Tryz.prog 38 [I n, I lo, I hi] ⟨Bo (within n lo hi), []⟩ := by
  refine bs.pcall (sx := nos) pt0_ok Tryz.func38 (by kernel_rfl) (by kernel_rfl) rfl ?_
  refine Br.intro (fun h => ?_) (fun h => ?_)
  · exact exports_bool (by simp [within, h])
  · exact exports_bool (by simp [within, h])
theorem W_eq {n : Int} (h1 : -9223372036854775808 ≤ n) (h2 : n ≤ 9223372036854775807) : IntKind.i64.wrap n = n := IntWalk.i64_in _ ⟨h1, by omega⟩
theorem within_iff {n lo hi : Int} : within n lo hi = true ↔ lo ≤ n ∧ n ≤ hi := by simp [within]
theorem within_not {n lo hi : Int} : within n lo hi = false ↔ n < lo ∨ hi < n := by simp [within]; omega

/-- One contract alone. -/
noncomputable def one (a0 : List AV) (r : PRes) (a : List AV) : Option PRes := by
  classical exact if a = a0 then some r else none
theorem one_hit (a : List AV) (r : PRes) : one a r a = some r := by unfold one; simp
theorem one_ok {f0 : FuncId} {a0 : List AV} {r : PRes} {pt : PC} (h0 : PCall Tryz.prog f0 a0 r) (h : PCOK Tryz.prog pt) : PCOK Tryz.prog (ins f0 (one a0 r) pt) := by
  refine ins_ok (fun a res hr => ?_) h
  unfold one at hr
  split at hr
  · rename_i e; cases hr; rw [e]; exact h0
  · cases hr

noncomputable def fam (g : Nat → List AV) (r : Nat → PRes) (n : Nat) (a : List AV) : Option PRes := by
  classical exact if hx : ∃ k, k < n ∧ a = g k then some (r (Classical.choose hx)) else none
theorem fam_hit {g : Nat → List AV} {r : Nat → PRes} {n k : Nat} (hi : ∀ j, g j = g k → r j = r k) (hk : k < n) : fam g r n (g k) = some (r k) := by
  classical
  unfold fam
  have hx : ∃ j, j < n ∧ g k = g j := ⟨k, hk, rfl⟩
  rw [dif_pos hx, hi _ (Classical.choose_spec hx).2.symm]
theorem fam_ok {f0 : FuncId} {g : Nat → List AV} {r : Nat → PRes} {n : Nat} {pt : PC} (h0 : ∀ k, k < n → PCall Tryz.prog f0 (g k) (r k)) (h : PCOK Tryz.prog pt) : PCOK Tryz.prog (ins f0 (fam g r n) pt) := by
  classical
  refine ins_ok (fun a res hr => ?_) h
  unfold fam at hr
  split at hr
  · rename_i hx
    obtain ⟨h1, h2⟩ := Classical.choose_spec hx
    cases hr
    have := h0 _ h1
    rw [← h2] at this
    exact this
  · cases hr
noncomputable def famA {α : Type} (p : α → Prop) (g : α → List AV) (r : α → PRes) (a : List AV) : Option PRes := by
  classical exact if hx : ∃ k, p k ∧ a = g k then some (r (Classical.choose hx)) else none
theorem famA_hit {α : Type} {p : α → Prop} {g : α → List AV} {r : α → PRes} {k : α} (hi : ∀ j, g j = g k → r j = r k) (hk : p k) : famA p g r (g k) = some (r k) := by
  classical
  unfold famA
  have hx : ∃ j, p j ∧ g k = g j := ⟨k, hk, rfl⟩
  rw [dif_pos hx, hi _ (Classical.choose_spec hx).2.symm]
theorem famA_ok {f0 : FuncId} {α : Type} {p : α → Prop} {g : α → List AV} {r : α → PRes} {pt : PC} (h0 : ∀ k, p k → PCall Tryz.prog f0 (g k) (r k)) (h : PCOK Tryz.prog pt) : PCOK Tryz.prog (ins f0 (famA p g r) pt) := by
  classical
  refine ins_ok (fun a res hr => ?_) h
  unfold famA at hr
  split at hr
  · rename_i hx
    obtain ⟨h1, h2⟩ := Classical.choose_spec hx
    cases hr
    have := h0 _ h1
    rw [← h2] at this
    exact this
  · cases hr
/-- A list of numbers, as it lies. -/
def nl (ns : List Int) : List (List AV) := ns.map fun n => [I n]
theorem nl_length (ns : List Int) : (nl ns).length = ns.length := by simp [nl]
theorem nl_get {ns : List Int} {k : Nat} (h : k < ns.length) : (nl ns)[((k : Nat) : Int).toNat]? = some [I ns[k]] := by simp [nl, h]
theorem W_succ {k : Nat} (h : k < 9000000000) : IntKind.i64.wrap ((k : Int) + 1) = ((k + 1 : Nat) : Int) := W_eq (by omega) (by omega)

def hasN (ns : List Int) (n : Int) : Bool := ns.any fun m => decide (m = n)
theorem hasN_cons (m : Int) (ns : List Int) (n : Int) : hasN (m :: ns) n = (decide (m = n) || hasN ns n) := rfl
set_option maxHeartbeats 400000 in
theorem c26 {ns : List Int} (hl : ns.length < 1000000) (n : Int) : PCall Tryz.prog 74 [.isl 1 (nl ns), I n] ⟨Bo (hasN ns n), []⟩ := by
  refine bs.pv (sx := nos) pt0_ok Tryz.func74 (by kernel_rfl) (by kernel_rfl) rfl ?_
  conv => whnf
  refine loopV (S := Nat × Int) (fun s => ns.length - s.1) (fun s => [(0, .isl 1 (nl ns)), (1, I n), (5, I s.2)]) (fun _ => []) 0 0 (fun s => s.2 = s.1 ∧ s.1 ≤ ns.length ∧ hasN (ns.drop s.1) n = hasN ns n) (0, 0) ?_ (Nat.le_refl _) [] rfl ?_ ?_ ?_
  · exact ⟨rfl, Nat.zero_le _, rfl⟩
  · repeat' (first | exact trivial | refine And.intro ?_ ?_ | exact rfl)
  · repeat' (first | exact trivial | refine And.intro ?_ ?_ | exact rfl)
  · rintro ⟨k, i⟩ ⟨hi, hk, hh⟩
    dsimp only at hi hk hh ⊢
    subst hi
    refine bs.av (sx := nos) pt0_ok ?_
    have e3 := nl_length ns
    by_cases hlt : k < ns.length
    · have e1 := nl_get hlt
      rw [List.drop_eq_getElem_cons hlt, hasN_cons] at hh
      repeat' ((conv => whnf); (fail_if_success with_reducible refine Ret.mk ?_); (fail_if_success with_reducible refine Done.mk ?_); first | with_reducible refine And.intro (by kernel_rfl) ?_ | refine Br.yes (decide_eq_true (by omega)) ?_ | refine Br.no (decide_eq_false (by omega)) ?_ | refine Br.intro (fun hb => ?_) (fun hb => ?_) | refine Got.intro (by assumption) ?_)
      · refine ret_bool ?_
        rw [hb] at hh; exact hh
      · exact Done.mk ⟨(k + 1, _), [], rfl, kps, trivial, ⟨W_succ (by omega), hlt, by rw [hb] at hh; exact hh⟩, by dsimp only; omega⟩
    · repeat' ((conv => whnf); (fail_if_success with_reducible refine Ret.mk ?_); (fail_if_success with_reducible refine Done.mk ?_); first | with_reducible refine And.intro (by kernel_rfl) ?_ | refine Br.yes (decide_eq_true (by omega)) ?_ | refine Br.no (decide_eq_false (by omega)) ?_ | refine Br.intro (fun hb => ?_) (fun hb => ?_) | refine Got.intro (by assumption) ?_)
      refine ret_bool ?_
      rw [← hh, List.drop_of_length_le (by omega)]; rfl
theorem oneEls_nl (ns : List Int) : oneEls (nl ns) = true := by simp [oneEls, nl, AV.one]
theorem c25 (ns : List Int) (hl : ns.length < 100000) : PCall Tryz.prog 30 [.isl 1 (nl ns)] ⟨.asl 0 0 (nl ns).length, [(1, nl ns)]⟩ := by
  have h1 := oneEls_nl ns
  have h2 := nl_length ns
  refine bs.pv (sx := nos) pt0_ok Tryz.func30 (by kernel_rfl) (by kernel_rfl) rfl ?_
  repeat' (first | refine wk0 ?_ | (refine wk2 ?_ ?_ <;> intro _) | refine wk4 ?_ | fail); all_goals (conv => whnf)
  refine ret_rows [1] rfl ?_ rfl
  show AV.asl 1 0 (0 + (nl ns).length) = AV.asl 1 0 (nl ns).length
  rw [Nat.zero_add]
theorem c25f (ns : List Int) (hl : ns.length < 100000) : PCall Tryz.prog 30 [.isl 1 (nl ns)] ⟨.isl 1 (nl ns), []⟩ := (c25 ns hl).freeze ⟨rfl, rfl, rfl⟩
/-- Copies of lists of numbers, as trees. -/
noncomputable abbrev cints : List AV → Option PRes := famA (fun ns : List Int => ns.length < 100000) (fun ns => [.isl 1 (nl ns)]) (fun ns => ⟨.isl 1 (nl ns), []⟩)
theorem nl_inj {a b : List Int} (h : nl a = nl b) : a = b := by
  unfold nl at h
  exact List.map_inj_right (fun x y hxy => by simpa using hxy) |>.1 h
theorem cints_hit {ns : List Int} (h : ns.length < 100000) : cints [.isl 1 (nl ns)] = some ⟨.isl 1 (nl ns), []⟩ :=
  famA_hit (p := fun ns : List Int => ns.length < 100000) (g := fun ns => [.isl 1 (nl ns)]) (r := fun ns => ⟨.isl 1 (nl ns), []⟩) (fun j hj => by
    simp only [List.cons.injEq, AV.isl.injEq, true_and, and_true] at hj
    rw [hj]) h
/-- A list that grows: its name, and how it lies. -/
def gv (n0 : Nat) (k len : Nat) : AV := match k with
  | 0 => .nils
  | _ => .asl n0 0 len
def gz (n0 es : Nat) (k : Nat) (els : List (List AV)) (z : List (Nat × ABlk)) : List (Nat × ABlk) := match k with
  | 0 => z
  | _ => (n0, .row es els true true) :: z
def nm2 (a b : Nat) (k : Nat) : Nat := match k with
  | 0 => a
  | _ => b
def eqN : List Int → List Int → Bool
  | [], [] => true
  | x :: a, y :: b => decide (x = y) && eqN a b
  | _, _ => false
theorem eqN_iff : ∀ {a b : List Int}, eqN a b = true ↔ a = b
  | [], [] => by simp [eqN]
  | x :: a, y :: b => by rw [eqN, Bool.and_eq_true, decide_eq_true_eq, eqN_iff]; simp
  | [], y :: b => by simp [eqN]
  | x :: a, [] => by simp [eqN]
theorem eqN_len {a b : List Int} (h : a.length ≠ b.length) : eqN a b = false := by
  rw [Bool.eq_false_iff, ne_eq, eqN_iff]
  intro e; exact h (by rw [e])
set_option maxRecDepth 100000 in
set_option maxHeartbeats 4000000 in
theorem c69 {a b : List Int} (hl : a.length < 1000000) (hb : b.length < 1000000) : PCall Tryz.prog 35 [.isl 1 (nl a), .isl 1 (nl b)] ⟨Bo (eqN a b), []⟩ := by
  have l1 := nl_length a
  have l2 := nl_length b
  refine bs.pv (sx := nos) pt0_ok Tryz.func35 (by kernel_rfl) (by kernel_rfl) rfl ?_
  by_cases hlen : a.length = b.length
  · repeat' (first | refine wk1 ?_ | (refine wk2 ?_ ?_ <;> intro _) | refine wk4 ?_ | fail); all_goals (conv => whnf)
    refine loopV (S := Nat × Int) (fun t => a.length - t.1) (fun t => [(0, .isl 1 (nl a)), (1, .isl 1 (nl b)), (5, I t.2)]) (fun _ => []) 0 0 (fun t => t.2 = t.1 ∧ t.1 ≤ a.length ∧ eqN (a.drop t.1) (b.drop t.1) = eqN a b) (0, 0) ⟨rfl, Nat.zero_le _, rfl⟩ (Nat.le_refl _) [] rfl (kps) (kps) ?_
    rintro ⟨k, i⟩ ⟨hi, hk, hh⟩
    dsimp only at hi hk hh ⊢
    subst hi
    refine bs.av (sx := nos) pt0_ok ?_
    by_cases hlt : k < a.length
    · have e1 := nl_get hlt
      have e2 := nl_get (ns := b) (k := k) (by omega)
      rw [List.drop_eq_getElem_cons hlt, List.drop_eq_getElem_cons (show k < b.length by omega), eqN] at hh
      by_cases he : a[k] = b[k]'(by omega)
      · rw [decide_eq_true he, Bool.true_and] at hh
        repeat' (first | refine wk1 ?_ | (refine wk2 ?_ ?_ <;> intro _) | refine wk4 ?_ | fail); all_goals (conv => whnf)
        exact Done.mk ⟨(k + 1, _), [], rfl, kps, kps, ⟨W_succ (by omega), hlt, hh⟩, by dsimp only; omega⟩
      · rw [decide_eq_false he, Bool.false_and] at hh
        rw [← hh]
        repeat' (first | refine wk1 ?_ | (refine wk2 ?_ ?_ <;> intro _) | refine wk4 ?_ | fail); all_goals (conv => whnf)
        exact ret_bool rfl
    · rw [List.drop_of_length_le (by omega), List.drop_of_length_le (by omega)] at hh
      rw [← hh]
      repeat' (first | refine wk1 ?_ | (refine wk2 ?_ ?_ <;> intro _) | refine wk4 ?_ | fail); all_goals (conv => whnf)
      exact ret_bool rfl
  · rw [eqN_len hlen]
    repeat' (first | refine wk1 ?_ | (refine wk2 ?_ ?_ <;> intro _) | refine wk4 ?_ | fail); all_goals (conv => whnf)
    exact ret_bool rfl
theorem nl_append (a b : List Int) : nl (a ++ b) = nl a ++ nl b := by simp [nl]
/-- How a list that has grown is handed back. -/
def lstR (L : List Int) (f : AV → AV) : PRes := match L with
  | [] => ⟨f .nils, []⟩
  | _ => ⟨f (.asl 0 0 (nl L).length), [(1, nl L)]⟩

noncomputable abbrev intsT : List AV → Option PRes := famA (fun p : List Int × List Int => p.1.length < 1000000 ∧ p.2.length < 1000000) (fun p => [.isl 1 (nl p.1), .isl 1 (nl p.2)]) (fun p => ⟨Bo (eqN p.1 p.2), []⟩)
theorem ints_hit {a b : List Int} (ha : a.length < 1000000) (hb : b.length < 1000000) : intsT [.isl 1 (nl a), .isl 1 (nl b)] = some ⟨Bo (eqN a b), []⟩ :=
  famA_hit (p := fun p : List Int × List Int => p.1.length < 1000000 ∧ p.2.length < 1000000) (g := fun p => [.isl 1 (nl p.1), .isl 1 (nl p.2)]) (r := fun p => ⟨Bo (eqN p.1 p.2), []⟩) (k := (a, b)) (fun j hj => by
    simp only [List.cons.injEq, AV.isl.injEq, true_and, and_true] at hj
    rw [nl_inj hj.1, nl_inj hj.2]) ⟨ha, hb⟩
theorem intsT_ok {pt : PC} (h : PCOK Tryz.prog pt) : PCOK Tryz.prog (ins 35 intsT pt) := famA_ok (fun p hp => c69 hp.1 hp.2) h
def unl (b : Bool) (e : Int) : Int := cond b 0 e
theorem take_self {α : Type} {l : List α} {n : Nat} (h : n = l.length) : (l.drop 0).take n = l := by rw [List.drop_zero, h, List.take_length]
end Go.Proofs.YtddhjopopelkjaaGreat
namespace Go.Proofs.YtddhjopopelkjaaGreat
open Go Go.Sx Go.En

/-! ### Small functions of the chapter -/
theorem d101 (n lo hi : Int) : PCall Tryz.prog 101 [I n, I lo, I hi] ⟨Bo (within n lo hi), []⟩ := by
  refine bs.pv (sx := nos) pt0_ok Tryz.func101 (by kernel_rfl) (by kernel_rfl) rfl ?_
  repeat' (first | refine wk0 ?_ | (refine wk2 ?_ ?_ <;> intro _) | refine wk4 ?_ | fail); all_goals (conv => whnf)
  all_goals exact ret_bool (by simp_all [within] <;> omega)
theorem d103 (b : Bool) (e : Int) : PCall Tryz.prog 103 [Bo b, I e] ⟨I (unl b e), []⟩ := by
  refine bs.pv (sx := nos) pt0_ok Tryz.func103 (by kernel_rfl) (by kernel_rfl) rfl ?_
  repeat' (first | refine wk0 ?_ | (refine wk2 ?_ ?_ <;> intro _) | refine wk4 ?_ | fail); all_goals (conv => whnf)
  all_goals exact ret_int (by simp_all [unl])
def rW : List AV → Option PRes
  | [.int .i64 n, .int .i64 lo, .int .i64 hi] => some ⟨Bo (within n lo hi), []⟩
  | _ => none
def rU : List AV → Option PRes
  | [.bool b, .int .i64 e] => some ⟨I (unl b e), []⟩
  | _ => none
def kY1 : PC := ins 38 rW (ins 101 rW (ins 103 rU pt0))
theorem kY1_ok : PCOK Tryz.prog kY1 := by
  refine ins_ok (fun a res h => ?_) (ins_ok (fun a res h => ?_) (ins_ok (fun a res h => ?_) pt0_ok))
  · unfold rW at h; split at h <;> cases h; exact c30 _ _ _
  · unfold rW at h; split at h <;> cases h; exact d101 _ _ _
  · unfold rU at h; split at h <;> cases h; exact d103 _ _
theorem rgE_eq (lo hi most : Int) : rgE lo hi most = if within lo 0 most && within hi 0 most then (if hi < lo then 9 else 0) else 2 := by
  unfold rgE
  by_cases h : (within lo 0 most && within hi 0 most) = true
  · rw [if_pos h]
    simp only [Bool.and_eq_true, within_iff] at h
    rw [if_pos h]
  · rw [if_neg h]
    simp only [Bool.and_eq_true, within_iff] at h
    rw [if_neg h]
theorem d126 (lo hi most : Int) : PCall Tryz.prog 126 [P2 lo hi, I most] ⟨I (rgE lo hi most), []⟩ := by
  rw [rgE_eq]
  refine bs.pv (sx := nos) kY1_ok Tryz.func126 (by kernel_rfl) (by kernel_rfl) rfl ?_
  repeat' (first | refine wk0 ?_ | (refine wk2 ?_ ?_ <;> intro _) | refine wk4 ?_ | fail); all_goals (conv => whnf)
  all_goals exact ret_int (by simp_all <;> omega)
theorem d130 (lo hi most : Int) : PCall Tryz.prog 130 [P2 lo hi, I most] ⟨I (rgE lo hi most), []⟩ := by
  rw [rgE_eq]
  refine bs.pv (sx := nos) kY1_ok Tryz.func130 (by kernel_rfl) (by kernel_rfl) rfl ?_
  repeat' (first | refine wk0 ?_ | (refine wk2 ?_ ?_ <;> intro _) | refine wk4 ?_ | fail); all_goals (conv => whnf)
  all_goals exact ret_int (by simp_all <;> omega)
def rG : List AV → Option PRes
  | [.agg [.int .i64 lo, .int .i64 hi], .int .i64 m] => some ⟨I (rgE lo hi m), []⟩
  | _ => none
def kY2 : PC := ins 126 rG (ins 130 rG kY1)
theorem kY2_ok : PCOK Tryz.prog kY2 := by
  refine ins_ok (fun a res h => ?_) (ins_ok (fun a res h => ?_) kY1_ok)
  · unfold rG at h; split at h <;> cases h; exact d126 _ _ _
  · unfold rG at h; split at h <;> cases h; exact d130 _ _ _

/-! ### Echoes, as data -/
abbrev ev (x : Ech) : List AV := [.isl 1 (nl x.su), I x.dl, I x.dh, I x.el, I x.eh]
theorem ev_length (l : List Ech) : (l.map ev).length = l.length := by simp
theorem ev_get {l : List Ech} {k : Nat} (h : k < l.length) : (l.map ev)[((k : Nat) : Int).toNat]? = some (ev l[k]) := by simp [h]
def prevD (l : List Ech) : Nat → Option Int
  | 0 => none
  | k + 1 => (l[k]?).map (·.dl)
abbrev sxE : FuncId → Bool := fun f => Nat.beq f 81 || (Nat.beq f 125 || (Nat.beq f 127 || Nat.beq f 128))
set_option maxRecDepth 100000 in
set_option maxHeartbeats 8000000 in
theorem d51 {l : List Ech} (hl : l.length < 100000) : PCall Tryz.prog 51 [.isl 5 (l.map ev)] ⟨.tup [I (ecV l).1, I (ecV l).2], []⟩ := by
  have l1 := ev_length l
  unfold ecV
  by_cases hbig : 500 < l.length
  · rw [if_pos hbig]
    refine bs.pv (sx := nos) kY2_ok Tryz.func51 (by kernel_rfl) (by kernel_rfl) rfl ?_
    repeat' (first | refine wk3 ?_ | (refine wk2 ?_ ?_ <;> intro _) | refine wk4 ?_ | fail); all_goals (conv => whnf)
    exact ret_of rfl rfl
  · rw [if_neg hbig]
    refine bs.pv (sx := sxE) kY2_ok Tryz.func51 (by kernel_rfl) (by kernel_rfl) rfl ?_
    repeat' (first | refine wk3 ?_ | (refine wk2 ?_ ?_ <;> intro _) | refine wk4 ?_ | fail); all_goals (conv => whnf)
    refine loopV (S := Nat × Int) (fun t => l.length - t.1) (fun t => [(1, .ptr 0 0 0), (10, .isl 5 (l.map ev)), (11, I (l.map ev).length), (12, I t.2)]) (fun _ => [(0, .row 1 [[.isl 5 (l.map ev)]] true false)]) 1 1 (fun t => t.2 = t.1 ∧ t.1 ≤ l.length ∧ ecGo t.1 (prevD l t.1) (l.drop t.1) = ecGo 0 none l) (0, 0) ⟨rfl, Nat.zero_le _, rfl⟩ (Nat.le_refl _) [] rfl (kps) (kps) ?_
    rintro ⟨k, i⟩ ⟨hi, hk, hh⟩
    dsimp only at hi hk hh ⊢
    subst hi
    generalize ecGo 0 none l = R at *
    refine bs.av (sx := sxE) kY2_ok ?_
    by_cases hlt : k < l.length
    · have e1 := ev_get hlt
      have hp : prevD l (k + 1) = some l[k].dl := by show (l[k]?).map (·.dl) = _; rw [List.getElem?_eq_getElem hlt]; rfl
      rw [List.drop_eq_getElem_cons hlt, ecGo, ← hp] at hh
      clear hp
      generalize hx : l[k] = x at *
      unfold ecE at hh
      cases k with
      | zero =>
        rw [show prevD l 0 = none from rfl] at hh
        by_cases z1 : rgE x.dl x.dh 10000000 = 0
        · by_cases z2 : rgE x.el x.eh 1000000000000 = 0
          · rw [if_pos z1, if_pos z2] at hh
            repeat' (first | refine wk3 ?_ | (refine wk2 ?_ ?_ <;> intro _) | refine wk4 ?_ | fail); all_goals (conv => whnf)
            refine bs.sv (sx := sxE) kY2_ok Tryz.func81 (by kernel_rfl) (by kernel_rfl) ?_
            repeat' (first | refine wk3 ?_ | (refine wk2 ?_ ?_ <;> intro _) | refine wk4 ?_ | fail); all_goals (conv => whnf)
            refine LpM.start 4 ?_
            refine LpM.succ (bs.av (sx := sxE) kY2_ok ?_)
            repeat' (first | refine wk3 ?_ | (refine wk2 ?_ ?_ <;> intro _) | refine wk4 ?_ | fail); all_goals (conv => whnf)
            refine bs.sv (sx := sxE) kY2_ok Tryz.func125 (by kernel_rfl) (by kernel_rfl) ?_
            repeat' (first | refine wk3 ?_ | (refine wk2 ?_ ?_ <;> intro _) | refine wk4 ?_ | fail); all_goals (conv => whnf)
            refine LpM.succ (bs.av (sx := sxE) kY2_ok ?_)
            repeat' (first | refine wk3 ?_ | (refine wk2 ?_ ?_ <;> intro _) | refine wk4 ?_ | fail); all_goals (conv => whnf)
            refine bs.sv (sx := sxE) kY2_ok Tryz.func127 (by kernel_rfl) (by kernel_rfl) ?_
            repeat' (first | refine wk3 ?_ | (refine wk2 ?_ ?_ <;> intro _) | refine wk4 ?_ | fail); all_goals (conv => whnf)
            refine LpM.succ (bs.av (sx := sxE) kY2_ok ?_)
            repeat' (first | refine wk3 ?_ | (refine wk2 ?_ ?_ <;> intro _) | refine wk4 ?_ | fail); all_goals (conv => whnf)
            refine bs.sv (sx := sxE) kY2_ok Tryz.func128 (by kernel_rfl) (by kernel_rfl) ?_
            repeat' (first | refine wk3 ?_ | (refine wk2 ?_ ?_ <;> intro _) | refine wk4 ?_ | fail); all_goals (conv => whnf)
            all_goals try (refine LpM.succ (bs.av (sx := sxE) kY2_ok ?_))
            repeat' (first | refine wk3 ?_ | (refine wk2 ?_ ?_ <;> intro _) | refine wk4 ?_ | fail); all_goals (conv => whnf)
            clear e1
            all_goals first
              | (exfalso; clear hh; simp_all [unl]; done)
              | (exfalso; clear hh; simp_all [unl]; omega)
              | (refine ret_of ?_ rfl; rw [← hh]; clear hh; simp_all [unl]; done)
              | exact Done.mk ⟨(0 + 1, _), [], rfl, kps, kps, ⟨W_succ (k := 0) (by omega), hlt, by rw [← hh]; clear hh; simp_all [unl]⟩, by dsimp only; omega⟩
          · rw [if_pos z1, if_neg z2] at hh
            repeat' (first | refine wk3 ?_ | (refine wk2 ?_ ?_ <;> intro _) | refine wk4 ?_ | fail); all_goals (conv => whnf)
            refine bs.sv (sx := sxE) kY2_ok Tryz.func81 (by kernel_rfl) (by kernel_rfl) ?_
            repeat' (first | refine wk3 ?_ | (refine wk2 ?_ ?_ <;> intro _) | refine wk4 ?_ | fail); all_goals (conv => whnf)
            refine LpM.start 4 ?_
            refine LpM.succ (bs.av (sx := sxE) kY2_ok ?_)
            repeat' (first | refine wk3 ?_ | (refine wk2 ?_ ?_ <;> intro _) | refine wk4 ?_ | fail); all_goals (conv => whnf)
            refine bs.sv (sx := sxE) kY2_ok Tryz.func125 (by kernel_rfl) (by kernel_rfl) ?_
            repeat' (first | refine wk3 ?_ | (refine wk2 ?_ ?_ <;> intro _) | refine wk4 ?_ | fail); all_goals (conv => whnf)
            refine LpM.succ (bs.av (sx := sxE) kY2_ok ?_)
            repeat' (first | refine wk3 ?_ | (refine wk2 ?_ ?_ <;> intro _) | refine wk4 ?_ | fail); all_goals (conv => whnf)
            refine bs.sv (sx := sxE) kY2_ok Tryz.func127 (by kernel_rfl) (by kernel_rfl) ?_
            repeat' (first | refine wk3 ?_ | (refine wk2 ?_ ?_ <;> intro _) | refine wk4 ?_ | fail); all_goals (conv => whnf)
            clear e1
            all_goals first
              | (exfalso; clear hh; simp_all [unl]; done)
              | (exfalso; clear hh; simp_all [unl]; omega)
              | (refine ret_of ?_ rfl; rw [← hh]; clear hh; simp_all [unl]; done)
              | exact Done.mk ⟨(0 + 1, _), [], rfl, kps, kps, ⟨W_succ (k := 0) (by omega), hlt, by rw [← hh]; clear hh; simp_all [unl]⟩, by dsimp only; omega⟩
        · rw [if_neg z1] at hh
          repeat' (first | refine wk3 ?_ | (refine wk2 ?_ ?_ <;> intro _) | refine wk4 ?_ | fail); all_goals (conv => whnf)
          refine bs.sv (sx := sxE) kY2_ok Tryz.func81 (by kernel_rfl) (by kernel_rfl) ?_
          repeat' (first | refine wk3 ?_ | (refine wk2 ?_ ?_ <;> intro _) | refine wk4 ?_ | fail); all_goals (conv => whnf)
          refine LpM.start 4 ?_
          refine LpM.succ (bs.av (sx := sxE) kY2_ok ?_)
          repeat' (first | refine wk3 ?_ | (refine wk2 ?_ ?_ <;> intro _) | refine wk4 ?_ | fail); all_goals (conv => whnf)
          refine bs.sv (sx := sxE) kY2_ok Tryz.func125 (by kernel_rfl) (by kernel_rfl) ?_
          repeat' (first | refine wk3 ?_ | (refine wk2 ?_ ?_ <;> intro _) | refine wk4 ?_ | fail); all_goals (conv => whnf)
          clear e1
          all_goals first
            | (exfalso; clear hh; simp_all [unl]; done)
            | (exfalso; clear hh; simp_all [unl]; omega)
            | (refine ret_of ?_ rfl; rw [← hh]; clear hh; simp_all [unl]; done)
            | exact Done.mk ⟨(0 + 1, _), [], rfl, kps, kps, ⟨W_succ (k := 0) (by omega), hlt, by rw [← hh]; clear hh; simp_all [unl]⟩, by dsimp only; omega⟩
      | succ k =>
        have hk2 : k < l.length := by omega
        have e6 : IntKind.i64.wrap (((k + 1 : Nat) : Int) - 1) = (k : Int) := by rw [W_eq (by omega) (by omega)]; omega
        have e7 : (l.map ev)[(IntKind.i64.wrap (((k + 1 : Nat) : Int) - 1)).toNat]? = some (ev l[k]) := by rw [e6]; exact ev_get hk2
        have e8 : prevD l (k + 1) = some l[k].dl := by show (l[k]?).map (·.dl) = _; rw [List.getElem?_eq_getElem hk2]; rfl
        rw [e8] at hh
        clear e8
        generalize l[k] = y at *
        by_cases z1 : rgE x.dl x.dh 10000000 = 0
        · by_cases z2 : rgE x.el x.eh 1000000000000 = 0
          · rw [if_pos z1, if_pos z2] at hh
            by_cases z3 : x.dl < y.dl
            · have z4 : decide (y.dl ≤ x.dl) = false := by simp; omega
              simp only [if_pos z3] at hh
              repeat' (first | refine wk3 ?_ | (refine wk2 ?_ ?_ <;> intro _) | refine wk4 ?_ | fail); all_goals (conv => whnf)
              refine bs.sv (sx := sxE) kY2_ok Tryz.func81 (by kernel_rfl) (by kernel_rfl) ?_
              repeat' (first | refine wk3 ?_ | (refine wk2 ?_ ?_ <;> intro _) | refine wk4 ?_ | fail); all_goals (conv => whnf)
              refine LpM.start 4 ?_
              refine LpM.succ (bs.av (sx := sxE) kY2_ok ?_)
              repeat' (first | refine wk3 ?_ | (refine wk2 ?_ ?_ <;> intro _) | refine wk4 ?_ | fail); all_goals (conv => whnf)
              refine bs.sv (sx := sxE) kY2_ok Tryz.func125 (by kernel_rfl) (by kernel_rfl) ?_
              repeat' (first | refine wk3 ?_ | (refine wk2 ?_ ?_ <;> intro _) | refine wk4 ?_ | fail); all_goals (conv => whnf)
              refine LpM.succ (bs.av (sx := sxE) kY2_ok ?_)
              repeat' (first | refine wk3 ?_ | (refine wk2 ?_ ?_ <;> intro _) | refine wk4 ?_ | fail); all_goals (conv => whnf)
              refine bs.sv (sx := sxE) kY2_ok Tryz.func127 (by kernel_rfl) (by kernel_rfl) ?_
              repeat' (first | refine wk3 ?_ | (refine wk2 ?_ ?_ <;> intro _) | refine wk4 ?_ | fail); all_goals (conv => whnf)
              refine LpM.succ (bs.av (sx := sxE) kY2_ok ?_)
              repeat' (first | refine wk3 ?_ | (refine wk2 ?_ ?_ <;> intro _) | refine wk4 ?_ | fail); all_goals (conv => whnf)
              refine bs.sv (sx := sxE) kY2_ok Tryz.func128 (by kernel_rfl) (by kernel_rfl) ?_
              repeat' (first | refine wk3 ?_ | (refine wk2 ?_ ?_ <;> intro _) | refine wk4 ?_ | fail); all_goals (conv => whnf)
              all_goals try (refine LpM.succ (bs.av (sx := sxE) kY2_ok ?_))
              repeat' (first | refine wk3 ?_ | (refine wk2 ?_ ?_ <;> intro _) | refine wk4 ?_ | fail); all_goals (conv => whnf)
              clear e1 e6 e7
              all_goals first
                | (exfalso; rename_i q; simp [unl, z4] at q; done)
                | (exfalso; rename_i q1 q2; simp [unl, z4] at q1; done)
                | (refine ret_of ?_ rfl; rw [← hh]; clear hh; simp [unl, z4]; done)
                | (exfalso; clear hh; simp_all [unl]; done)
                | (exfalso; clear hh; simp_all [unl]; omega)
                | (refine ret_of ?_ rfl; rw [← hh]; clear hh; simp_all [unl]; done)
                | exact Done.mk ⟨((k + 1) + 1, _), [], rfl, kps, kps, ⟨W_succ (k := (k + 1)) (by omega), hlt, by rw [← hh]; clear hh; simp_all [unl]⟩, by dsimp only; omega⟩
            · have z4 : decide (y.dl ≤ x.dl) = true := by simp; omega
              simp only [if_neg z3] at hh
              repeat' (first | refine wk3 ?_ | (refine wk2 ?_ ?_ <;> intro _) | refine wk4 ?_ | fail); all_goals (conv => whnf)
              refine bs.sv (sx := sxE) kY2_ok Tryz.func81 (by kernel_rfl) (by kernel_rfl) ?_
              repeat' (first | refine wk3 ?_ | (refine wk2 ?_ ?_ <;> intro _) | refine wk4 ?_ | fail); all_goals (conv => whnf)
              refine LpM.start 4 ?_
              refine LpM.succ (bs.av (sx := sxE) kY2_ok ?_)
              repeat' (first | refine wk3 ?_ | (refine wk2 ?_ ?_ <;> intro _) | refine wk4 ?_ | fail); all_goals (conv => whnf)
              refine bs.sv (sx := sxE) kY2_ok Tryz.func125 (by kernel_rfl) (by kernel_rfl) ?_
              repeat' (first | refine wk3 ?_ | (refine wk2 ?_ ?_ <;> intro _) | refine wk4 ?_ | fail); all_goals (conv => whnf)
              refine LpM.succ (bs.av (sx := sxE) kY2_ok ?_)
              repeat' (first | refine wk3 ?_ | (refine wk2 ?_ ?_ <;> intro _) | refine wk4 ?_ | fail); all_goals (conv => whnf)
              refine bs.sv (sx := sxE) kY2_ok Tryz.func127 (by kernel_rfl) (by kernel_rfl) ?_
              repeat' (first | refine wk3 ?_ | (refine wk2 ?_ ?_ <;> intro _) | refine wk4 ?_ | fail); all_goals (conv => whnf)
              refine LpM.succ (bs.av (sx := sxE) kY2_ok ?_)
              repeat' (first | refine wk3 ?_ | (refine wk2 ?_ ?_ <;> intro _) | refine wk4 ?_ | fail); all_goals (conv => whnf)
              refine bs.sv (sx := sxE) kY2_ok Tryz.func128 (by kernel_rfl) (by kernel_rfl) ?_
              repeat' (first | refine wk3 ?_ | (refine wk2 ?_ ?_ <;> intro _) | refine wk4 ?_ | fail); all_goals (conv => whnf)
              all_goals try (refine LpM.succ (bs.av (sx := sxE) kY2_ok ?_))
              repeat' (first | refine wk3 ?_ | (refine wk2 ?_ ?_ <;> intro _) | refine wk4 ?_ | fail); all_goals (conv => whnf)
              clear e1 e6 e7
              all_goals first
                | (exfalso; rename_i q; simp [unl, z4] at q; done)
                | (exfalso; rename_i q1 q2; simp [unl, z4] at q1; done)
                | (refine ret_of ?_ rfl; rw [← hh]; clear hh; simp [unl, z4]; done)
                | (exfalso; clear hh; simp_all [unl]; done)
                | (exfalso; clear hh; simp_all [unl]; omega)
                | (refine ret_of ?_ rfl; rw [← hh]; clear hh; simp_all [unl]; done)
                | exact Done.mk ⟨((k + 1) + 1, _), [], rfl, kps, kps, ⟨W_succ (k := (k + 1)) (by omega), hlt, by rw [← hh]; clear hh; simp_all [unl]⟩, by dsimp only; omega⟩
          · rw [if_pos z1, if_neg z2] at hh
            repeat' (first | refine wk3 ?_ | (refine wk2 ?_ ?_ <;> intro _) | refine wk4 ?_ | fail); all_goals (conv => whnf)
            refine bs.sv (sx := sxE) kY2_ok Tryz.func81 (by kernel_rfl) (by kernel_rfl) ?_
            repeat' (first | refine wk3 ?_ | (refine wk2 ?_ ?_ <;> intro _) | refine wk4 ?_ | fail); all_goals (conv => whnf)
            refine LpM.start 4 ?_
            refine LpM.succ (bs.av (sx := sxE) kY2_ok ?_)
            repeat' (first | refine wk3 ?_ | (refine wk2 ?_ ?_ <;> intro _) | refine wk4 ?_ | fail); all_goals (conv => whnf)
            refine bs.sv (sx := sxE) kY2_ok Tryz.func125 (by kernel_rfl) (by kernel_rfl) ?_
            repeat' (first | refine wk3 ?_ | (refine wk2 ?_ ?_ <;> intro _) | refine wk4 ?_ | fail); all_goals (conv => whnf)
            refine LpM.succ (bs.av (sx := sxE) kY2_ok ?_)
            repeat' (first | refine wk3 ?_ | (refine wk2 ?_ ?_ <;> intro _) | refine wk4 ?_ | fail); all_goals (conv => whnf)
            refine bs.sv (sx := sxE) kY2_ok Tryz.func127 (by kernel_rfl) (by kernel_rfl) ?_
            repeat' (first | refine wk3 ?_ | (refine wk2 ?_ ?_ <;> intro _) | refine wk4 ?_ | fail); all_goals (conv => whnf)
            clear e1
            all_goals first
              | (exfalso; clear hh; simp_all [unl]; done)
              | (exfalso; clear hh; simp_all [unl]; omega)
              | (refine ret_of ?_ rfl; rw [← hh]; clear hh; simp_all [unl]; done)
              | exact Done.mk ⟨((k + 1) + 1, _), [], rfl, kps, kps, ⟨W_succ (k := (k + 1)) (by omega), hlt, by rw [← hh]; clear hh; simp_all [unl]⟩, by dsimp only; omega⟩
        · rw [if_neg z1] at hh
          repeat' (first | refine wk3 ?_ | (refine wk2 ?_ ?_ <;> intro _) | refine wk4 ?_ | fail); all_goals (conv => whnf)
          refine bs.sv (sx := sxE) kY2_ok Tryz.func81 (by kernel_rfl) (by kernel_rfl) ?_
          repeat' (first | refine wk3 ?_ | (refine wk2 ?_ ?_ <;> intro _) | refine wk4 ?_ | fail); all_goals (conv => whnf)
          refine LpM.start 4 ?_
          refine LpM.succ (bs.av (sx := sxE) kY2_ok ?_)
          repeat' (first | refine wk3 ?_ | (refine wk2 ?_ ?_ <;> intro _) | refine wk4 ?_ | fail); all_goals (conv => whnf)
          refine bs.sv (sx := sxE) kY2_ok Tryz.func125 (by kernel_rfl) (by kernel_rfl) ?_
          repeat' (first | refine wk3 ?_ | (refine wk2 ?_ ?_ <;> intro _) | refine wk4 ?_ | fail); all_goals (conv => whnf)
          clear e1
          all_goals first
            | (exfalso; clear hh; simp_all [unl]; done)
            | (exfalso; clear hh; simp_all [unl]; omega)
            | (refine ret_of ?_ rfl; rw [← hh]; clear hh; simp_all [unl]; done)
            | exact Done.mk ⟨((k + 1) + 1, _), [], rfl, kps, kps, ⟨W_succ (k := (k + 1)) (by omega), hlt, by rw [← hh]; clear hh; simp_all [unl]⟩, by dsimp only; omega⟩
    · rw [List.drop_of_length_le (by omega), ecGo] at hh
      subst hh
      repeat' (first | refine wk3 ?_ | (refine wk2 ?_ ?_ <;> intro _) | refine wk4 ?_ | fail); all_goals (conv => whnf)
      exact ret_of rfl rfl
end Go.Proofs.YtddhjopopelkjaaGreat
namespace Go.Sx
open Go Go.RowKit
theorem wt_field {T : Tab} {d : Nat} {t : TypeId} {xs : List AV} {ti : TI} {fs : Array Field} (ht : T t = some ti) (hd : ti.desc = .struct fs) (h : WT T (d + 1) t xs) (i : Nat) {f : Field} (hf : fs.toList[i]? = some f) {tf : TI} (htf : T f.type = some tf) : WT T d f.type ((xs.drop f.offset).take tf.size) := by
  obtain ⟨tf', e, w⟩ := (wt_struct ht hd h).2 f (List.mem_of_getElem? hf)
  rw [htf] at e
  cases e
  exact w
end Go.Sx
namespace Go.Proofs.YtddhjopopelkjaaGreat
open Go Go.Sx Go.En
noncomputable abbrev TT := tget tbl
theorem wInt {d : Nat} {x : List AV} (h : WT TT (d + 1) 3 x) : ∃ n, x = [I n] := by
  obtain ⟨n, h1, _⟩ := wt_int (T := TT) (t := 3) rfl rfl h
  exact ⟨n, h1⟩
theorem wInts {d : Nat} {x : List AV} (h : WT TT (d + 2) 29 x) : ∃ ns : List Int, x = [.isl 1 (nl ns)] := by
  obtain ⟨els, h1, h2, h3⟩ := wt_slice (T := TT) (t := 29) rfl rfl rfl h
  have : ∃ ns : List Int, els = nl ns := by
    clear h1 h2
    induction els with
    | nil => exact ⟨[], rfl⟩
    | cons e l ih =>
      obtain ⟨ns, hns⟩ := ih (fun x hx => h3 x (by simp [hx]))
      obtain ⟨n, hn⟩ := wInt (h3 e (by simp))
      exact ⟨n :: ns, by rw [hns, hn]; rfl⟩
  obtain ⟨ns, rfl⟩ := this
  exact ⟨ns, h1⟩
theorem wRg {d : Nat} {x : List AV} (h : WT TT (d + 2) 42 x) : ∃ a b, x = [I a, I b] := by
  obtain ⟨ns, h1, h2, _⟩ := wt_ints (T := TT) (t := 42) rfl rfl rfl h
  have h2 : ns.length = 2 := h2
  match ns, h2 with
  | [a, b], _ => exact ⟨a, b, by rw [h1]; rfl⟩
theorem wEch {d : Nat} {x : List AV} (h : WT TT (d + 3) 108 x) : ∃ m : Ech, x = ev m := by
  have h0 := (wt_struct (T := TT) (t := 108) rfl rfl h).1
  have h0 : x.length = 5 := h0
  match x, h0 with
  | [x0, x1, x2, x3, x4], _ =>
    obtain ⟨s, hs⟩ := wInts (wt_field (T := TT) (t := 108) rfl rfl h 0 rfl rfl)
    obtain ⟨a, b, ha⟩ := wRg (wt_field (T := TT) (t := 108) rfl rfl h 1 rfl rfl)
    obtain ⟨c, e, hc⟩ := wRg (wt_field (T := TT) (t := 108) rfl rfl h 2 rfl rfl)
    have hs : [x0] = [.isl 1 (nl s)] := hs
    have ha : [x1, x2] = [I a, I b] := ha
    have hc : [x3, x4] = [I c, I e] := hc
    cases hs; cases ha; cases hc
    exact ⟨⟨s, a, b, c, e⟩, rfl⟩
theorem wList {α : Type} {f : α → List AV} {P : α → Prop} {Q : List AV → Prop} (hQ : ∀ x, Q x → ∃ m, x = f m ∧ P m) : ∀ els : List (List AV), (∀ x ∈ els, Q x) → ∃ l : List α, els = l.map f ∧ ∀ m ∈ l, P m
  | [], _ => ⟨[], rfl, by simp⟩
  | e :: els, h => by
    obtain ⟨l, h1, h2⟩ := wList hQ els (fun x hx => h x (by simp [hx]))
    obtain ⟨m, h3, h4⟩ := hQ e (h e (by simp))
    refine ⟨m :: l, by rw [h3, h1]; rfl, fun u hu => ?_⟩
    rcases List.mem_cons.1 hu with rfl | hu
    · exact h4
    · exact h2 u hu
theorem ech_of {a : AV} (h : WTA TT 94 a) : ∃ l : List Ech, a = .isl 5 (l.map ev) := by
  obtain ⟨m, zs, hm, ha⟩ := h 4
  have ha : zs = [a] := ha
  obtain ⟨els, h1, _, h3⟩ := wt_slice (T := TT) (t := 94) (d := m + 3) rfl rfl rfl hm
  obtain ⟨l, hl, _⟩ := wList (f := ev) (P := fun _ => True) (Q := fun x => WT TT (m + 3) 108 x) (fun x hx => (wEch hx).imp fun p hp => ⟨hp, trivial⟩) els h3
  rw [ha] at h1
  have h1 : [a] = [.isl 5 els] := h1
  cases h1
  exact ⟨l, by rw [hl]⟩
end Go.Proofs.YtddhjopopelkjaaGreat
namespace Go.Proofs.YtddhjopopelkjaaGreat
open Go Go.Sx Go.En
theorem d56 (n : Int) : PCall Tryz.prog 56 [I n] ⟨I (unl (within n 0 10000000) 2), []⟩ := by
  refine bs.pv (sx := nos) kY2_ok Tryz.func56 (by kernel_rfl) (by kernel_rfl) rfl ?_
  repeat' (first | refine wk0 ?_ | (refine wk2 ?_ ?_ <;> intro _) | refine wk4 ?_ | fail); all_goals (conv => whnf)
  all_goals exact ret_int (by simp_all [unl])
/-- The echoes are few, and their paths short. -/
def shortE (l : List Ech) : Bool := l.all (fun x => decide (x.su.length ≤ 6))
def fewE (l : List Ech) : Bool := !((decide (12 < l.length) && decide (l.length ≤ 500)) || decide (502 < l.length)) && shortE l
set_option maxHeartbeats 2000000 in
theorem d50 (l : List Ech) : PCall Tryz.prog 50 [.isl 5 (l.map ev)] ⟨Bo (fewE l), []⟩ := by
  have l1 := ev_length l
  unfold fewE
  by_cases hbig : 502 < l.length
  · have h5 : decide (502 < l.length) = true := decide_eq_true hbig
    rw [h5, Bool.or_true, Bool.not_true, Bool.false_and]
    refine bs.pv (sx := nos) kY2_ok Tryz.func50 (by kernel_rfl) (by kernel_rfl) rfl ?_
    repeat' (first | refine wk3 ?_ | (refine wk2 ?_ ?_ <;> intro _) | refine wk4 ?_ | fail); all_goals (conv => whnf)
    all_goals first
      | exact ret_bool rfl
      | (exfalso; simp_all <;> omega)
  have hl : l.length < 100000 := by omega
  refine bs.pv (sx := nos) kY2_ok Tryz.func50 (by kernel_rfl) (by kernel_rfl) rfl ?_
  repeat' (first | refine wk3 ?_ | (refine wk2 ?_ ?_ <;> intro _) | refine wk4 ?_ | fail); all_goals (conv => whnf)
  all_goals first
    | exact ret_bool (by simp_all <;> omega)
    | skip
  all_goals (refine loopV (S := Nat × Int) (fun t => l.length - t.1) (fun t => [(0, .isl 5 (l.map ev)), (3, I t.2)]) (fun _ => []) 0 0 (fun t => t.2 = t.1 ∧ t.1 ≤ l.length ∧ shortE (l.drop t.1) = shortE l) (0, 0) ⟨rfl, Nat.zero_le _, rfl⟩ (Nat.le_refl _) [] rfl (kps) (kps) ?_)
  all_goals
    rintro ⟨k, i⟩ ⟨hi, hk, hh⟩
    dsimp only at hi hk hh ⊢
    subst hi
    refine bs.av (sx := nos) kY2_ok ?_
    by_cases hlt : k < l.length
    · have e1 := ev_get hlt
      rw [List.drop_eq_getElem_cons hlt] at hh
      have hh2 : shortE l = (decide ((l[k]).su.length ≤ 6) && shortE (l.drop (k + 1))) := hh.symm
      have e2 : (nl (l[k]).su).length = (l[k]).su.length := nl_length _
      repeat' (first | refine wk3 ?_ | (refine wk2 ?_ ?_ <;> intro _) | refine wk4 ?_ | fail); all_goals (conv => whnf)
      all_goals first
        | exact ret_bool (by rw [hh2]; simp_all <;> omega)
        | exact Done.mk ⟨(k + 1, _), [], rfl, kps, kps, ⟨W_succ (k := k) (by omega), hlt, by rw [hh2]; simp_all <;> omega⟩, by dsimp only; omega⟩
    · rw [List.drop_of_length_le (by omega)] at hh
      have hh2 : shortE l = true := hh.symm
      repeat' (first | refine wk3 ?_ | (refine wk2 ?_ ?_ <;> intro _) | refine wk4 ?_ | fail); all_goals (conv => whnf)
      all_goals first
        | exact ret_bool (by rw [hh2]; simp_all <;> omega)
end Go.Proofs.YtddhjopopelkjaaGreat

namespace Go.Proofs.YtddhjopopelkjaaGreat
open Go Go.Sx Go.En
set_option maxHeartbeats 8000000 in
theorem d55 {l : List Ech} (hl : l.length < 100000) : PCall Tryz.prog 55 [.isl 5 (l.map ev)] ⟨.tup [I (ecV l).1, I (ecV l).2], []⟩ := by
  have l1 := ev_length l
  unfold ecV
  by_cases hbig : 500 < l.length
  · rw [if_pos hbig]
    refine bs.pv (sx := nos) kY2_ok Tryz.func55 (by kernel_rfl) (by kernel_rfl) rfl ?_
    repeat' (first | refine wk3 ?_ | (refine wk2 ?_ ?_ <;> intro _) | refine wk4 ?_ | fail); all_goals (conv => whnf)
    exact ret_of rfl rfl
  · rw [if_neg hbig]
    refine bs.pv (sx := nos) kY2_ok Tryz.func55 (by kernel_rfl) (by kernel_rfl) rfl ?_
    repeat' (first | refine wk3 ?_ | (refine wk2 ?_ ?_ <;> intro _) | refine wk4 ?_ | fail); all_goals (conv => whnf)
    refine loopV (S := Nat × Int) (fun t => l.length - t.1) (fun t => [(0, .isl 5 (l.map ev)), (4, I t.2)]) (fun _ => []) 0 0 (fun t => t.2 = t.1 ∧ t.1 ≤ l.length ∧ ecGo t.1 (prevD l t.1) (l.drop t.1) = ecGo 0 none l) (0, 0) ⟨rfl, Nat.zero_le _, rfl⟩ (Nat.le_refl _) [] rfl (kps) (kps) ?_
    rintro ⟨k, i⟩ ⟨hi, hk, hh⟩
    dsimp only at hi hk hh ⊢
    subst hi
    generalize ecGo 0 none l = R at *
    refine bs.av (sx := nos) kY2_ok ?_
    by_cases hlt : k < l.length
    · have e1 := ev_get hlt
      have hp : prevD l (k + 1) = some l[k].dl := by show (l[k]?).map (·.dl) = _; rw [List.getElem?_eq_getElem hlt]; rfl
      rw [List.drop_eq_getElem_cons hlt, ecGo, ← hp] at hh
      clear hp
      generalize hx : l[k] = x at *
      unfold ecE at hh
      cases k with
      | zero =>
        rw [show prevD l 0 = none from rfl] at hh
        by_cases z1 : rgE x.dl x.dh 10000000 = 0
        · by_cases z2 : rgE x.el x.eh 1000000000000 = 0
          · rw [if_pos z1, if_pos z2] at hh
            repeat' (first | refine wk3 ?_ | (refine wk2 ?_ ?_ <;> intro _) | refine wk4 ?_ | fail); all_goals (conv => whnf)
            all_goals first
              | (exfalso; clear hh; simp_all; done)
              | (refine ret_of ?_ rfl; rw [← hh]; clear hh; simp_all; done)
              | exact Done.mk ⟨(0 + 1, _), [], rfl, kps, kps, ⟨W_succ (k := 0) (by omega), hlt, by rw [← hh]; clear hh; simp_all⟩, by dsimp only; omega⟩
          · rw [if_pos z1, if_neg z2] at hh
            repeat' (first | refine wk3 ?_ | (refine wk2 ?_ ?_ <;> intro _) | refine wk4 ?_ | fail); all_goals (conv => whnf)
            all_goals first
              | (exfalso; clear hh; simp_all; done)
              | (refine ret_of ?_ rfl; rw [← hh]; clear hh; simp_all; done)
        · rw [if_neg z1] at hh
          repeat' (first | refine wk3 ?_ | (refine wk2 ?_ ?_ <;> intro _) | refine wk4 ?_ | fail); all_goals (conv => whnf)
          all_goals first
            | (exfalso; clear hh; simp_all; done)
            | (refine ret_of ?_ rfl; rw [← hh]; clear hh; simp_all; done)
      | succ k =>
        have hk2 : k < l.length := by omega
        have e6 : IntKind.i64.wrap (((k + 1 : Nat) : Int) - 1) = (k : Int) := by rw [W_eq (by omega) (by omega)]; omega
        have e7 : (l.map ev)[(IntKind.i64.wrap (((k + 1 : Nat) : Int) - 1)).toNat]? = some (ev l[k]) := by rw [e6]; exact ev_get hk2
        have e8 : prevD l (k + 1) = some l[k].dl := by show (l[k]?).map (·.dl) = _; rw [List.getElem?_eq_getElem hk2]; rfl
        rw [e8] at hh
        clear e8
        generalize l[k] = y at *
        by_cases z1 : rgE x.dl x.dh 10000000 = 0
        · by_cases z2 : rgE x.el x.eh 1000000000000 = 0
          · rw [if_pos z1, if_pos z2] at hh
            by_cases z3 : x.dl < y.dl
            · simp only [if_pos z3] at hh
              repeat' (first | refine wk3 ?_ | (refine wk2 ?_ ?_ <;> intro _) | refine wk4 ?_ | fail); all_goals (conv => whnf)
              all_goals first
                | (exfalso; clear hh; simp_all; done)
                | (exfalso; clear hh; simp_all; omega)
                | (refine ret_of ?_ rfl; rw [← hh]; clear hh; simp_all; done)
            · simp only [if_neg z3] at hh
              repeat' (first | refine wk3 ?_ | (refine wk2 ?_ ?_ <;> intro _) | refine wk4 ?_ | fail); all_goals (conv => whnf)
              all_goals first
                | (exfalso; clear hh; simp_all; done)
                | (exfalso; clear hh; simp_all; omega)
                | exact Done.mk ⟨(k + 1 + 1, _), [], rfl, kps, kps, ⟨W_succ (k := k + 1) (by omega), hlt, by rw [← hh]; clear hh; simp_all⟩, by dsimp only; omega⟩
          · rw [if_pos z1, if_neg z2] at hh
            repeat' (first | refine wk3 ?_ | (refine wk2 ?_ ?_ <;> intro _) | refine wk4 ?_ | fail); all_goals (conv => whnf)
            all_goals first
              | (exfalso; clear hh; simp_all; done)
              | (refine ret_of ?_ rfl; rw [← hh]; clear hh; simp_all; done)
        · rw [if_neg z1] at hh
          repeat' (first | refine wk3 ?_ | (refine wk2 ?_ ?_ <;> intro _) | refine wk4 ?_ | fail); all_goals (conv => whnf)
          all_goals first
            | (exfalso; clear hh; simp_all; done)
            | (refine ret_of ?_ rfl; rw [← hh]; clear hh; simp_all; done)
    · rw [List.drop_of_length_le (by omega), ecGo] at hh
      subst hh
      repeat' (first | refine wk3 ?_ | (refine wk2 ?_ ?_ <;> intro _) | refine wk4 ?_ | fail); all_goals (conv => whnf)
      exact ret_of rfl rfl
end Go.Proofs.YtddhjopopelkjaaGreat
namespace Go.Proofs.YtddhjopopelkjaaGreat
open Go Go.Sx Go.En
/-- What has arrived, with the machine's sums. -/
def upF (t : Int) : Int → Int → List Ech → Int × Int
  | a, b, [] => (a, b)
  | a, b, x :: l => upF t (if x.dh ≤ t then IntKind.i64.wrap (a + x.el) else a) (if x.dl ≤ t then IntKind.i64.wrap (b + x.eh) else b) l
set_option maxHeartbeats 4000000 in
theorem d57 {l : List Ech} {t : Int} (hl : l.length < 100000) : PCall Tryz.prog 57 [.isl 5 (l.map ev), I t] ⟨P2 (upF t 0 0 l).1 (upF t 0 0 l).2, []⟩ := by
  have l1 := ev_length l
  refine bs.pv (sx := nos) kY2_ok Tryz.func57 (by kernel_rfl) (by kernel_rfl) rfl ?_
  conv => whnf
  refine loopV (S := Nat × Int × Int × Int) (fun s => l.length - s.1) (fun s => [(0, .isl 5 (l.map ev)), (1, I t), (4, .ptr 0 0 0), (5, .ptr 1 0 0), (6, I s.2.1)]) (fun s => [(1, .row 2 [[I s.2.2.1, I s.2.2.2]] true false), (0, .row 2 [[I 0, I 0]] true false)]) 2 2 (fun s => s.2.1 = s.1 ∧ s.1 ≤ l.length ∧ upF t s.2.2.1 s.2.2.2 (l.drop s.1) = upF t 0 0 l) (0, 0, 0, 0) ⟨rfl, Nat.zero_le _, rfl⟩ (Nat.le_refl _) [] rfl (kps) (kps) ?_
  rintro ⟨k, i, a, b⟩ ⟨hi, hk, hh⟩
  dsimp only at hi hk hh ⊢
  subst hi
  generalize upF t 0 0 l = R at *
  refine bs.av (sx := nos) kY2_ok ?_
  by_cases hlt : k < l.length
  · have e1 := ev_get hlt
    rw [List.drop_eq_getElem_cons hlt, upF] at hh
    generalize hx : l[k] = x at *
    by_cases z1 : x.dh ≤ t <;> by_cases z2 : x.dl ≤ t
    all_goals
      simp only [if_pos, if_neg, z1, z2, if_true, if_false] at hh
      repeat' (first | refine wk3 ?_ | (refine wk2 ?_ ?_ <;> intro _) | refine wk4 ?_ | fail); all_goals (conv => whnf)
    all_goals first
      | (exfalso; simp_all; done)
      | exact Done.mk ⟨(k + 1, _, _, _), [], rfl, kps, kps, ⟨W_succ (k := k) (by omega), hlt, hh⟩, by dsimp only; omega⟩
  · rw [List.drop_of_length_le (by omega), upF] at hh
    subst hh
    repeat' (first | refine wk3 ?_ | (refine wk2 ?_ ?_ <;> intro _) | refine wk4 ?_ | fail); all_goals (conv => whnf)
    exact ret_of rfl rfl
end Go.Proofs.YtddhjopopelkjaaGreat
namespace Go.Proofs.YtddhjopopelkjaaGreat
open Go Go.Sx Go.En
theorem ev_inj {a b : List Ech} (h : a.map ev = b.map ev) : a = b := by
  refine List.map_inj_right (fun x y hxy => ?_) |>.1 h
  obtain ⟨s, d, e, f, g⟩ := x
  obtain ⟨s', d', e', f', g'⟩ := y
  simp only [ev, List.cons.injEq, AV.isl.injEq, AV.int.injEq, true_and, and_true] at hxy
  obtain ⟨h1, rfl, rfl, rfl, rfl⟩ := hxy
  rw [nl_inj h1]
noncomputable abbrev cecV : List AV → Option PRes := famA (fun l : List Ech => l.length < 100000) (fun l => [.isl 5 (l.map ev)]) (fun l => ⟨.tup [I (ecV l).1, I (ecV l).2], []⟩)
theorem cecV_hit {l : List Ech} (h : l.length < 100000) : cecV [.isl 5 (l.map ev)] = some ⟨.tup [I (ecV l).1, I (ecV l).2], []⟩ :=
  famA_hit (p := fun l : List Ech => l.length < 100000) (g := fun l => [.isl 5 (l.map ev)]) (r := fun l => ⟨.tup [I (ecV l).1, I (ecV l).2], []⟩) (fun j hj => by
    simp only [List.cons.injEq, AV.isl.injEq, true_and, and_true] at hj
    rw [ev_inj hj]) h
noncomputable def kY3 : PC := ins 51 cecV (ins 55 cecV kY2)
theorem kY3_ok : PCOK Tryz.prog kY3 := by
  exact famA_ok (fun l h => d51 h) (famA_ok (fun l h => d55 h) kY2_ok)
/-- The error of a list of echoes and of a time. -/
def eeV (l : List Ech) (t : Int) : Int := if (ecV l).2 ≠ 0 then (ecV l).2 else unl (within t 0 10000000) 2
theorem d129 {l : List Ech} (hl : l.length < 100000) (t : Int) : PCall Tryz.prog 129 [.isl 5 (l.map ev), I t] ⟨I (eeV l t), []⟩ := by
  have e2 := cecV_hit hl
  unfold eeV
  refine bs.pv (sx := nos) kY3_ok Tryz.func129 (by kernel_rfl) (by kernel_rfl) rfl ?_
  repeat' (first | refine wk3 ?_ | (refine wk2 ?_ ?_ <;> intro _) | refine wk4 ?_ | fail); all_goals (conv => whnf)
  all_goals exact ret_int (by simp_all [unl])
noncomputable abbrev ceeV : List AV → Option PRes := famA (fun p : List Ech × Int => p.1.length < 100000) (fun p => [.isl 5 (p.1.map ev), I p.2]) (fun p => ⟨I (eeV p.1 p.2), []⟩)
theorem ceeV_hit {l : List Ech} (h : l.length < 100000) (t : Int) : ceeV [.isl 5 (l.map ev), I t] = some ⟨I (eeV l t), []⟩ :=
  famA_hit (p := fun p : List Ech × Int => p.1.length < 100000) (g := fun p => [.isl 5 (p.1.map ev), I p.2]) (r := fun p => ⟨I (eeV p.1 p.2), []⟩) (k := (l, t)) (fun j hj => by
    simp only [List.cons.injEq, AV.isl.injEq, AV.int.injEq, true_and, and_true] at hj
    rw [ev_inj hj.1, hj.2]) h
noncomputable def kY4 : PC := ins 129 ceeV kY3
theorem kY4_ok : PCOK Tryz.prog kY4 := famA_ok (fun p h => d129 h p.2) kY3_ok
def utV (l : List Ech) (t : Int) : Int × Int := if eeV l t ≠ 0 then (0, 0) else upF t 0 0 l
theorem d53 {l : List Ech} {t : Int} (hl : l.length < 100000) : PCall Tryz.prog 53 [.isl 5 (l.map ev), I t] ⟨.tup [P2 (utV l t).1 (utV l t).2, I (eeV l t)], []⟩ := by
  have l1 := ev_length l
  have e2 := ceeV_hit hl t
  unfold utV
  generalize eeV l t = ee at *
  by_cases he : ee = 0
  · subst he
    refine bs.pv (sx := nos) kY4_ok Tryz.func53 (by kernel_rfl) (by kernel_rfl) rfl ?_
    repeat' (first | refine wk3 ?_ | (refine wk2 ?_ ?_ <;> intro _) | refine wk4 ?_ | fail); all_goals (conv => whnf)
    rw [if_neg (by simp)]
    refine loopV (S := Nat × Int × Int × Int) (fun s => l.length - s.1) (fun s => [(1, I t), (4, .ptr 0 0 0), (7, .ptr 1 0 0), (17, .isl 5 (l.map ev)), (18, I (l.map ev).length), (19, I s.2.1)]) (fun s => [(1, .row 2 [[I s.2.2.1, I s.2.2.2]] true false), (0, .row 2 [[I 0, I 0]] true false)]) 2 2 (fun s => s.2.1 = s.1 ∧ s.1 ≤ l.length ∧ upF t s.2.2.1 s.2.2.2 (l.drop s.1) = upF t 0 0 l) (0, 0, 0, 0) ⟨rfl, Nat.zero_le _, rfl⟩ (Nat.le_refl _) [] rfl (kps) (kps) ?_
    rintro ⟨k, i, a, b⟩ ⟨hi, hk, hh⟩
    dsimp only at hi hk hh ⊢
    subst hi
    generalize upF t 0 0 l = R at *
    refine bs.av (sx := nos) kY4_ok ?_
    by_cases hlt : k < l.length
    · have e1 := ev_get hlt
      rw [List.drop_eq_getElem_cons hlt, upF] at hh
      generalize hx : l[k] = x at *
      by_cases z1 : x.dh ≤ t <;> by_cases z2 : x.dl ≤ t
      all_goals
        simp only [if_pos, if_neg, z1, z2, if_true, if_false] at hh
        repeat' (first | refine wk3 ?_ | (refine wk2 ?_ ?_ <;> intro _) | refine wk4 ?_ | fail); all_goals (conv => whnf)
      all_goals first
        | (exfalso; simp_all; done)
        | exact Done.mk ⟨(k + 1, _, _, _), [], rfl, kps, kps, ⟨W_succ (k := k) (by omega), hlt, hh⟩, by dsimp only; omega⟩
    · rw [List.drop_of_length_le (by omega), upF] at hh
      subst hh
      repeat' (first | refine wk3 ?_ | (refine wk2 ?_ ?_ <;> intro _) | refine wk4 ?_ | fail); all_goals (conv => whnf)
      exact ret_of rfl rfl
  · refine bs.pv (sx := nos) kY4_ok Tryz.func53 (by kernel_rfl) (by kernel_rfl) rfl ?_
    repeat' (first | refine wk3 ?_ | (refine wk2 ?_ ?_ <;> intro _) | refine wk4 ?_ | fail); all_goals (conv => whnf)
    all_goals first
      | (exfalso; simp_all; done)
      | (refine ret_of ?_ rfl; simp_all; done)
end Go.Proofs.YtddhjopopelkjaaGreat
namespace Go.Proofs.YtddhjopopelkjaaGreat
open Go Go.Sx Go.En
noncomputable def kY5 : PC := ins 30 cints kY4
theorem kY5_ok : PCOK Tryz.prog kY5 := famA_ok (fun ns h => c25f ns h) kY4_ok
theorem setEl_same {l : List (List AV)} {i : Nat} {c : List AV} (h : l[i]? = some c) : setEl l i c = l := by
  rw [setEl_eq]
  refine List.ext_getElem? fun j => ?_
  rw [List.getElem?_set]
  split
  · rename_i e
    subst e
    rw [h]
    rw [if_pos (List.getElem?_eq_some_iff.1 h).1]
  · rfl
theorem oneEls_ev (l : List Ech) : oneEls (l.map ev) = true := by simp [oneEls, AV.one]
theorem d52 {l : List Ech} (hl : l.length < 100000) (hs : ∀ x ∈ l, x.su.length < 100000) : PCall Tryz.prog 52 [.isl 5 (l.map ev)] ⟨.isl 5 (l.map ev), []⟩ := by
  have l1 := ev_length l
  have h1 := oneEls_ev l
  refine PCall.freeze (res := ⟨.asl 0 0 (l.map ev).length, [(5, l.map ev)]⟩) ?_ ⟨rfl, rfl, rfl⟩
  refine bs.pv (sx := nos) kY5_ok Tryz.func52 (by kernel_rfl) (by kernel_rfl) rfl ?_
  repeat' (first | refine wk3 ?_ | (refine wk2 ?_ ?_ <;> intro _) | refine wk4 ?_ | fail); all_goals (conv => whnf)
  refine loopV (S := Nat × Int × List (List AV)) (fun s => l.length - s.1) (fun s => [(0, .isl 5 (l.map ev)), (3, .asl 1 0 (0 + (l.map ev).length)), (4, I s.2.1)]) (fun s => [(1, .row 5 s.2.2 true true)]) 2 2 (fun s => s.2.1 = s.1 ∧ s.1 ≤ l.length ∧ s.2.2 = l.map ev) (0, 0, l.map ev) ⟨rfl, Nat.zero_le _, rfl⟩ (Nat.le_refl _) [] rfl (kps) (kps) ?_
  rintro ⟨k, i, els⟩ ⟨hi, hk, hh⟩
  dsimp only at hi hk hh ⊢
  subst hi hh
  refine bs.av (sx := nos) kY5_ok ?_
  by_cases hlt : k < l.length
  · have e1 := ev_get hlt
    have e2 := cints_hit (ns := l[k].su) (hs _ (List.getElem_mem hlt))
    generalize hx : l[k] = x at *
    have e3 : (l.map ev)[0 + ((k : Nat) : Int).toNat]? = some (ev x) := by rw [Nat.zero_add]; exact e1
    repeat' (first | refine wk3 ?_ | (refine wk2 ?_ ?_ <;> intro _) | refine wk4 ?_ | fail); all_goals (conv => whnf)
    all_goals first
      | (refine Done.mk ⟨(k + 1, _, _), [], rfl, kps, kps, ⟨W_succ (k := k) (by omega), hlt, setEl_same e3⟩, by dsimp only; omega⟩)
  · repeat' (first | refine wk3 ?_ | (refine wk2 ?_ ?_ <;> intro _) | refine wk4 ?_ | fail); all_goals (conv => whnf)
    refine ret_rows [1] rfl ?_ rfl
    show AV.asl 1 0 (0 + (l.map ev).length) = AV.asl 1 0 (l.map ev).length
    rw [Nat.zero_add]
end Go.Proofs.YtddhjopopelkjaaGreat
namespace Go.Proofs.YtddhjopopelkjaaGreat
open Go Go.Sx Go.En
def ownF (w d : Int) : Int → Int → List Ech → Int × Int
  | n, e, [] => (n, e)
  | n, e, y :: l => if IntKind.i64.wrap (y.dh - d) ≤ w then ownF w d (IntKind.i64.wrap (n + 1)) (IntKind.i64.wrap (e + y.el)) l else ownF w d n e l
def bstF (w : Int) : Nat → Int × Int × Int → List Ech → Int × Int × Int
  | _, b, [] => b
  | i, b, x :: l => bstF w (i + 1) (if b.2.2 < (ownF w x.dl 0 0 (x :: l)).2 then ((i : Int), (ownF w x.dl 0 0 (x :: l)).1, (ownF w x.dl 0 0 (x :: l)).2) else b) l
abbrev T3 (b : Int × Int × Int) : AV := .agg [I b.1, I b.2.1, I b.2.2]
set_option maxHeartbeats 8000000 in
theorem d58 {l : List Ech} {w : Int} (hl : l.length < 100000) : PCall Tryz.prog 58 [.isl 5 (l.map ev), I w] ⟨T3 (bstF w 0 (0, 0, -1) l), []⟩ := by
  have l1 := ev_length l
  refine bs.pv (sx := nos) kY4_ok Tryz.func58 (by kernel_rfl) (by kernel_rfl) rfl ?_
  conv => whnf
  refine loopV (S := Nat × Int × Int × Int × Int) (fun s => l.length - s.1) (fun s => [(0, .isl 5 (l.map ev)), (1, I w), (4, .ptr 0 0 0), (5, .ptr 1 0 0), (6, I s.2.1)]) (fun s => [(1, .row 3 [[I s.2.2.1, I s.2.2.2.1, I s.2.2.2.2]] true false), (0, .row 3 [[I 0, I 0, I 0]] true false)]) 2 2 (fun s => s.2.1 = s.1 ∧ s.1 ≤ l.length ∧ bstF w s.1 s.2.2 (l.drop s.1) = bstF w 0 (0, 0, -1) l) (0, 0, 0, 0, -1) ⟨rfl, Nat.zero_le _, rfl⟩ (Nat.le_refl _) [] rfl (kps) (kps) ?_
  rintro ⟨k, i, p, q, r⟩ ⟨hi, hk, hh⟩
  dsimp only at hi hk hh ⊢
  subst hi
  generalize bstF w 0 (0, 0, -1) l = R at *
  refine bs.av (sx := nos) kY4_ok ?_
  by_cases hlt : k < l.length
  · have e1 := ev_get hlt
    rw [List.drop_eq_getElem_cons hlt, bstF, ← List.drop_eq_getElem_cons hlt] at hh
    generalize hx : l[k] = x at *
    repeat' (first | refine wk3 ?_ | (refine wk2 ?_ ?_ <;> intro _) | refine wk4 ?_ | fail); all_goals (conv => whnf)
    refine loopV (S := Nat × Int × Int × Int) (fun s => l.length - s.1) (fun s => [(0, .isl 5 (l.map ev)), (1, I w), (4, .ptr 0 0 0), (5, .ptr 1 0 0), (6, I (k : Int)), (7, .ptr 2 0 0), (8, I s.2.1)]) (fun s => [(2, .row 3 [[I (k : Int), I s.2.2.1, I s.2.2.2]] true false), (1, .row 3 [[I p, I q, I r]] true false), (0, .row 3 [[I 0, I 0, I 0]] true false)]) 3 3 (fun s => s.2.1 = s.1 ∧ k ≤ s.1 ∧ s.1 ≤ l.length ∧ ownF w x.dl s.2.2.1 s.2.2.2 (l.drop s.1) = ownF w x.dl 0 0 (l.drop k)) (k, k, 0, 0) ⟨rfl, Nat.le_refl _, hk, rfl⟩ (Nat.le_refl _) [] rfl (kps) (kps) ?_
    rintro ⟨j, i2, n, e⟩ ⟨hi2, hkj, hj, hh2⟩
    dsimp only at hi2 hkj hj hh2 ⊢
    subst hi2
    generalize ownF w x.dl 0 0 (l.drop k) = O at *
    refine bs.av (sx := nos) kY4_ok ?_
    by_cases hlj : j < l.length
    · have e1' := ev_get hlj
      rw [List.drop_eq_getElem_cons hlj, ownF] at hh2
      generalize hy : l[j] = y at *
      by_cases z1 : IntKind.i64.wrap (y.dh - x.dl) ≤ w
      all_goals
        simp only [if_pos, if_neg, z1, if_true, if_false] at hh2
        repeat' (first | refine wk3 ?_ | (refine wk2 ?_ ?_ <;> intro _) | refine wk4 ?_ | fail); all_goals (conv => whnf)
      all_goals first
        | (exfalso; simp_all; done)
        | exact Done.mk ⟨(j + 1, _, _, _), [], rfl, kps, kps, ⟨W_succ (k := j) (by omega), by omega, hlj, hh2⟩, by dsimp only; omega⟩
    · rw [List.drop_of_length_le (by omega), ownF] at hh2
      subst hh2
      dsimp only at hh
      by_cases z2 : r < e
      all_goals
        simp only [if_pos, if_neg, z2, if_true, if_false] at hh
        repeat' (first | refine wk3 ?_ | (refine wk2 ?_ ?_ <;> intro _) | refine wk4 ?_ | fail); all_goals (conv => whnf)
      all_goals first
        | (exfalso; simp_all; done)
        | exact Done.mk ⟨(k + 1, _, _, _, _), [], rfl, kps, kps, ⟨W_succ (k := k) (by omega), hlt, hh⟩, by dsimp only; omega⟩
  · rw [List.drop_of_length_le (by omega), bstF] at hh
    subst hh
    repeat' (first | refine wk3 ?_ | (refine wk2 ?_ ?_ <;> intro _) | refine wk4 ?_ | fail); all_goals (conv => whnf)
    exact ret_of rfl rfl
end Go.Proofs.YtddhjopopelkjaaGreat
namespace Go.Proofs.YtddhjopopelkjaaGreat
open Go Go.Sx Go.En
def boE (l : List Ech) (w : Int) : Int := if eeV l w ≠ 0 then eeV l w else if l.length = 0 then 12 else 0
def boV (l : List Ech) (w : Int) : Int × Int × Int := if boE l w ≠ 0 then (0, 0, 0) else bstF w 0 (0, 0, -1) l
set_option maxHeartbeats 8000000 in
theorem d54 {l : List Ech} {w : Int} (hl : l.length < 100000) : PCall Tryz.prog 54 [.isl 5 (l.map ev), I w] ⟨.tup [T3 (boV l w), I (boE l w)], []⟩ := by
  have l1 := ev_length l
  have e2 := ceeV_hit hl w
  unfold boV boE
  generalize eeV l w = ee at *
  by_cases he : ee = 0
  · subst he
    by_cases hz : l.length = 0
    · refine bs.pv (sx := nos) kY4_ok Tryz.func54 (by kernel_rfl) (by kernel_rfl) rfl ?_
      repeat' (first | refine wk3 ?_ | (refine wk2 ?_ ?_ <;> intro _) | refine wk4 ?_ | fail); all_goals (conv => whnf)
      all_goals first
        | (exfalso; simp_all; done)
        | (refine ret_of ?_ rfl; simp_all; done)
    · have hb : (if (0 : Int) ≠ 0 then (0 : Int) else if l.length = 0 then 12 else 0) = 0 := by rw [if_neg (fun h => h rfl), if_neg hz]
      rw [hb, if_neg (fun h => h rfl)]
      refine bs.pv (sx := nos) kY4_ok Tryz.func54 (by kernel_rfl) (by kernel_rfl) rfl ?_
      repeat' (first | refine wk3 ?_ | (refine wk2 ?_ ?_ <;> intro _) | refine wk4 ?_ | fail); all_goals (conv => whnf)
      all_goals first
        | (exfalso; simp_all; done)
        | skip
      refine loopV (S := Nat × Int × Int × Int × Int) (fun s => l.length - s.1) (fun s => [(0, .isl 5 (l.map ev)), (1, I w), (4, .ptr 0 0 0), (7, .ptr 1 0 0), (25, .isl 5 (l.map ev)), (26, I (l.map ev).length), (27, I s.2.1)]) (fun s => [(1, .row 3 [[I s.2.2.1, I s.2.2.2.1, I s.2.2.2.2]] true false), (0, .row 3 [[I 0, I 0, I 0]] true false)]) 2 2 (fun s => s.2.1 = s.1 ∧ s.1 ≤ l.length ∧ bstF w s.1 s.2.2 (l.drop s.1) = bstF w 0 (0, 0, -1) l) (0, 0, 0, 0, -1) ⟨rfl, Nat.zero_le _, rfl⟩ (Nat.le_refl _) [] rfl (kps) (kps) ?_
      rintro ⟨k, i, p, q, r⟩ ⟨hi, hk, hh⟩
      dsimp only at hi hk hh ⊢
      subst hi
      generalize bstF w 0 (0, 0, -1) l = R at *
      refine bs.av (sx := nos) kY4_ok ?_
      by_cases hlt : k < l.length
      · have e1 := ev_get hlt
        rw [List.drop_eq_getElem_cons hlt, bstF, ← List.drop_eq_getElem_cons hlt] at hh
        generalize hx : l[k] = x at *
        repeat' (first | refine wk3 ?_ | (refine wk2 ?_ ?_ <;> intro _) | refine wk4 ?_ | fail); all_goals (conv => whnf)
        refine aop_sliceI (ll := ((k : Nat) : Int).toNat) (elems := l.map ev) rfl rfl rfl rfl rfl (by simp; exact hlt) ?_
        conv => whnf
        repeat' (first | refine wk3 ?_ | (refine wk2 ?_ ?_ <;> intro _) | refine wk4 ?_ | fail); all_goals (conv => whnf)
        have l2 : ((l.map ev).drop ((k : Nat) : Int).toNat).length = l.length - k := by rw [List.length_drop, l1]; rfl
        refine loopV (S := Nat × Int × Int × Int) (fun s => l.length - k - s.1) (fun s => [(0, .isl 5 (l.map ev)), (1, I w), (4, .ptr 0 0 0), (7, .ptr 1 0 0), (9, .ptr 2 0 0), (10, .ptr 3 0 0), (25, .isl 5 (l.map ev)), (26, I (l.map ev).length), (27, I (k : Int)), (36, .isl 5 ((l.map ev).drop ((k : Nat) : Int).toNat)), (37, I ((l.map ev).drop ((k : Nat) : Int).toNat).length), (38, I s.2.1)]) (fun s => [(3, .row 3 [[I (k : Int), I s.2.2.1, I s.2.2.2]] true false), (2, .row 5 [ev x] true false), (1, .row 3 [[I p, I q, I r]] true false), (0, .row 3 [[I 0, I 0, I 0]] true false)]) 4 4 (fun s => s.2.1 = s.1 ∧ s.1 ≤ l.length - k ∧ ownF w x.dl s.2.2.1 s.2.2.2 ((l.drop k).drop s.1) = ownF w x.dl 0 0 (l.drop k)) (0, 0, 0, 0) ⟨rfl, Nat.zero_le _, rfl⟩ (Nat.le_refl _) [] rfl (kps) (kps) ?_
        rintro ⟨j, i2, n, e⟩ ⟨hi2, hj, hh2⟩
        dsimp only at hi2 hj hh2 ⊢
        subst hi2
        generalize ownF w x.dl 0 0 (l.drop k) = O at *
        have l3 : (l.drop k).length = l.length - k := List.length_drop
        have l4 : (l.drop k).map ev = (l.map ev).drop ((k : Nat) : Int).toNat := List.map_drop
        refine bs.av (sx := nos) kY4_ok ?_
        by_cases hlj : j < (l.drop k).length
        · have e1' := ev_get hlj
          rw [l4] at e1'
          rw [List.drop_eq_getElem_cons hlj, ownF] at hh2
          generalize (l.drop k)[j] = y at *
          generalize (l.map ev).drop ((k : Nat) : Int).toNat = M at *
          by_cases z1 : IntKind.i64.wrap (y.dh - x.dl) ≤ w
          all_goals
            simp only [if_pos, if_neg, z1, if_true, if_false] at hh2
            repeat' (first | refine wk3 ?_ | (refine wk2 ?_ ?_ <;> intro _) | refine wk4 ?_ | fail); all_goals (conv => whnf)
          all_goals first
            | (exfalso; simp_all; done)
            | exact Done.mk ⟨(j + 1, _, _, _), [], rfl, kps, kps, ⟨W_succ (k := j) (by omega), by omega, hh2⟩, by dsimp only; omega⟩
        · rw [List.drop_of_length_le (by omega), ownF] at hh2
          subst hh2
          dsimp only at hh
          generalize (l.map ev).drop ((k : Nat) : Int).toNat = M at *
          by_cases z2 : r < e
          all_goals
            simp only [if_pos, if_neg, z2, if_true, if_false] at hh
            repeat' (first | refine wk3 ?_ | (refine wk2 ?_ ?_ <;> intro _) | refine wk4 ?_ | fail); all_goals (conv => whnf)
          all_goals first
            | (exfalso; simp_all; done)
            | exact Done.mk ⟨(k + 1, _, _, _, _), [], rfl, kps, kps, ⟨W_succ (k := k) (by omega), hlt, hh⟩, by dsimp only; omega⟩
      · rw [List.drop_of_length_le (by omega), bstF] at hh
        subst hh
        repeat' (first | refine wk3 ?_ | (refine wk2 ?_ ?_ <;> intro _) | refine wk4 ?_ | fail); all_goals (conv => whnf)
        exact ret_of rfl rfl
  · refine bs.pv (sx := nos) kY4_ok Tryz.func54 (by kernel_rfl) (by kernel_rfl) rfl ?_
    repeat' (first | refine wk3 ?_ | (refine wk2 ?_ ?_ <;> intro _) | refine wk4 ?_ | fail); all_goals (conv => whnf)
    all_goals first
      | (exfalso; simp_all; done)
      | (refine ret_of ?_ rfl; simp_all; done)
end Go.Proofs.YtddhjopopelkjaaGreat
