/- A part of the proof: lemmas. -/
import Derived.Test.YtanbhfpalahjcaaGreatG3
import Derived.Test.YtanbhfpalahjcaaGreatG6
import Derived.IntWalk
import Derived.KernelRfl
import Derived.Test.YtanbhfpalahjcaaGreatProg
set_option linter.unusedVariables false
set_option linter.unusedSimpArgs false
set_option maxRecDepth 100000
set_option maxHeartbeats 16000000
open Bool renaming and_eq_true->Qc
open Go.Extern.MathSqrt renaming sqrt->Fs
open Go.IntKind renaming i64->Qb,wrap->Qa
open Go.IntWalk renaming i64_in->Mz
open Go.Sx.Base renaming vcode->Px
open Go.Sx.Bd renaming mk->Dg
open Go.Sx.Br renaming intro->Wz
open Go.Sx.Done renaming mk->Qr
open Go.Sx.Dr renaming intro->Qbk
open Go.Sx.Got renaming intro->Wd
open Go.Sx.LpM renaming start->Mc,succ->Wt
open Go.Sx.Ren renaming of->Pn
open Go.Sx.Rg renaming ren->Ft
open Int renaming not_lt->Mu
open List renaming drop_eq_getElem_cons->Ql,drop_of_length_le->Qo,getElem_mem->Qn,map_cons->Ss,range->Rv
open List.cons renaming injEq->Rd
open Nat renaming beq->Qs,blt->Pp,blt_eq->Th,eq_of_beq_eq_true->Qh,le_refl->Qd,mod_lt->Tx,zero_le->Qp
open Option.some renaming injEq->Qf
namespace Go.Proofs.YtanbhfpalahjcaaGreat
open Go Go.Sx
noncomputable def tbl:List (Nat × TI) :=
  [(2, ⟨.int .i64, 1, 8, false, [.int .i64 0]⟩),
   (3, ⟨.int .i64, 1, 8, false, [.int .i64 0]⟩),
   (4, ⟨.bool, 1, 1, false, [.bool false]⟩),
   (5, ⟨.int .u8, 1, 1, false, [.int .u8 0]⟩),
   (6, ⟨.int .u8, 1, 1, false, [.int .u8 0]⟩),
   (8, ⟨.struct #[⟨ "x", 2, 0, false, "", "runtime", 0⟩, ⟨ "y", 3, 1, false, "", "runtime", 8⟩, ⟨ "signed", 4, 2, false, "", "runtime", 16⟩, ⟨ "code", 6, 3, false, "", "runtime", 17⟩], 4, 24, true, [.int .i64 0, .int .i64 0, .bool false, .int .u8 0]⟩),
   (9, ⟨.string, 1, 16, false, [.str ⟨#[]⟩]⟩),
   (10, ⟨.string, 1, 16, false, [.str ⟨#[]⟩]⟩),
   (11, ⟨.string, 1, 16, false, [.str ⟨#[]⟩]⟩),
   (12, ⟨.int .u64, 1, 8, false, [.int .u64 0]⟩),
   (14, ⟨.struct #[⟨ "msg", 9, 0, false, "", "runtime", 0⟩, ⟨ "addr", 12, 1, false, "", "runtime", 16⟩], 2, 24, true, [.str ⟨#[]⟩, .int .u64 0]⟩),
   (15, ⟨.pointer 335, 1, 8, false, [.nilp]⟩),
   (16, ⟨.pointer 338, 1, 8, false, [.nilp]⟩),
   (17, ⟨.pointer 346, 1, 8, false, [.nilp]⟩),
   (19, ⟨.struct #[⟨ "typ", 17, 0, false, "", "internal/runtime/maps", 0⟩], 1, 8, true, [.nilp]⟩),
   (22, ⟨.slice 99, 1, 24, false, [.nils]⟩),
   (23, ⟨.slice 30, 1, 24, false, [.nils]⟩),
   (24, ⟨.slice 97, 1, 24, false, [.nils]⟩),
   (25, ⟨.slice 101, 1, 24, false, [.nils]⟩),
   (26, ⟨.slice 103, 1, 24, false, [.nils]⟩),
   (28, ⟨.struct #[⟨ "Name", 9, 0, false, "", "", 0⟩, ⟨ "Height", 3, 1, false, "", "", 16⟩, ⟨ "Floor", 9, 2, false, "", "", 24⟩, ⟨ "Ceiling", 9, 3, false, "", "", 40⟩, ⟨ "Materials", 22, 4, false, "", "", 56⟩, ⟨ "Corners", 23, 5, false, "", "", 80⟩, ⟨ "Walls", 24, 6, false, "", "", 104⟩, ⟨ "Canopies", 25, 7, false, "", "", 128⟩, ⟨ "Seats", 26, 8, false, "", "", 152⟩], 9, 176, true, [.str ⟨#[]⟩, .int .i64 0, .str ⟨#[]⟩, .str ⟨#[]⟩, .nils, .nils, .nils, .nils, .nils]⟩),
   (30, ⟨.struct #[⟨ "X", 3, 0, false, "", "", 0⟩, ⟨ "Y", 3, 1, false, "", "", 8⟩], 2, 16, true, [.int .i64 0, .int .i64 0]⟩),
   (31, ⟨.array 3 3, 3, 24, true, [.int .i64 0, .int .i64 0, .int .i64 0]⟩),
   (34, ⟨.struct #[⟨ "X", 3, 0, false, "", "", 0⟩, ⟨ "Y", 3, 1, false, "", "", 8⟩], 2, 16, true, [.int .i64 0, .int .i64 0]⟩),
   (35, ⟨.slice 3, 1, 24, false, [.nils]⟩),
   (36, ⟨.int .i64, 1, 8, false, [.int .i64 0]⟩),
   (47, ⟨.array 4 3, 4, 32, true, [.int .i64 0, .int .i64 0, .int .i64 0, .int .i64 0]⟩),
   (49, ⟨.slice 53, 1, 24, false, [.nils]⟩),
   (53, ⟨.struct #[⟨ "Walls", 35, 0, false, "", "", 0⟩, ⟨ "At", 30, 1, false, "", "", 24⟩, ⟨ "From", 34, 3, false, "", "", 40⟩, ⟨ "To", 34, 5, false, "", "", 56⟩, ⟨ "Next", 3, 7, false, "", "", 72⟩], 8, 80, true, [.nils, .int .i64 0, .int .i64 0, .int .i64 0, .int .i64 0, .int .i64 0, .int .i64 0, .int .i64 0]⟩),
   (61, ⟨.array 2 3, 2, 16, true, [.int .i64 0, .int .i64 0]⟩),
   (69, ⟨.struct #[⟨ "X", 3, 0, false, "", "", 0⟩, ⟨ "Y", 3, 1, false, "", "", 8⟩, ⟨ "Z", 3, 2, false, "", "", 16⟩], 3, 24, true, [.int .i64 0, .int .i64 0, .int .i64 0]⟩),
   (71, ⟨.struct #[⟨ "From", 69, 0, false, "", "", 0⟩, ⟨ "To", 69, 3, false, "", "", 24⟩, ⟨ "Order", 3, 6, false, "", "", 48⟩], 7, 56, true, [.int .i64 0, .int .i64 0, .int .i64 0, .int .i64 0, .int .i64 0, .int .i64 0, .int .i64 0]⟩),
   (73, ⟨.slice 35, 1, 24, false, [.nils]⟩),
   (79, ⟨.struct #[⟨ "Heights", 35, 0, false, "", "", 0⟩, ⟨ "Drawn", 35, 1, false, "", "", 24⟩], 2, 48, true, [.nils, .nils]⟩),
   (83, ⟨.slice 95, 1, 24, false, [.nils]⟩),
   (85, ⟨.struct #[⟨ "Surfaces", 35, 0, false, "", "", 0⟩, ⟨ "Points", 83, 1, false, "", "", 24⟩, ⟨ "Square", 3, 2, false, "", "", 48⟩], 3, 56, true, [.nils, .nils, .int .i64 0]⟩),
   (91, ⟨.struct #[⟨ "Lo", 3, 0, false, "", "", 0⟩, ⟨ "Hi", 3, 1, false, "", "", 8⟩], 2, 16, true, [.int .i64 0, .int .i64 0]⟩),
   (95, ⟨.struct #[⟨ "X", 3, 0, false, "", "", 0⟩, ⟨ "Y", 3, 1, false, "", "", 8⟩, ⟨ "Z", 3, 2, false, "", "", 16⟩, ⟨ "Den", 3, 3, false, "", "", 24⟩], 4, 32, true, [.int .i64 0, .int .i64 0, .int .i64 0, .int .i64 0]⟩),
   (97, ⟨.struct #[⟨ "Name", 9, 0, false, "", "", 0⟩, ⟨ "Material", 9, 1, false, "", "", 16⟩, ⟨ "Curtain", 9, 2, false, "", "", 32⟩], 3, 48, true, [.str ⟨#[]⟩, .str ⟨#[]⟩, .str ⟨#[]⟩]⟩),
   (99, ⟨.struct #[⟨ "Name", 9, 0, false, "", "", 0⟩, ⟨ "Absorbed", 47, 1, false, "", "", 16⟩, ⟨ "Scattered", 3, 5, false, "", "", 48⟩], 6, 56, true, [.str ⟨#[]⟩, .int .i64 0, .int .i64 0, .int .i64 0, .int .i64 0, .int .i64 0]⟩),
   (101, ⟨.struct #[⟨ "Name", 9, 0, false, "", "", 0⟩, ⟨ "Material", 9, 1, false, "", "", 16⟩, ⟨ "From", 30, 2, false, "", "", 32⟩, ⟨ "To", 30, 4, false, "", "", 48⟩, ⟨ "Heights", 35, 6, false, "", "", 64⟩], 7, 88, true, [.str ⟨#[]⟩, .str ⟨#[]⟩, .int .i64 0, .int .i64 0, .int .i64 0, .int .i64 0, .nils]⟩),
   (103, ⟨.struct #[⟨ "Name", 9, 0, false, "", "", 0⟩, ⟨ "At", 69, 1, false, "", "", 16⟩], 4, 40, true, [.str ⟨#[]⟩, .int .i64 0, .int .i64 0, .int .i64 0]⟩),
   (108, ⟨.func #[3] #[36] false, 1, 8, false, [.any]⟩),
   (110, ⟨.struct #[⟨ "Hall", 28, 0, true, "", "", 0⟩], 9, 176, true, [.str ⟨#[]⟩, .int .i64 0, .str ⟨#[]⟩, .str ⟨#[]⟩, .nils, .nils, .nils, .nils, .nils]⟩),
   (112, ⟨.struct #[⟨ "x", 3, 0, false, "", "shoebox/image", 0⟩, ⟨ "y", 3, 1, false, "", "shoebox/image", 8⟩], 2, 16, true, [.int .i64 0, .int .i64 0]⟩),
   (115, ⟨.struct #[⟨ "at", 30, 0, false, "", "shoebox/image", 0⟩, ⟨ "way", 112, 2, false, "", "shoebox/image", 16⟩, ⟨ "last", 3, 4, false, "", "shoebox/image", 32⟩], 5, 40, true, [.int .i64 0, .int .i64 0, .int .i64 0, .int .i64 0, .int .i64 0]⟩),
   (117, ⟨.struct #[⟨ "num", 3, 0, false, "", "shoebox/image", 0⟩, ⟨ "den", 3, 1, false, "", "shoebox/image", 8⟩], 2, 16, true, [.int .i64 0, .int .i64 0]⟩),
   (119, ⟨.struct #[⟨ "share", 117, 0, true, "", "shoebox/image", 0⟩, ⟨ "wall", 3, 2, false, "", "shoebox/image", 16⟩, ⟨ "well", 4, 3, false, "", "shoebox/image", 24⟩], 4, 32, true, [.int .i64 0, .int .i64 0, .int .i64 0, .bool false]⟩),
   (124, ⟨.struct #[⟨ "Num", 3, 0, false, "", "", 0⟩, ⟨ "Den", 3, 1, false, "", "", 8⟩, ⟨ "On", 4, 2, false, "", "", 16⟩, ⟨ "Well", 4, 3, false, "", "", 17⟩], 4, 24, true, [.int .i64 0, .int .i64 0, .bool false, .bool false]⟩),
   (128, ⟨.struct #[⟨ "X", 3, 0, false, "", "", 0⟩, ⟨ "Y", 3, 1, false, "", "", 8⟩, ⟨ "DX", 3, 2, false, "", "", 16⟩, ⟨ "DY", 3, 3, false, "", "", 24⟩], 4, 32, true, [.int .i64 0, .int .i64 0, .int .i64 0, .int .i64 0]⟩),
   (135, ⟨.struct #[⟨ "Kind", 3, 0, false, "", "", 0⟩, ⟨ "At", 3, 1, false, "", "", 8⟩], 2, 16, true, [.int .i64 0, .int .i64 0]⟩),
   (138, ⟨.func #[53, 53] #[4] false, 1, 8, false, [.any]⟩),
   (144, ⟨.func #[35] #[4] false, 1, 8, false, [.any]⟩),
   (147, ⟨.struct #[⟨ "List", 3, 0, false, "", "", 0⟩, ⟨ "Number", 3, 1, false, "", "", 8⟩], 2, 16, true, [.int .i64 0, .int .i64 0]⟩),
   (156, ⟨.struct #[⟨ "Hall", 28, 0, true, "", "", 0⟩, ⟨ "setting", 79, 9, false, "", "shoebox/image", 176⟩], 11, 224, true, [.str ⟨#[]⟩, .int .i64 0, .str ⟨#[]⟩, .str ⟨#[]⟩, .nils, .nils, .nils, .nils, .nils, .nils, .nils]⟩),
   (162, ⟨.slice 36, 1, 24, false, [.nils]⟩),
   (174, ⟨.struct #[⟨ "X", 3, 0, false, "", "", 0⟩, ⟨ "Y", 3, 1, false, "", "", 8⟩, ⟨ "DX", 3, 2, false, "", "", 16⟩, ⟨ "DY", 3, 3, false, "", "", 24⟩], 4, 32, true, [.int .i64 0, .int .i64 0, .int .i64 0, .int .i64 0]⟩),
   (181, ⟨.slice 34, 1, 24, false, [.nils]⟩),
   (199, ⟨.slice 9, 1, 24, false, [.nils]⟩),
   (202, ⟨.slice 69, 1, 24, false, [.nils]⟩),
   (207, ⟨.struct #[⟨ "Surface", 3, 0, false, "", "", 0⟩, ⟨ "From", 69, 1, false, "", "", 8⟩, ⟨ "To", 95, 4, false, "", "", 32⟩], 8, 64, true, [.int .i64 0, .int .i64 0, .int .i64 0, .int .i64 0, .int .i64 0, .int .i64 0, .int .i64 0, .int .i64 0]⟩),
   (210, ⟨.struct #[⟨ "From", 95, 0, false, "", "", 0⟩, ⟨ "To", 95, 4, false, "", "", 32⟩], 8, 64, true, [.int .i64 0, .int .i64 0, .int .i64 0, .int .i64 0, .int .i64 0, .int .i64 0, .int .i64 0, .int .i64 0]⟩),
   (215, ⟨.struct #[⟨ "Hall", 28, 0, true, "", "", 0⟩], 9, 176, true, [.str ⟨#[]⟩, .int .i64 0, .str ⟨#[]⟩, .str ⟨#[]⟩, .nils, .nils, .nils, .nils, .nils]⟩),
   (217, ⟨.map 9 4, 1, 8, false, [.any]⟩),
   (218, ⟨.func #[] #[3, 36] false, 1, 8, false, [.any]⟩),
   (220, ⟨.struct #[⟨ "list", 3, 0, false, "", "shoebox/hall", 0⟩, ⟨ "check", 218, 1, false, "", "shoebox/hall", 8⟩], 2, 16, true, [.int .i64 0, .any]⟩),
   (224, ⟨.func #[] #[36] false, 1, 8, false, [.any]⟩),
   (228, ⟨.struct #[⟨ "number", 3, 0, false, "", "shoebox/hall", 0⟩, ⟨ "from", 30, 1, false, "", "shoebox/hall", 8⟩, ⟨ "to", 30, 3, false, "", "shoebox/hall", 24⟩], 5, 40, true, [.int .i64 0, .int .i64 0, .int .i64 0, .int .i64 0, .int .i64 0]⟩),
   (233, ⟨.array 15 220, 30, 240, true, [.int .i64 0, .any, .int .i64 0, .any, .int .i64 0, .any, .int .i64 0, .any, .int .i64 0, .any, .int .i64 0, .any, .int .i64 0, .any, .int .i64 0, .any, .int .i64 0, .any, .int .i64 0, .any, .int .i64 0, .any, .int .i64 0, .any, .int .i64 0, .any, .int .i64 0, .any, .int .i64 0, .any]⟩),
   (241, ⟨.slice 112, 1, 24, false, [.nils]⟩),
   (244, ⟨.func #[293] #[] false, 1, 8, false, [.any]⟩),
   (246, ⟨.func #[112, 112] #[3] false, 1, 8, false, [.any]⟩),
   (259, ⟨.array 4 174, 16, 128, true, [.int .i64 0, .int .i64 0, .int .i64 0, .int .i64 0, .int .i64 0, .int .i64 0, .int .i64 0, .int .i64 0, .int .i64 0, .int .i64 0, .int .i64 0, .int .i64 0, .int .i64 0, .int .i64 0, .int .i64 0, .int .i64 0]⟩),
   (268, ⟨.struct #[⟨ "room", 215, 0, true, "", "shoebox/hall", 0⟩, ⟨ "HallSetting", 79, 9, true, "", "", 176⟩], 11, 224, true, [.str ⟨#[]⟩, .int .i64 0, .str ⟨#[]⟩, .str ⟨#[]⟩, .nils, .nils, .nils, .nils, .nils, .nils, .nils]⟩),
   (279, ⟨.slice 5, 1, 24, false, [.nils]⟩),
   (280, ⟨.slice 224, 1, 24, false, [.nils]⟩),
   (283, ⟨.func #[228] #[4] false, 1, 8, false, [.any]⟩),
   (286, ⟨.struct #[⟨ "x", 91, 0, false, "", "shoebox/hall", 0⟩, ⟨ "y", 91, 2, false, "", "shoebox/hall", 16⟩], 4, 32, true, [.int .i64 0, .int .i64 0, .int .i64 0, .int .i64 0]⟩),
   (291, ⟨.func #[293] #[] false, 1, 8, false, [.any]⟩),
   (293, ⟨.func #[112] #[4] false, 1, 8, false, [.any]⟩),
   (297, ⟨.struct #[⟨ "from", 95, 0, false, "", "shoebox/hall", 0⟩, ⟨ "to", 95, 4, false, "", "shoebox/hall", 32⟩], 8, 64, true, [.int .i64 0, .int .i64 0, .int .i64 0, .int .i64 0, .int .i64 0, .int .i64 0, .int .i64 0, .int .i64 0]⟩),
   (299, ⟨.float .f64, 1, 8, false, [.flt .f64 0]⟩),
   (304, ⟨.int .u64, 1, 8, false, [.int .u64 0]⟩),
   (311, ⟨.int .i64, 1, 8, false, [.int .i64 0]⟩),
   (319, ⟨.int .u32, 1, 4, false, [.int .u32 0]⟩),
   (321, ⟨.int .u64, 1, 8, false, [.int .u64 0]⟩),
   (322, ⟨.array 4 30, 8, 64, true, [.int .i64 0, .int .i64 0, .int .i64 0, .int .i64 0, .int .i64 0, .int .i64 0, .int .i64 0, .int .i64 0]⟩),
   (323, ⟨.int .u64, 1, 8, false, [.int .u64 0]⟩),
   (327, ⟨.pointer 3, 1, 8, false, [.nilp]⟩),
   (331, ⟨.pointer 323, 1, 8, false, [.nilp]⟩),
   (340, ⟨.int .u8, 1, 1, false, [.int .u8 0]⟩)]
def eqs:List Nat:=[30,34,69,91,95,112]
theorem Yh6:(tbl.map fun p=>mkTI Tryz.prog p.1)=tbl.map fun p=>some p.2:=by kernel_rfl
theorem Zzq:TabOK Tryz.prog (tget tbl):=Zzp Yh6
theorem Yim:(eqs.all fun t=>!Tryz.prog.stoodInHeld t && !Tryz.prog.eqGuardType Tryz.prog.depth t)=true:=by kernel_rfl
theorem eqOK:EqOK Tryz.prog (memN eqs):=Yez Yim
abbrev I (n:Int):AV:=.int .i64 n
def pt0:PC:=fun _ _=>none
theorem Ze:PCOK Tryz.prog pt0:=fun _ _ _ h=>by cases h
theorem mixed:Tryz.prog.follows .mixedOrders=true:=by kernel_rfl
noncomputable def bs:Base Tryz.prog:=⟨tget tbl,memN eqs,Zzq,eqOK,mixed⟩
def nos:FuncId->Bool:=fun _=>false
def sgn (n:Int):Int:=if n>0 then 1 else if n<0 then -1 else 0
theorem c115 (n:Int):PCall Tryz.prog 196 [I n] ⟨I (sgn n),[]⟩:=by
 refine bs.pcall (sx:=nos) Ze Tryz.func196 (by kernel_rfl) (by kernel_rfl) rfl ?_
 refine Wz (fun h1=>?_) (fun h1=>?_)
 ·exact Zcx (by simp at h1; simp [sgn,h1])
 ·refine Wz (fun h2=>?_) (fun h2=>?_)
  ·exact Zcx (by simp at h1 h2; simp [sgn,h2,Mu.2 h1])
  ·exact Zcx (by simp at h1 h2; simp [sgn,Mu.2 h2,Mu.2 h1])
theorem c145 {nm ht fl ce ms wa ca se:AV} {es:List (List AV)} {i:Nat} {x y u v:Int} (hn:es.length<1000) (h1:es[i]?=some [I x,I y]) (h2:es[(i+1)%es.length]?=some [I u,I v]) :
  PCall Tryz.prog 144 [.agg [nm,ht,fl,ce,ms,.isl 2 es,wa,ca,se],I i] ⟨.agg [I i,I x,I y,I u,I v],[]⟩:=by
 have hi:i<es.length:=(List.getElem?_eq_some_iff.1 h1).1
 have hw:Qa Qb ((i:Int)+1)=((i+1:Nat):Int):=Mz _ ⟨by omega,by omega⟩
 have hm:(Qa Qb ((i:Int)+1)).tmod (es.length:Int)=(((i+1)%es.length:Nat):Int):=by rw [hw]; rfl
 refine bs.pcall (sx:=nos) Ze Tryz.func144 (by kernel_rfl) (by kernel_rfl) rfl ?_
 refine Wd h1 ?_
 have hp:0<es.length:=by omega
 refine As.np (by omega) ?_
 refine As.p (by rw [hm]; exact Int.natCast_nonneg _) ?_
 refine Wd (x:=[I u,I v]) (by rw [hm]; exact h2) ?_
 refine Qbk (by kernel_rfl) ?_
 refine Wd rfl ?_
 exact Zay rfl rfl
abbrev pt (p:Int × Int):List AV:=[I p.1,I p.2]
def cor (ps:List (Int × Int)) (i:Nat):Int × Int:=ps.getD i (0,0)
def Zzk (ps:List (Int × Int)) (i:Nat):AV:=.agg [I i,I (cor ps i).1,I (cor ps i).2,I (cor ps ((i+1)%ps.length)).1,I (cor ps ((i+1)%ps.length)).2]
def Zen (ps:List (Int × Int)):List (List AV):=(Rv ps.length).map fun i=>[Zzk ps i]
theorem Zc8 {ps:List (Int × Int)} {i:Nat} (h:i<ps.length):(ps.map pt)[i]?=some [I (cor ps i).1,I (cor ps i).2]:=by
 simp [cor,h]
def r145:List AV->Option PRes
 | [.agg [_,_,_,_,_,.isl 2 es,_,_,_],.int .i64 (.ofNat i)]=>match es[i]?,es[(i+1)%es.length]? with
  | some [.int .i64 x,.int .i64 y],some [.int .i64 u,.int .i64 v]=>cond (Pp es.length 1000) (some ⟨.agg [I i,I x,I y,I u,I v],[]⟩) none
  | _,_=>none
 | _=>none
def pcW:PC:=fun f a=>cond (Qs f 144) (r145 a) none
theorem Ybv:PCOK Tryz.prog pcW:=by
 intro f a res h
 unfold pcW at h
 cases hb:Qs f 144 with
 | false=>rw [hb] at h; cases h
 | true =>
  rw [hb] at h
  rw [Qh hb]
  simp only [cond_true] at h
  unfold r145 at h
  split at h
  ·split at h
   ·rename_i h1 h2
    obtain ⟨h3,h4⟩:=Zd h
    cases h4
    exact c145 (by simpa [Th] using h3) h1 h2
   ·cases h
  ·cases h
theorem Yg2 {nm ht fl ce ms wa ca se:AV} {ps:List (Int × Int)} (hp:Yo [nm,ht,fl,ce,ms,wa,ca,se]=true) (hn:ps.length<1000) :
  ItOK Tryz.prog 208 [.agg [nm,ht,fl,ce,ms,.isl 2 (ps.map pt),wa,ca,se]] [] (Zen ps):=by
 refine bs.iter Ybv Tryz.func208 (by kernel_rfl) rfl (by kernel_rfl) fun B Ig l JX hI=>?_
 refine Zw9 (S:=Nat) (fun k=>ps.length-k) (fun k=>[(1,.yld l),(2,.ptr 0 0 0),(8,I ps.length),(9,I k)]) (fun _=>⟨[(0,.row 9 [[nm,ht,fl,ce,ms,.isl 2 (ps.map pt),wa,ca,se]] true false)],1⟩) (fun k=>some ((Zen ps).drop k)) [1,2,8,9] [0] (fun k=>k<=ps.length) ?_ 0 (Qp _) ?_ rfl rfl
 ·intro k hk
  refine bs.awpi Ybv hI ?_
  refine Br.dec (fun hlt=>?_) (fun hge=>?_)
  ·have hlt:k<ps.length:=by omega
   have hx:(Zen ps).drop k=[Zzk ps k]::(Zen ps).drop (k+1):=by
    rw [Ql (by simp [Zen,hlt])]; simp [Zen]
   rw [hx]
   have hpu:Yo [.agg [nm,ht,fl,ce,ms,.isl 2 (ps.map pt),wa,ca,se],I k]=true:=by
    simp only [Yo,Yb,Qc,Bool.and_true] at hp ⊢; simp [hp]
   have hr:r145 [.agg [nm,ht,fl,ce,ms,.isl 2 (ps.map pt),wa,ca,se],I k]=some ⟨Zzk ps k,[]⟩:=by
    have e1:=Zc8 hlt
    have e2:=Zc8 (ps:=ps) (i:=(k+1)%ps.length) (Tx _ (by omega))
    have hl:(ps.map pt).length=ps.length:=by simp
    show (match (ps.map pt)[k]?,(ps.map pt)[(k+1)%(ps.map pt).length]? with
     | some [.int .i64 x,.int .i64 y],some [.int .i64 u,.int .i64 v]=>cond (Pp (ps.map pt).length 1000) (some (PRes.mk (.agg [I k,I x,I y,I u,I v]) [])) none
     | _,_=>none)=_
    rw [hl,e1,e2]
    have:Pp ps.length 1000=true:=by simpa [Th] using hn
    simp only [this]; rfl
   refine Wd (Ztn _ hpu) ?_
   refine Wd hr ?_
   refine ⟨rfl,rfl,rfl,rfl,?_,?_⟩
   ·refine ⟨k+1,by omega,by omega,?_,rfl,rfl⟩
    have hw:Qa Qb ((k:Int)+1)=((k+1:Nat):Int):=Mz _ ⟨by omega,by omega⟩
    exact congrArg (fun x=>[(1,AV.yld l),(2,.ptr 0 0 0),(8,I ps.length),(9,I x)]) hw
   ·refine ⟨.inr rfl,.inr rfl,?_⟩
    exact ⟨[],rfl⟩
  ·have:k=ps.length:=by omega
   subst this
   refine ⟨.inl rfl,.inl ?_,[],rfl⟩
   simp [Zen]
 ·exact congrArg (fun x:Nat=>[(1,AV.yld l),(2,.ptr 0 0 0),(8,I x),(9,I 0)]) (by simp)
def hd1 (e:List AV):AV:=e.headD .any
theorem Zlw {P:Program} {F:Fence} {n:Nat} {ops:Array Oper} {Q:Exit->Act->World->Prop} {o:Oper} {rest:List Oper} {a:Act} {w:World} (hg:o.guard=none) (h:o.wpIn F n P a w (wpListIn F n P ops Q rest) Q):wpListIn F n P ops Q (o::rest) a w:=by
 unfold wpListIn
 rw [if_pos (by simp [Region.wanted,hg])]
 exact h
theorem c202 {x y:Nat} (h:FloatKind.f64.format.sqrt x=some y):PCall Tryz.prog 233 [.flt .f64 x] ⟨.flt .f64 y,[]⟩:=by
 refine Zbv (FnOK.of Tryz.func233 (by kernel_rfl) (by kernel_rfl)) rfl (Zs7 bs.hT Tryz.func233 (c:=_) rfl (Nat.le_of_ble_eq_true (by kernel_rfl)) ?_)
 refine Zrb (bs.awp (sx:=nos) Ze ?_)
 refine Zrb ?_
 intro F B w0 I0 pr r I D a w hF hR S
 refine wpIn_region_list ?_
 refine Zlw rfl ?_
 refine Zd8 (Zln (sx:=nos) bs.hT bs.hok Ze) hF _ (fun c e=>by cases e) S (K:=fun env σ=>env=[(3,.flt .f64 x),(2,.flt .f64 0),(0,.flt .f64 x)]/\σ=⟨[],0⟩) ⟨rfl,rfl⟩ (fun a1 w1 hl=>?_)
 obtain ⟨env1,σ1,r1,I1,D1,⟨rfl,rfl⟩,S1,hd1,st1⟩:=hl
 refine Zlw rfl ?_
 refine Ygc hF _ S1 (K:=fun env σ=>env=[(4,.flt .f64 y),(3,.flt .f64 x),(2,.flt .f64 0),(0,.flt .f64 x)]/\σ=⟨[],0⟩) rfl rfl Tryz.func245 (by kernel_rfl) (by kernel_rfl) (by kernel_rfl) (e:=Fs) (by kernel_rfl) (v:=.flt .f64 y) (fun vs hv=>?_) ⟨rfl,rfl⟩ (fun a2 w2 hl=>?_)
 ·have e0:vs.size=1:=hv.1
  have hx:=hv.2 0 (.flt .f64 x) vs[0] rfl (by simp [e0])
  have e1:vs = #[.float .f64 x]:=by
   apply Array.ext
   ·simpa using e0
   ·intro i h1 h2
    have:i=0:=by simp at h2; omega
    subst this
    generalize vs[0]=z at hx
    cases hx; rfl
  subst e1
  have e2:Fs #[.float .f64 x]=(match FloatKind.f64.format.sqrt x with
   | some r=>pure (.float .f64 r)
   | none=>do pure (.float .f64 (<-choose (.nanBits .f64 x x)))):=rfl
  exact ⟨.float .f64 y,by rw [e2,h]; rfl,.flt _ _ _⟩
 obtain ⟨env2,σ2,r2,I2,D2,⟨rfl,rfl⟩,S2,hd2,st2⟩:=hl
 refine Zlw rfl ?_
 refine Zd8 (Zln (sx:=nos) bs.hT bs.hok Ze) hF _ (fun c e=>by cases e) S2 (K:=fun env σ=>env=[(2,.flt .f64 y),(4,.flt .f64 y),(3,.flt .f64 x),(2,.flt .f64 0),(0,.flt .f64 x)]/\σ=⟨[],0⟩) ⟨rfl,rfl⟩ (fun a3 w3 hl=>?_)
 obtain ⟨env3,σ3,r3,I3,D3,⟨rfl,rfl⟩,S3,hd3,st3⟩:=hl
 have st:=(st1.trans st2).trans st3
 refine ⟨pr,[],_,_,r3,I3,D3,fun _ _ h=>h,fun d hd=>by simp at hd,.nil,by rw [hd3,hd2,hd1]; rfl,?_,S3,st,st.size⟩
 refine Zy3 ?_
 exact Wd rfl (Zay rfl rfl)
def Zjg:List (List AV)->Option (List (Int × Int))
 | []=>some []
 | [.int .i64 x,.int .i64 y]::l=>match Zjg l with
  | some ps=>some ((x,y)::ps)
  | none=>none
 | _=>none
theorem Zt0:∀ {es:List (List AV)} {ps:List (Int × Int)},Zjg es=some ps->es=ps.map pt:=by
 intro es
 induction es with
 | nil=>intro ps h; simp only [Zjg,Qf] at h; subst h; rfl
 | cons e l ih =>
  intro ps h
  unfold Zjg at h
  split at h
  ·rename_i h0; cases h0
  ·rename_i x y l' h0
   cases h0
   split at h
   ·rename_i qs hq
    cases h
    rw [ih hq]; rfl
   ·cases h
  ·cases h
def Ya3 (c0 c1:List AV):Option (List (List AV)):=match c0,c1 with
 | [.agg [nm,ht,fl,ce,ms,.isl 2 es,wa,ca,se]],[]=>match Zjg es with
  | some ps=>cond (Yo [nm,ht,fl,ce,ms,wa,ca,se]&&Pp ps.length 1000) (some (Zen ps)) none
  | none=>none
 | _,_=>none
def itT:ITab:=fun g c0 c1=>cond (Qs g 208) (Ya3 c0 c1) none
theorem Ycc:∀ g c0 c1 xs,itT g c0 c1=some xs->ItOK Tryz.prog g c0 c1 xs:=by
 intro g c0 c1 xs h
 unfold itT at h
 obtain ⟨h1,h⟩:=Zd h
 rw [Qh h1]
 unfold Ya3 at h
 split at h
 ·split at h
  ·rename_i ps hps
   obtain ⟨h2,h⟩:=Zd h
   cases h
   simp only [Qc,Th] at h2
   rw [Zt0 hps]
   exact Yg2 h2.1 h2.2
  ·cases h
 ·cases h
def Zvg:PC:=fun f a=>cond (Qs f 233) (match a with
 | [.flt .f64 x]=>match FloatKind.f64.format.sqrt x with
  | some y=>some ⟨.flt .f64 y,[]⟩
  | none=>none
 | _=>none) none
theorem Zl6:PCOK Tryz.prog Zvg:=by
 intro f a res h
 unfold Zvg at h
 obtain ⟨h1,h⟩:=Zd h
 rw [Qh h1]
 split at h
 ·split at h
  ·rename_i hs; cases h; exact c202 hs
  ·cases h
 ·cases h
noncomputable def exT (xs:List Nat) (pt:PC):CF:=exG Tryz.prog (tget tbl) (memN eqs) itT (memN xs) pt 1000 40
theorem Yhf {xs:List Nat} {pt:PC} (hpt:PCOK Tryz.prog pt):CFOK Tryz.prog (exT xs pt):=Zj3 Zzq eqOK Ycc mixed hpt 40
def isR (v0:AV):Option PRes->Bool
 | some ⟨v,[]⟩=>eqA v v0
 | _=>false
theorem Ycd {v0:AV} {o:Option PRes} (h:isR v0 o=true):o=some ⟨v0,[]⟩:=by
 unfold isR at h
 split at h
 ·rw [Zx9 _ _ h]
 ·cases h
theorem Zr2 {xs:List Nat} {pt:PC} (hpt:PCOK Tryz.prog pt) {f:FuncId} {a:List AV} {v:AV} (h:isR v (pcF (exT xs pt) f a)=true):PCall Tryz.prog f a ⟨v,[]⟩:=Zmi (Yhf hpt) (Ycd h)
def Zbl (f0:FuncId) (a0:List AV) (v0:AV) (pt:PC):PC:=fun f a=>cond (Qs f f0&&eqL a a0) (some ⟨v0,[]⟩) (pt f a)
theorem Ym {f0:FuncId} {a0:List AV} {v0:AV} {pt:PC} (h0:PCall Tryz.prog f0 a0 ⟨v0,[]⟩) (h:PCOK Tryz.prog pt):PCOK Tryz.prog (Zbl f0 a0 v0 pt):=by
 intro f a res hr
 unfold Zbl at hr
 cases hb:(Qs f f0&&eqL a a0) with
 | true =>
  rw [hb] at hr
  cases hr
  simp only [Qc] at hb
  rw [Qh hb.1,Ze2 _ _ hb.2]
  exact h0
 | false=>rw [hb] at hr; exact h f a res hr
theorem pn {pc:PC} (hpc:PCOK Tryz.prog pc) {f:FuncId} {fn:Func} (hf:Tryz.prog.funcs[f]?=some fn) {args:List AV} {res:PRes} (hv:Zbq (cxV Tryz.prog bs.T bs.ok nos pc) (hdV Tryz.prog bs.T bs.ok nos pc) fn args ⟨[],0⟩ (fun v σ=>fA v fun v=>Ret res v σ)) (h1:(fn.name == "runtime.NumGoroutine")=false:=by kernel_rfl) (h2:fn.body.isNone=false:=by kernel_rfl) (hids:Vj res.blks.length res.v=true:=by rfl):PCall Tryz.prog f args res:=bs.pv (sx:=nos) hpc hf h1 h2 hids hv
def ins (f0:FuncId) (r:List AV->Option PRes) (pt:PC):PC:=fun f a=>cond (Qs f f0) (r a) (pt f a)
theorem Zk {f0:FuncId} {r:List AV->Option PRes} {pt:PC} (h0:∀ a res,r a=some res->PCall Tryz.prog f0 a res) (h:PCOK Tryz.prog pt):PCOK Tryz.prog (ins f0 r pt):=by
 intro f a res hr
 unfold ins at hr
 cases hb:Qs f f0 with
 | true=>rw [hb] at hr; rw [Qh hb]; exact h0 a res hr
 | false=>rw [hb] at hr; exact h f a res hr
abbrev Bo (b:Bool):AV:=.bool b
abbrev P2 (x y:Int):AV:=.agg [I x,I y]
abbrev P3 (x y z:Int):AV:=.agg [I x,I y,I z]
abbrev P4 (x y z d:Int):AV:=.agg [I x,I y,I z,I d]
def within (n lo hi:Int):Bool:=decide (lo<=n)&&decide (n<=hi)
theorem c78 (n lo hi:Int):PCall Tryz.prog 129 [I n,I lo,I hi] ⟨Bo (within n lo hi),[]⟩:=by
 refine bs.pcall (sx:=nos) Ze Tryz.func129 (by kernel_rfl) (by kernel_rfl) rfl ?_
 refine Wz (fun h=>?_) (fun h=>?_)
 ·exact Xa (by simp [within,h])
 ·exact Xa (by simp [within,h])
theorem c30 (n lo hi:Int):PCall Tryz.prog 16 [I n,I lo,I hi] ⟨Bo (within n lo hi),[]⟩:=by
 refine bs.pcall (sx:=nos) Ze Tryz.func16 (by kernel_rfl) (by kernel_rfl) rfl ?_
 refine Wz (fun h=>?_) (fun h=>?_)
 ·exact Xa (by simp [within,h])
 ·exact Xa (by simp [within,h])
def r78:List AV->Option PRes
 | [.int .i64 n,.int .i64 lo,.int .i64 hi]=>some ⟨Bo (within n lo hi),[]⟩
 | _=>none
def k78:PC:=ins 16 r78 (ins 129 r78 pt0)
theorem Zn7:PCOK Tryz.prog k78:=Zk (fun a res h=>by unfold r78 at h; split at h<;>cases h; exact c30 _ _ _) (Zk (fun a res h=>by unfold r78 at h; split at h<;>cases h; exact c78 _ _ _) Ze)
def small (n most:Int):Bool:=within n (Qa Qb (0-most)) most
theorem c92 (n m:Int):PCall Tryz.prog 206 [I n,I m] ⟨Bo (small n m),[]⟩:=by
 refine bs.pcall (sx:=nos) Zn7 Tryz.func206 (by kernel_rfl) (by kernel_rfl) rfl ?_
 exact Wd rfl (Xa rfl)
def r92:List AV->Option PRes
 | [.int .i64 n,.int .i64 m]=>some ⟨Bo (small n m),[]⟩
 | _=>none
def k92:PC:=ins 206 r92 k78
theorem Ycb:PCOK Tryz.prog k92:=Zk (fun a res h=>by unfold r92 at h; split at h<;>cases h; exact c92 _ _) Zn7
def Zfh (x y z:Int):Bool:=small x 45000&&small y 45000&&small z 45000
theorem c93 (x y z:Int):PCall Tryz.prog 190 [P3 x y z] ⟨Bo (Zfh x y z),[]⟩:=by
 refine bs.pcall (sx:=nos) Ycb Tryz.func190 (by kernel_rfl) (by kernel_rfl) rfl ?_
 refine Wz (fun h=>?_) (fun h=>?_)
 ·refine Wz (fun h2=>?_) (fun h2=>?_)
  ·exact Xa (by simp_all [Zfh])
  ·exact Xa (by simp_all [Zfh])
 ·exact Xa (by simp_all [Zfh])
def r93:List AV->Option PRes
 | [.agg [.int .i64 x,.int .i64 y,.int .i64 z]]=>some ⟨Bo (Zfh x y z),[]⟩
 | _=>none
def k93:PC:=ins 190 r93 k92
theorem Zbw:PCOK Tryz.prog k93:=Zk (fun a res h=>by unfold r93 at h; split at h<;>cases h; exact c93 _ _ _) Ycb
def mir (k a x y z:Int):Int × Int × Int :=
 if k=0 then (Qa Qb (Qa Qb (2*a)-x),y,z) else if k=1 then (x,Qa Qb (Qa Qb (2*a)-y),z) else if k=2 then (x,y,Qa Qb (Qa Qb (2*a)-z)) else if k=3 then (Qa Qb (a-y),Qa Qb (a-x),z) else if k=4 then (Qa Qb (y+a),Qa Qb (x-a),z) else (x,y,z)
def Zac (k a x y z:Int):Int :=
 if within k 0 4=false then 15 else if small a 10000=false\/Zfh x y z=false then 2 else if Zfh (mir k a x y z).1 (mir k a x y z).2.1 (mir k a x y z).2.2=false then 8 else 0
def mirP (k a x y z:Int):Int × Int × Int:=if Zac k a x y z=0 then mir k a x y z else (0,0,0)
abbrev mirV (k a x y z:Int):AV:=.tup [P3 (mirP k a x y z).1 (mirP k a x y z).2.1 (mirP k a x y z).2.2,I (Zac k a x y z)]
theorem Zx {x y z e x' y' z' e' : Int} {σ:St} (h:(x,y,z)=(x',y',z')/\e=e'):Zc1 ⟨.tup [P3 x' y' z',I e'],[]⟩ (.tup [P3 x y z,I e]) σ:=by
 obtain ⟨h1,h2⟩:=h
 simp only [Prod.mk.injEq] at h1
 obtain ⟨rfl,rfl,rfl⟩:=h1
 subst h2
 exact Zay rfl rfl
theorem c32 (k a x y z:Int):PCall Tryz.prog 187 [P2 k a,P3 x y z] ⟨mirV k a x y z,[]⟩:=by
 refine bs.pcall (sx:=nos) Zbw Tryz.func187 (by kernel_rfl) (by kernel_rfl) rfl ?_
 refine Wz (fun h1=>?_) (fun h1=>?_)
 ·exact Wd rfl (Zx (by simp_all [mirP,Zac,mir]))
 ·refine Wz (fun h2=>?_) (fun h2=>?_)
  ·exact Wd rfl (Zx (by simp_all [mirP,Zac,mir]))
  ·refine Wz (fun h3=>?_) (fun h3=>?_)
   ·exact Wd rfl (Zx (by simp_all [mirP,Zac,mir]))
   ·refine Wz (fun h4=>?_) (fun h4=>?_)
    ·refine Wz (fun h5=>?_) (fun h5=>?_)
     ·exact Wd rfl (Zx (by simp_all [mirP,Zac,mir]))
     ·exact Wd rfl (Zx (by simp_all [mirP,Zac,mir]))
    ·refine Wz (fun h6=>?_) (fun h6=>?_)
     ·refine Wz (fun h7=>?_) (fun h7=>?_)
      ·exact Wd rfl (Zx (by simp_all [mirP,Zac,mir]))
      ·exact Wd rfl (Zx (by simp_all [mirP,Zac,mir]))
     ·refine Wz (fun h8=>?_) (fun h8=>?_)
      ·refine Wz (fun h9=>?_) (fun h9=>?_)
       ·exact Wd rfl (Zx (by simp_all [mirP,Zac,mir]))
       ·exact Wd rfl (Zx (by simp_all [mirP,Zac,mir]))
      ·refine Wz (fun h10=>?_) (fun h10=>?_)
       ·refine Qbk (by kernel_rfl) ?_
        refine Wz (fun h11=>?_) (fun h11=>?_)
        ·exact Wd rfl (Zx (by simp_all [mirP,Zac,mir]))
        ·exact Wd rfl (Zx (by simp_all [mirP,Zac,mir]))
       ·refine Wz (fun h12=>?_) (fun h12=>?_)
        ·refine Qbk (by kernel_rfl) ?_
         refine Wz (fun h13=>?_) (fun h13=>?_)
         ·exact Wd rfl (Zx (by simp_all [mirP,Zac,mir]))
         ·exact Wd rfl (Zx (by simp_all [mirP,Zac,mir]))
        ·refine Wz (fun h14=>?_) (fun h14=>?_)
         ·exact Wd rfl (Zx (by simp_all [mirP,Zac,mir]))
         ·exact Wd rfl (Zx (by simp_all [mirP,Zac,mir]))
def Zz0 (k a:Int):Int:=if within k 0 4=false then 15 else if within a (-10000) 10000=false then 2 else 0
def rmir (k a x y z:Int):Int × Int × Int :=
 if k=0 then (Qa Qb (Qa Qb (2*a)-x),y,z) else if k=1 then (x,Qa Qb (Qa Qb (2*a)-y),z) else if k=2 then (x,y,Qa Qb (Qa Qb (2*a)-z)) else if k=3 then (Qa Qb (a-y),Qa Qb (a-x),z) else (Qa Qb (y+a),Qa Qb (x-a),z)
theorem c96 (k a x y z:Int):PCall Tryz.prog 51 [P2 k a,P3 x y z] ⟨P3 (rmir k a x y z).1 (rmir k a x y z).2.1 (rmir k a x y z).2.2,[]⟩:=by
 refine pn Zbw Tryz.func51 ?_
 repeat' ((conv=>whnf); (fail_if_success with_reducible refine Ret.mk ?_); first|with_reducible refine And.intro (by kernel_rfl) ?_|refine Wz (fun _=>?_) (fun _=>?_))
 all_goals exact Zg (by simp_all [rmir]) rfl
def r94:List AV->Option PRes
 | [.agg [.int .i64 k,.int .i64 a]]=>some ⟨I (Zz0 k a),[]⟩
 | _=>none
def r96:List AV->Option PRes
 | [.agg [.int .i64 k,.int .i64 a],.agg [.int .i64 x,.int .i64 y,.int .i64 z]]=>some ⟨P3 (rmir k a x y z).1 (rmir k a x y z).2.1 (rmir k a x y z).2.2,[]⟩
 | _=>none
def r32:List AV->Option PRes
 | [.agg [.int .i64 k,.int .i64 a],.agg [.int .i64 x,.int .i64 y,.int .i64 z]]=>some ⟨mirV k a x y z,[]⟩
 | _=>none
def k96:PC:=ins 187 r32 k93
theorem Yg1:PCOK Tryz.prog k96:=by
 refine Zk (fun a res h=>?_) Zbw
 unfold r32 at h; split at h<;>cases h; exact c32 _ _ _ _ _
theorem c36 (x y z:Int):PCall Tryz.prog 113 [P3 x y z] ⟨P4 x y z 1,[]⟩:=by
 refine pn Yg1 Tryz.func113 ?_
 repeat' ((conv=>whnf); (fail_if_success with_reducible refine Ret.mk ?_); first|with_reducible refine And.intro (by kernel_rfl) ?_|refine Wz (fun _=>?_) (fun _=>?_))
 all_goals exact Zg rfl rfl
theorem W_eq {n:Int} (h1 : -9223372036854775808<=n) (h2:n<=9223372036854775807):Qa Qb n=n:=Mz _ ⟨h1,by omega⟩
theorem within_iff {n lo hi:Int}:within n lo hi=true↔lo<=n/\n<=hi:=by simp [within]
theorem Zec {k a x y z:Int} (hk:0<=k/\k<=4) (ha : -10000<=a/\a<=10000) (hx : -45000<=x/\x<=45000) (hy : -45000<=y/\y<=45000) (hz : -45000<=z/\z<=45000) :
  rmir k a x y z=if k=0 then (2*a-x,y,z) else if k=1 then (x,2*a-y,z) else if k=2 then (x,y,2*a-z) else if k=3 then (a-y,a-x,z) else (y+a,x-a,z):=by
 have e1:Qa Qb (2*a)=2*a:=W_eq (by omega) (by omega)
 have e2:Qa Qb (2*a-x)=2*a-x:=W_eq (by omega) (by omega)
 have e3:Qa Qb (2*a-y)=2*a-y:=W_eq (by omega) (by omega)
 have e4:Qa Qb (2*a-z)=2*a-z:=W_eq (by omega) (by omega)
 have e5:Qa Qb (a-y)=a-y:=W_eq (by omega) (by omega)
 have e6:Qa Qb (a-x)=a-x:=W_eq (by omega) (by omega)
 have e7:Qa Qb (y+a)=y+a:=W_eq (by omega) (by omega)
 have e8:Qa Qb (x-a)=x-a:=W_eq (by omega) (by omega)
 simp only [rmir,e1,e2,e3,e4,e5,e6,e7,e8]
def nl (ns:List Int):List (List AV):=ns.map fun n=>[I n]
theorem Zp (ns:List Int):(nl ns).length=ns.length:=by simp [nl]
theorem Zal {ns:List Int} {k:Nat} (h:k<ns.length):(nl ns)[((k:Nat):Int).toNat]?=some [I ns[k]]:=by simp [nl,h]
theorem Zb {k:Nat} (h:k<9000000000):Qa Qb ((k:Int)+1)=((k+1:Nat):Int):=W_eq (by omega) (by omega)
def size (n:Int):Int:=imax n (Qa Qb (0-n))
theorem c116 (n:Int):PCall Tryz.prog 197 [I n] ⟨I (size n),[]⟩:=by
 refine pn Ze Tryz.func197 ?_
 repeat'(first|refine wk0 ?_|(refine wk2 ?_ ?_<;>intro _)|fail)
 all_goals exact Zc rfl
structure Wl where
 n:Int
 fx:Int
 fy:Int
 tx:Int
 ty:Int
abbrev Wl.av (w:Wl):AV:=.agg [I w.n,I w.fx,I w.fy,I w.tx,I w.ty]
def Wl.dx (w:Wl):Int:=Qa Qb (w.tx-w.fx)
def Wl.dy (w:Wl):Int:=Qa Qb (w.ty-w.fy)
theorem c174 (w:Wl):PCall Tryz.prog 207 [w.av] ⟨.tup [I w.dx,I w.dy],[]⟩:=by
 refine pn Ze Tryz.func207 ?_
 repeat'(first|refine wk0 ?_|(refine wk2 ?_ ?_<;>intro _)|fail)
 all_goals exact Zg rfl rfl
def r115:List AV->Option PRes
 | [.int .i64 n]=>some ⟨I (sgn n),[]⟩
 | _=>none
def r116:List AV->Option PRes
 | [.int .i64 n]=>some ⟨I (size n),[]⟩
 | _=>none
def r174:List AV->Option PRes
 | [.agg [.int .i64 n,.int .i64 fx,.int .i64 fy,.int .i64 tx,.int .i64 ty]]=>some ⟨.tup [I (Wl.dx ⟨n,fx,fy,tx,ty⟩),I (Wl.dy ⟨n,fx,fy,tx,ty⟩)],[]⟩
 | _=>none
def kG1:PC:=ins 196 r115 (ins 197 r116 (ins 207 r174 k93))
theorem Zld:PCOK Tryz.prog kG1:=by
 refine Zk (fun a res h=>?_) (Zk (fun a res h=>?_) (Zk (fun a res h=>?_) Zbw))
 ·unfold r115 at h; split at h<;>cases h; exact c115 _
 ·unfold r116 at h; split at h<;>cases h; exact c116 _
 ·unfold r174 at h; split at h<;>cases h; exact c174 ⟨_,_,_,_,_⟩
def Wl.straight (w:Wl):Bool:=decide (w.dx=0)||decide (w.dy=0)||decide (size w.dx=size w.dy)
theorem c146 (w:Wl):PCall Tryz.prog 145 [w.av] ⟨Bo w.straight,[]⟩:=by
 refine pn Zld Tryz.func145 ?_
 repeat'(first|refine wk0 ?_|(refine wk2 ?_ ?_<;>intro _)|fail)
 all_goals exact Za (by simp_all [Wl.straight]<;>omega)
def Wl.side (w:Wl) (x y d:Int):Int:=sgn (Qa Qb (Qa Qb (w.dx*Qa Qb (y-Qa Qb (w.fy*d)))-Qa Qb (w.dy*Qa Qb (x-Qa Qb (w.fx*d)))))
theorem c206 (w:Wl) (x y d:Int):PCall Tryz.prog 234 [w.av,I x,I y,I d] ⟨I (w.side x y d),[]⟩:=by
 refine pn Zld Tryz.func234 ?_
 repeat'(first|refine wk0 ?_|(refine wk2 ?_ ?_<;>intro _)|fail)
 all_goals exact Zc rfl
def r146:List AV->Option PRes
 | [.agg [.int .i64 n,.int .i64 fx,.int .i64 fy,.int .i64 tx,.int .i64 ty]]=>some ⟨Bo (Wl.straight ⟨n,fx,fy,tx,ty⟩),[]⟩
 | _=>none
def r206:List AV->Option PRes
 | [.agg [.int .i64 n,.int .i64 fx,.int .i64 fy,.int .i64 tx,.int .i64 ty],.int .i64 x,.int .i64 y,.int .i64 d]=>some ⟨I (Wl.side ⟨n,fx,fy,tx,ty⟩ x y d),[]⟩
 | _=>none
def kG2:PC:=ins 145 r146 (ins 234 r206 kG1)
theorem Yb9:PCOK Tryz.prog kG2:=by
 refine Zk (fun a res h=>?_) (Zk (fun a res h=>?_) Zld)
 ·unfold r146 at h; split at h<;>cases h; exact c146 ⟨_,_,_,_,_⟩
 ·unfold r206 at h; split at h<;>cases h; exact c206 ⟨_,_,_,_,_⟩ _ _ _
def Wl.has (w:Wl) (x y d:Int):Bool:=decide (w.side x y d=0)&&within x (Qa Qb (imin w.fx w.tx*d)) (Qa Qb (imax w.fx w.tx*d))&&within y (Qa Qb (imin w.fy w.ty*d)) (Qa Qb (imax w.fy w.ty*d))
theorem c205 (w:Wl) (x y d:Int):PCall Tryz.prog 235 [w.av,I x,I y,I d] ⟨Bo (w.has x y d),[]⟩:=by
 refine pn Yb9 Tryz.func235 ?_
 repeat'(first|refine wk0 ?_|(refine wk2 ?_ ?_<;>intro _)|fail)
 all_goals exact Za (by simp_all [Wl.has]<;>omega)
def r205:List AV->Option PRes
 | [.agg [.int .i64 n,.int .i64 fx,.int .i64 fy,.int .i64 tx,.int .i64 ty],.int .i64 x,.int .i64 y,.int .i64 d]=>some ⟨Bo (Wl.has ⟨n,fx,fy,tx,ty⟩ x y d),[]⟩
 | _=>none
def kG3:PC:=ins 235 r205 kG2
theorem Zam:PCOK Tryz.prog kG3:=by
 refine Zk (fun a res h=>?_) Yb9
 unfold r205 at h; split at h<;>cases h; exact c205 ⟨_,_,_,_,_⟩ _ _ _
def Wl.touches (w o:Wl):Bool :=
 (decide (Qa Qb (w.side o.fx o.fy 1*w.side o.tx o.ty 1)<0)&&decide (Qa Qb (o.side w.fx w.fy 1*o.side w.tx w.ty 1)<0))||(w.has o.fx o.fy 1||w.has o.tx o.ty 1||o.has w.fx w.fy 1||o.has w.tx w.ty 1)
theorem c196 (w o:Wl):PCall Tryz.prog 210 [w.av,o.av] ⟨Bo (w.touches o),[]⟩:=by
 obtain ⟨n,a,b,c,d⟩:=w
 obtain ⟨m,e,f,g,i⟩:=o
 refine pn Zam Tryz.func210 ?_
 repeat'(first|refine wk0 ?_|(refine wk2 ?_ ?_<;>intro _)|fail)
 all_goals exact Za (by simp_all [Wl.touches]<;>omega)
def Wl.turnsBack (w o:Wl):Bool:=decide (Qa Qb (w.dx*o.dy)=Qa Qb (w.dy*o.dx))&&decide (Qa Qb (Qa Qb (w.dx*o.dx)+Qa Qb (w.dy*o.dy))<0)
theorem c195 (w o:Wl):PCall Tryz.prog 209 [w.av,o.av] ⟨Bo (w.turnsBack o),[]⟩:=by
 refine pn Zam Tryz.func209 ?_
 repeat'(first|refine wk0 ?_|(refine wk2 ?_ ?_<;>intro _)|fail)
 all_goals exact Za (by simp_all [Wl.turnsBack]<;>omega)
structure Rc where
 xl:Int
 xh:Int
 yl:Int
 yh:Int
abbrev Rc.av (q:Rc):AV:=.agg [I q.xl,I q.xh,I q.yl,I q.yh]
def rcOf (fx fy tx ty:Int):Rc:=⟨imin fx tx,imax fx tx,imin fy ty,imax fy ty⟩
theorem c170 (nm mt hs:AV) (fx fy tx ty:Int):PCall Tryz.prog 212 [.agg [nm,mt,I fx,I fy,I tx,I ty,hs]] ⟨(rcOf fx fy tx ty).av,[]⟩:=by
 refine pn Zam Tryz.func212 ?_
 repeat'(first|refine wk0 ?_|(refine wk2 ?_ ?_<;>intro _)|fail)
 all_goals exact Zg rfl rfl
def Zhi (x y:Int):Bool:=small x 5000&&small y 5000
theorem c142 (x y:Int):PCall Tryz.prog 141 [P2 x y] ⟨Bo (Zhi x y),[]⟩:=by
 refine pn Zam Tryz.func141 ?_
 repeat'(first|refine wk0 ?_|(refine wk2 ?_ ?_<;>intro _)|fail)
 all_goals exact Za (by simp_all [Zhi]<;>omega)
theorem c114 (x y z:Int):PCall Tryz.prog 195 [P3 x y z] ⟨P4 x y z 1,[]⟩:=by
 refine pn Zam Tryz.func195 ?_
 repeat'(first|refine wk0 ?_|(refine wk2 ?_ ?_<;>intro _)|fail)
 all_goals exact Zg rfl rfl
def unl (b:Bool) (e:Int):Int:=cond b 0 e
theorem c102 (b:Bool) (e:Int):PCall Tryz.prog 127 [Bo b,I e] ⟨I (unl b e),[]⟩:=by
 refine pn Zam Tryz.func127 ?_
 repeat'(first|refine wk0 ?_|(refine wk2 ?_ ?_<;>intro _)|fail)
 all_goals exact Zc (by simp_all [unl])
structure Mat where
 nm:ByteArray
 a:Int
 b:Int
 c:Int
 d:Int
 sc:Int
structure Wal where
 nm:ByteArray
 mt:ByteArray
 cu:ByteArray
structure Can where
 nm:ByteArray
 mt:ByteArray
 fx:Int
 fy:Int
 tx:Int
 ty:Int
 hs:List Int
structure Sea where
 nm:ByteArray
 x:Int
 y:Int
 z:Int
structure Hal where
 nm:ByteArray
 ht:Int
 fl:ByteArray
 ce:ByteArray
 ms:List Mat
 cs:List (Int × Int)
 ws:List Wal
 ks:List Can
 ss:List Sea
abbrev Mat.av (m:Mat):List AV:=[.str m.nm,I m.a,I m.b,I m.c,I m.d,I m.sc]
abbrev Wal.av (w:Wal):List AV:=[.str w.nm,.str w.mt,.str w.cu]
abbrev Can.av (c:Can):List AV:=[.str c.nm,.str c.mt,I c.fx,I c.fy,I c.tx,I c.ty,.isl 1 (nl c.hs)]
abbrev Sea.av (s:Sea):List AV:=[.str s.nm,I s.x,I s.y,I s.z]
abbrev Hal.cells (h:Hal):List AV:=[.str h.nm,I h.ht,.str h.fl,.str h.ce,.isl 6 (h.ms.map Mat.av),.isl 2 (h.cs.map pt),.isl 3 (h.ws.map Wal.av),.isl 7 (h.ks.map Can.av),.isl 4 (h.ss.map Sea.av)]
abbrev Hal.av (h:Hal):AV:=.agg [.str h.nm,I h.ht,.str h.fl,.str h.ce,.isl 6 (h.ms.map Mat.av),.isl 2 (h.cs.map pt),.isl 3 (h.ws.map Wal.av),.isl 7 (h.ks.map Can.av),.isl 4 (h.ss.map Sea.av)]
def wlOf (cs:List (Int × Int)) (i:Nat):Wl:=⟨i,(cor cs i).1,(cor cs i).2,(cor cs ((i+1)%cs.length)).1,(cor cs ((i+1)%cs.length)).2⟩
def wls (cs:List (Int × Int)):List Wl:=(Rv cs.length).map (wlOf cs)
theorem Zu4 (cs:List (Int × Int)):Zen cs=(wls cs).map fun w=>[w.av]:=by simp [Zen,wls,wlOf,Zzk]
def Hal.few (h:Hal):Prop:=h.ms.length<1000/\h.cs.length<1000/\h.ws.length<1000/\h.ks.length<1000/\h.ss.length<1000/\∀ c∈h.ks,c.hs.length<1000
theorem itW {h:Hal} (hf:h.few):ItOK Tryz.prog 208 [h.av] [] ((wls h.cs).map fun w=>[w.av]):=by
 rw [<-Zu4]; exact Yg2 (by rfl) hf.2.1
def Zy5 (n:Int) (w:Wl):Int:=Qa Qb (n+Qa Qb (Qa Qb (w.fx*w.ty)-Qa Qb (w.tx*w.fy)))
def Zdf (h:Hal):Int:=(wls h.cs).foldl Zy5 0
theorem c122 {h:Hal} (hf:h.few):PCall Tryz.prog 149 [h.av] ⟨I (Zdf h),[]⟩:=by
 refine pn Zam Tryz.func149 ?_
 repeat'(first|refine wk0 ?_|(refine wk2 ?_ ?_<;>intro _)|fail)
 refine Ft (env2:=[(1,.ptr 0 0 0),(3,.ptr 1 0 0),(6,.func 208 [h.av] [])]) (σ2:=⟨[(1,.row 1 [[I 0]] true false),(0,.row 9 [h.cells] true false)],2⟩) (Pn [] rfl (kps) (kps)) ?_
 refine rngV (itW hf) rfl rfl rfl rfl (Zg9 (S:=Int) (fun s=>[(1,.row 1 [[I s]] true false),(0,.row 9 [h.cells] true false)]) 2 2 (fun xs s=>∃ l:List Wl,xs=l.map (fun w=>[w.av])/\l.foldl Zy5 s=Zdf h) ?_ ?_ _ 0 ⟨_,rfl,rfl⟩)
 ·rintro x xs s ⟨l,h1,h2⟩
  cases l with
  | nil=>simp at h1
  | cons w l =>
   simp only [Ss,Rd] at h1
   obtain ⟨rfl,rfl⟩:=h1
   refine ⟨rfl,bs.av (sx:=nos) Zam ?_⟩
   repeat'(first|refine wk0 ?_|(refine wk2 ?_ ?_<;>intro _)|fail)
   refine Dg (bs.av (sx:=nos) Zam ?_)
   repeat'(first|refine wk0 ?_|(refine wk2 ?_ ?_<;>intro _)|fail)
   exact Qr ⟨_,[],rfl,kps,l,rfl,h2⟩
 ·rintro s ⟨l,h1,h2⟩
  cases l with
  | cons w l=>simp at h1
  | nil =>
   repeat'(first|refine wk0 ?_|(refine wk2 ?_ ?_<;>intro _)|fail)
   exact Zc h2
def Rc.meets (q:Rc) (w:Wl):Bool :=
 if decide (imax w.fx w.tx<q.xl)||decide (q.xh<imin w.fx w.tx)||decide (imax w.fy w.ty<q.yl)||decide (q.yh<imin w.fy w.ty) then false
 else decide (imin (imin (imin (imin 1 (w.side q.xl q.yl 1)) (w.side q.xl q.yh 1)) (w.side q.xh q.yl 1)) (w.side q.xh q.yh 1)<=0)&&decide (0<=imax (imax (imax (imax (-1) (w.side q.xl q.yl 1)) (w.side q.xl q.yh 1)) (w.side q.xh q.yl 1)) (w.side q.xh q.yh 1))
theorem c213 (q:Rc) (w:Wl):PCall Tryz.prog 236 [q.av,w.av] ⟨Bo (q.meets w),[]⟩:=by
 obtain ⟨wn,wa,wb,wc,wd⟩:=w
 refine pn Zam Tryz.func236 ?_
 repeat'(first|refine wk0 ?_|(refine wk2 ?_ ?_<;>intro _)|fail)
 all_goals try exact Za (by simp_all [Rc.meets])
 refine Mc 5 ?_
 refine Wt (bs.av (sx:=nos) Zam ?_)
 repeat'(first|refine wk0 ?_|(refine wk2 ?_ ?_<;>intro _)|fail)
 refine Wt (bs.av (sx:=nos) Zam ?_)
 repeat'(first|refine wk0 ?_|(refine wk2 ?_ ?_<;>intro _)|fail)
 refine Wt (bs.av (sx:=nos) Zam ?_)
 repeat'(first|refine wk0 ?_|(refine wk2 ?_ ?_<;>intro _)|fail)
 refine Wt (bs.av (sx:=nos) Zam ?_)
 repeat'(first|refine wk0 ?_|(refine wk2 ?_ ?_<;>intro _)|fail)
 refine Wt (bs.av (sx:=nos) Zam ?_)
 repeat'(first|refine wk0 ?_|(refine wk2 ?_ ?_<;>intro _)|fail)
 all_goals exact Za (by simp_all [Rc.meets]<;>omega)
def r213:List AV->Option PRes
 | [.agg [.int .i64 a,.int .i64 b,.int .i64 c,.int .i64 d],.agg [.int .i64 n,.int .i64 fx,.int .i64 fy,.int .i64 tx,.int .i64 ty]]=>some ⟨Bo (Rc.meets ⟨a,b,c,d⟩ ⟨n,fx,fy,tx,ty⟩),[]⟩
 | _=>none
def r195:List AV->Option PRes
 | [.agg [.int .i64 m,.int .i64 a,.int .i64 b,.int .i64 c,.int .i64 d],.agg [.int .i64 n,.int .i64 fx,.int .i64 fy,.int .i64 tx,.int .i64 ty]]=>some ⟨Bo (Wl.turnsBack ⟨m,a,b,c,d⟩ ⟨n,fx,fy,tx,ty⟩),[]⟩
 | _=>none
def r196:List AV->Option PRes
 | [.agg [.int .i64 m,.int .i64 a,.int .i64 b,.int .i64 c,.int .i64 d],.agg [.int .i64 n,.int .i64 fx,.int .i64 fy,.int .i64 tx,.int .i64 ty]]=>some ⟨Bo (Wl.touches ⟨m,a,b,c,d⟩ ⟨n,fx,fy,tx,ty⟩),[]⟩
 | _=>none
def r142:List AV->Option PRes
 | [.agg [.int .i64 x,.int .i64 y]]=>some ⟨Bo (Zhi x y),[]⟩
 | _=>none
def r114:List AV->Option PRes
 | [.agg [.int .i64 x,.int .i64 y,.int .i64 z]]=>some ⟨P4 x y z 1,[]⟩
 | _=>none
def r102:List AV->Option PRes
 | [.bool b,.int .i64 e]=>some ⟨I (unl b e),[]⟩
 | _=>none
def r170:List AV->Option PRes
 | [.agg [nm,mt,.int .i64 a,.int .i64 b,.int .i64 c,.int .i64 d,hs]]=>some ⟨(rcOf a b c d).av,[]⟩
 | _=>none
def kG4:PC:=ins 236 r213 (ins 209 r195 (ins 210 r196 (ins 141 r142 (ins 195 r114 (ins 127 r102 (ins 212 r170 kG3))))))
theorem Zcg:PCOK Tryz.prog kG4:=by
 refine Zk (fun a res h=>?_) (Zk (fun a res h=>?_) (Zk (fun a res h=>?_) (Zk (fun a res h=>?_) (Zk (fun a res h=>?_) (Zk (fun a res h=>?_) (Zk (fun a res h=>?_) Zam))))))
 ·unfold r213 at h; split at h<;>cases h; exact c213 ⟨_,_,_,_⟩ ⟨_,_,_,_,_⟩
 ·unfold r195 at h; split at h<;>cases h; exact c195 ⟨_,_,_,_,_⟩ ⟨_,_,_,_,_⟩
 ·unfold r196 at h; split at h<;>cases h; exact c196 ⟨_,_,_,_,_⟩ ⟨_,_,_,_,_⟩
 ·unfold r142 at h; split at h<;>cases h; exact c142 _ _
 ·unfold r114 at h; split at h<;>cases h; exact c114 _ _ _
 ·unfold r102 at h; split at h<;>cases h; exact c102 _ _
 ·unfold r170 at h; split at h<;>cases h; exact c170 _ _ _ _ _ _ _
def flips (x y d:Int) (w:Wl):Bool :=
 ((decide (Qa Qb (w.fy*d)<=y)&&decide (y<Qa Qb (w.ty*d)))&&decide (0<w.side x y d))||((decide (Qa Qb (w.ty*d)<=y)&&decide (y<Qa Qb (w.fy*d)))&&decide (w.side x y d<0))
def inPl (x y d:Int):Bool->List Wl->Bool
 | b,[]=>b
 | b,w::l=>if w.has x y d then false else inPl x y d (b ^^ flips x y d w) l
theorem Zoe {x y d:Int} {b:Bool} {w:Wl} {l:List Wl} (h:w.has x y d=false):inPl x y d b (w::l)=inPl x y d (b ^^ flips x y d w) l:=by rw [inPl,if_neg (by simp [h])]
def Xo (h:Hal) (x y d:Int):Bool:=inPl x y d false (wls h.cs)
theorem c183 {h:Hal} (hf:h.few) (x y d:Int):PCall Tryz.prog 229 [h.av,I x,I y,I d] ⟨Bo (Xo h x y d),[]⟩:=by
 refine pn Zcg Tryz.func229 ?_
 repeat'(first|refine wk0 ?_|(refine wk2 ?_ ?_<;>intro _)|fail)
 refine Ft (env2:=[(4,.ptr 0 0 0),(5,.ptr 1 0 0),(6,.ptr 2 0 0),(7,.ptr 3 0 0),(8,.ptr 4 0 0),(9,.ptr 5 0 0),(15,.func 208 [h.av] [])])
  (σ2:=⟨[(5,.row 1 [[Bo false]] true false),(4,.row 1 [[Bo false]] true false),(3,.row 1 [[I d]] true false),(2,.row 1 [[I y]] true false),(1,.row 1 [[I x]] true false),(0,.row 9 [h.cells] true false)],6⟩) (Pn [] rfl (kps) (kps)) ?_
 refine rngV (itW hf) rfl rfl rfl rfl (Zg9 (S:=Bool) (fun s=>[(5,.row 1 [[Bo s]] true false),(4,.row 1 [[Bo false]] true false),(3,.row 1 [[I d]] true false),(2,.row 1 [[I y]] true false),(1,.row 1 [[I x]] true false),(0,.row 9 [h.cells] true false)]) 6 6 (fun xs s=>∃ l:List Wl,xs=l.map (fun w=>[w.av])/\inPl x y d s l=Xo h x y d) ?_ ?_ _ false ⟨_,rfl,rfl⟩)
 ·rintro u us s ⟨l,h1,h2⟩
  cases l with
  | nil=>simp at h1
  | cons w l =>
   simp only [Ss,Rd] at h1
   obtain ⟨rfl,rfl⟩:=h1
   obtain ⟨wn,wa,wb,wc,wd⟩:=w
   refine ⟨rfl,bs.av (sx:=nos) Zcg ?_⟩
   repeat'(first|refine wk0 ?_|(refine wk2 ?_ ?_<;>intro _)|fail)
   refine Dg (bs.av (sx:=nos) Zcg ?_)
   repeat'(first|refine wk0 ?_|(refine wk2 ?_ ?_<;>intro _)|fail)
   all_goals first
    | exact Za (by rw [<-h2]; simp_all [inPl])
    | exact Qr ⟨_,[],rfl,kps,l,rfl,by rw [<-h2,Zoe (by assumption)]; congr 1; clear h2; cases s<;>simp_all [flips]<;>omega⟩
 ·rintro s ⟨l,h1,h2⟩
  cases l with
  | cons w l=>simp at h1
  | nil =>
   repeat'(first|refine wk0 ?_|(refine wk2 ?_ ?_<;>intro _)|fail)
   exact Za h2
def Zfi (h:Hal) (q:Rc):Bool:=(wls h.cs).all (fun w=>!q.meets w)&&Xo h q.xl q.yl 1
theorem c197 {h:Hal} (hf:h.few) (q:Rc):PCall Tryz.prog 211 [h.av,q.av] ⟨Bo (Zfi h q),[]⟩:=by
 have hc:=c183 hf q.xl q.yl 1
 refine bs.pv (sx:=fun f=>Qs f 229) Zcg Tryz.func211 (by kernel_rfl) (by kernel_rfl) rfl ?_
 repeat'(first|refine wk0 ?_|(refine wk2 ?_ ?_<;>intro _)|fail)
 refine Ft (env2:=[(2,.ptr 0 0 0),(3,.ptr 1 0 0),(4,.ptr 2 0 0),(7,.func 208 [h.av] [])])
  (σ2:=⟨[(2,.row 1 [[Bo false]] true false),(1,.row 4 [[I q.xl,I q.xh,I q.yl,I q.yh]] true false),(0,.row 9 [h.cells] true false)],3⟩) (Pn [] rfl (kps) (kps)) ?_
 refine rngV (itW hf) rfl rfl rfl rfl (Zg9 (S:=Unit) (fun _=>[(2,.row 1 [[Bo false]] true false),(1,.row 4 [[I q.xl,I q.xh,I q.yl,I q.yh]] true false),(0,.row 9 [h.cells] true false)]) 3 3 (fun xs _=>∃ l:List Wl,xs=l.map (fun w=>[w.av])/\(l.all (fun w=>!q.meets w)&&Xo h q.xl q.yl 1)=Zfi h q) ?_ ?_ _ () ⟨_,rfl,rfl⟩)
 ·rintro u us s ⟨l,h1,h2⟩
  cases l with
  | nil=>simp at h1
  | cons w l =>
   simp only [Ss,Rd] at h1
   obtain ⟨rfl,rfl⟩:=h1
   obtain ⟨wn,wa,wb,wc,wd⟩:=w
   refine ⟨rfl,bs.av (sx:=nos) Zcg ?_⟩
   repeat'(first|refine wk0 ?_|(refine wk2 ?_ ?_<;>intro _)|fail)
   refine Dg (bs.av (sx:=nos) Zcg ?_)
   repeat'(first|refine wk0 ?_|(refine wk2 ?_ ?_<;>intro _)|fail)
   all_goals first
    | exact Za (by rw [<-h2]; simp_all)
    | exact Qr ⟨(),[],rfl,kps,l,rfl,by rw [<-h2]; simp_all⟩
 ·rintro s ⟨l,h1,h2⟩
  cases l with
  | cons w l=>simp at h1
  | nil =>
   repeat'(first|refine wk0 ?_|(refine wk2 ?_ ?_<;>intro _)|fail)
   refine SCt.pc hc rfl ?_
   repeat'(first|refine wk0 ?_|(refine wk2 ?_ ?_<;>intro _)|fail)
   exact Za (by rw [<-h2]; rfl)
def Za9 (n:Int) (a b:Wl):Bool :=
 decide (b.n<=a.n)||(!((decide (b.n=Qa Qb (a.n+1))&&a.turnsBack b)||((decide (a.n=0)&&decide (b.n=Qa Qb (n-1)))&&b.turnsBack a))&&((decide (b.n=Qa Qb (a.n+1))||(decide (a.n=0)&&decide (b.n=Qa Qb (n-1)))) || !a.touches b))
def Xt (h:Hal):Bool:=(wls h.cs).all fun a=>(wls h.cs).all fun b=>Za9 h.cs.length a b
theorem c148 {h:Hal} (hf:h.few):PCall Tryz.prog 147 [h.av] ⟨Bo (Xt h),[]⟩:=by
 refine pn Zcg Tryz.func147 ?_
 repeat'(first|refine wk0 ?_|(refine wk2 ?_ ?_<;>intro _)|fail)
 have hlen:(h.cs.map pt).length=h.cs.length:=by simp
 refine Ft (env2:=[(1,.ptr 0 0 0),(2,.ptr 1 0 0),(3,.ptr 2 0 0),(11,.func 208 [h.av] [])])
  (σ2:=⟨[(2,.row 1 [[I (h.cs.map pt).length]] true false),(1,.row 1 [[Bo false]] true false),(0,.row 9 [h.cells] true false)],3⟩) (Pn [] rfl (kps) (kps)) ?_
 refine rngV (itW hf) rfl rfl rfl rfl (Zg9 (S:=Unit) (fun _=>[(2,.row 1 [[I (h.cs.map pt).length]] true false),(1,.row 1 [[Bo false]] true false),(0,.row 9 [h.cells] true false)]) 3 3 (fun xs _=>∃ l:List Wl,xs=l.map (fun w=>[w.av])/\(l.all fun a=>(wls h.cs).all fun b=>Za9 h.cs.length a b)=Xt h) ?_ ?_ _ () ⟨_,rfl,rfl⟩)
 ·rintro u us s ⟨l,h1,h2⟩
  cases l with
  | nil=>simp at h1
  | cons a l =>
   simp only [Ss,Rd] at h1
   obtain ⟨rfl,rfl⟩:=h1
   obtain ⟨wn,wa,wb,wc,wd⟩:=a
   refine ⟨rfl,bs.av (sx:=nos) Zcg ?_⟩
   repeat'(first|refine wk0 ?_|(refine wk2 ?_ ?_<;>intro _)|fail)
   refine Dg (bs.av (sx:=nos) Zcg ?_)
   repeat'(first|refine wk0 ?_|(refine wk2 ?_ ?_<;>intro _)|fail)
   refine Ft (env2:=[(1,.ptr 0 0 0),(2,.ptr 1 0 0),(3,.ptr 2 0 0),(4,.ptr 3 0 0),(14,.func 208 [h.av] [])])
    (σ2:=⟨[(3,.row 5 [[I wn,I wa,I wb,I wc,I wd]] true false),(2,.row 1 [[I (h.cs.map pt).length]] true false),(1,.row 1 [[Bo false]] true false),(0,.row 9 [h.cells] true false)],4⟩) (Pn [] rfl (kps) (kps)) ?_
   refine rngV (itW hf) rfl rfl rfl rfl (Zg9 (S:=Unit) (fun _=>[(3,.row 5 [[I wn,I wa,I wb,I wc,I wd]] true false),(2,.row 1 [[I (h.cs.map pt).length]] true false),(1,.row 1 [[Bo false]] true false),(0,.row 9 [h.cells] true false)]) 4 4
    (fun xs _=>∃ m:List Wl,xs=m.map (fun w=>[w.av])/\(m.all (fun b=>Za9 h.cs.length ⟨wn,wa,wb,wc,wd⟩ b)&&(l.all fun a=>(wls h.cs).all fun b=>Za9 h.cs.length a b))=Xt h) ?_ ?_ _ () ⟨_,rfl,h2⟩)
   ·rintro u us s ⟨m,h1,h3⟩
    cases m with
    | nil=>simp at h1
    | cons b m =>
     simp only [Ss,Rd] at h1
     obtain ⟨rfl,rfl⟩:=h1
     obtain ⟨vn,va,vb,vc,vd⟩:=b
     refine ⟨rfl,bs.av (sx:=nos) Zcg ?_⟩
     repeat'(first|refine wk0 ?_|(refine wk2 ?_ ?_<;>intro _)|fail)
     refine Dg (bs.av (sx:=nos) Zcg ?_)
     repeat'(first|refine wk0 ?_|(refine wk2 ?_ ?_<;>intro _)|fail)
     all_goals (clear h2)
     all_goals first
      | exact Za (by rw [<-h3]; simp_all [Za9]<;>omega)
      | exact Qr ⟨(),[],rfl,kps,m,rfl,by rw [<-h3]; simp_all [Za9]<;>omega⟩
   ·rintro s ⟨m,h1,h3⟩
    cases m with
    | cons w l=>simp at h1
    | nil =>
     repeat'(first|refine wk0 ?_|(refine wk2 ?_ ?_<;>intro _)|fail)
     exact Qr ⟨(),[],rfl,kps,l,rfl,h3⟩
 ·rintro s ⟨l,h1,h2⟩
  cases l with
  | cons w l=>simp at h1
  | nil =>
   repeat'(first|refine wk0 ?_|(refine wk2 ?_ ?_<;>intro _)|fail)
   exact Za h2
def Zjt (n:Int):Bool:=(decide (97<=n)&&decide (n<=122))||(decide (65<=n)&&decide (n<=90))
def Zkp (first:Bool) (n:Int):Bool:=Zjt n||(!first&&(decide (n=45)||(decide (48<=n)&&decide (n<=57))))
def Zc4:Bool->List UInt8->Bool
 | _,[]=>true
 | b,c::l=>Zkp b c.toNat&&Zc4 false l
def Uj (s:ByteArray):Bool:=Zc4 true s.data.toList&&(!(s==⟨#[]⟩)&&decide ((s.size:Int)<=12))
theorem Zyv (s:ByteArray):(Um s).length=s.data.toList.length:=by simp [Um]
theorem Yhq {s:ByteArray} {k:Nat} (h:k<s.data.toList.length):(Um s)[((k:Nat):Int).toNat]?=some [.int .u8 (s.data.toList[k]).toNat]:=by
 simp only [Um,Int.toNat_natCast,List.getElem?_map]
 rw [List.getElem?_eq_getElem h]; rfl
theorem Zjl (b:Bool) (c:UInt8) (l:List UInt8):Zc4 b (c::l)=(Zkp b c.toNat&&Zc4 false l):=rfl
theorem c131 {s:ByteArray} (hs:s.data.toList.length<100000):PCall Tryz.prog 128 [.str s] ⟨Bo (Uj s),[]⟩:=by
 refine pn Ze Tryz.func128 ?_
 refine Zm (S:=Nat × Int) (fun t=>s.data.toList.length-t.1) (fun t=>[(0,.str s),(7,.isl 1 (Um s)),(8,I (Um s).length),(9,I t.2)]) (fun _=>[]) 0 0 (fun t=>t.2=t.1/\t.1<=s.data.toList.length/\Zc4 (decide (t.1=0)) (s.data.toList.drop t.1)=Zc4 true s.data.toList) (0,0) ⟨rfl,Qp _,rfl⟩ (Qd _) [] rfl (kps) (kps) ?_
 rintro ⟨k,i⟩ ⟨hi,hk,hh⟩
 dsimp only at hi hk hh ⊢
 subst hi
 refine bs.av (sx:=nos) Ze ?_
 have e3:=Zyv s
 by_cases hlt:k<s.data.toList.length
 ·have e1:=Yhq hlt
  rw [Ql hlt,Zjl] at hh
  generalize (s.data.toList[k]).toNat=c at *
  repeat'(first|refine wk1 ?_|(refine wk2 ?_ ?_<;>intro _)|fail)
  all_goals (clear e1 e3)
  all_goals first
   | exact Za (by
     have hg:Zkp (decide (k=0)) c=false:=by clear hh; simp_all [Zkp,Zjt]<;>omega
     rw [hg,Bool.false_and] at hh
     rw [Uj,<-hh]; rfl)
   | exact Qr ⟨(k+1,_),[],rfl,kps,trivial,⟨Zb (by omega),hlt,by
     have hg:Zkp (decide (k=0)) c=true:=by clear hh; simp_all [Zkp,Zjt]<;>omega
     rw [hg,Bool.true_and] at hh
     exact hh⟩,by dsimp only; omega⟩
 ·rw [Qo (by omega)] at hh
  have hn:Zc4 true s.data.toList=true:=hh.symm
  clear hh
  repeat'(first|refine wk1 ?_|(refine wk2 ?_ ?_<;>intro _)|fail)
  all_goals exact Za (by simp_all [Uj])
def Yf (s:ByteArray) (ns:List ByteArray):Int:=if Uj s then (if Ud s ns then 5 else 0) else 4
def r131:List AV->Option PRes
 | [.str s]=>asr (decide (s.data.toList.length<100000)) ⟨Bo (Uj s),[]⟩
 | _=>none
def kG5:PC:=ins 128 r131 kG4
theorem Zc6:PCOK Tryz.prog kG5:=by
 refine Zk (fun a res h=>?_) Zcg
 unfold r131 at h; split at h
 ·obtain ⟨h1,rfl⟩:=Zat h
  exact c131 (of_decide_eq_true h1)
 ·cases h
noncomputable def one (a0:List AV) (r:PRes) (a:List AV):Option PRes:=by
 classical exact if a=a0 then some r else none
theorem Vi (a:List AV) (r:PRes):one a r a=some r:=by unfold one; simp
theorem Zf {f0:FuncId} {a0:List AV} {r:PRes} {pt:PC} (h0:PCall Tryz.prog f0 a0 r) (h:PCOK Tryz.prog pt):PCOK Tryz.prog (ins f0 (one a0 r) pt):=by
 refine Zk (fun a res hr=>?_) h
 unfold one at hr
 split at hr
 ·rename_i e; cases hr; rw [e]; exact h0
 ·cases hr
def thou (n:Int):Bool:=within n 0 1000
def Zcc (m:Mat):Int:=if thou m.a&&thou m.b&&thou m.c&&thou m.d&&thou m.sc then 0 else 2
theorem c138 (m:Mat):PCall Tryz.prog 137 [.agg m.av] ⟨I (Zcc m),[]⟩:=by
 refine pn Zc6 Tryz.func137 ?_
 repeat'(first|refine wk0 ?_|(refine wk2 ?_ ?_<;>intro _)|fail)
 refine Mc 6 ?_
 iterate 6
  all_goals try (refine Wt (bs.av (sx:=nos) Zc6 ?_))
  repeat'(first|refine wk0 ?_|(refine wk2 ?_ ?_<;>intro _)|fail)
 all_goals exact Zc (by simp_all [Zcc,thou])
def Zdz (ht:Int):Option Int->List Int->Int
 | _,[]=>0
 | p,n::l=>if within n 1 (Qa Qb (ht-1)) then (if (match p with
  | some q=>decide (n<=q)
  | none=>false) then 9 else Zdz ht (some n) l) else 2
def Yt (hs:List Int):Nat->Option Int
 | 0=>none
 | k+1=>hs[k]?
def Zgt (h:Hal) (c:Can):Int :=
 if within c.hs.length 1 4 then (if Zdz h.ht none c.hs=0 then (if Zhi c.fx c.fy&&Zhi c.tx c.ty then (if decide (c.fx=c.tx)||decide (c.fy=c.ty) then 11 else unl (Zfi h (rcOf c.fx c.fy c.tx c.ty)) 24) else 2) else Zdz h.ht none c.hs) else 10
theorem Zlj (ht:Int) (p:Option Int) (n:Int) (l:List Int):Zdz ht p (n::l)=if within n 1 (Qa Qb (ht-1)) then (if (match p with
  | some q=>decide (n<=q)
  | none=>false) then 9 else Zdz ht (some n) l) else 2:=rfl
theorem c155 {h:Hal} (hf:h.few) (c:Can) (hl:c.hs.length<1000):PCall Tryz.prog 155 [h.av,.agg c.av] ⟨I (Zgt h c),[]⟩:=by
 have hc:=c197 hf (rcOf c.fx c.fy c.tx c.ty)
 have hk:=Zf hc Zc6
 have e3:=Zp c.hs
 refine pn hk Tryz.func155 ?_
 repeat'(first|refine wk0 ?_|(refine wk2 ?_ ?_<;>intro _)|fail)
 ·exact Zc (by simp_all [Zgt])
 ·rename_i hw1
  have hw:within c.hs.length 1 4=true:=by rw [e3] at hw1; simpa using hw1
  refine Zm (S:=Nat × Int) (fun t=>c.hs.length-t.1) (fun t=>[(2,.ptr 0 0 0),(3,.ptr 1 0 0),(13,.isl 1 (nl c.hs)),(14,I (nl c.hs).length),(15,I t.2)]) (fun _=>[(1,.row 7 [c.av] true false),(0,.row 9 [h.cells] true false)]) 2 2
   (fun t=>t.2=t.1/\t.1<=c.hs.length/\Zdz h.ht (Yt c.hs t.1) (c.hs.drop t.1)=Zdz h.ht none c.hs) (0,0) ⟨rfl,Qp _,rfl⟩ (Qd _) [] rfl (kps) (kps) ?_
  rintro ⟨k,i⟩ ⟨hi,hk',hh⟩
  dsimp only at hi hk' hh ⊢
  subst hi
  refine bs.av (sx:=nos) hk ?_
  by_cases hlt:k<c.hs.length
  ·have e1:=Zal hlt
   rw [Ql hlt,Zlj] at hh
   have e4:Qa Qb ((k:Int)-1)=(k:Int)-1:=W_eq (by omega) (by omega)
   have hh:=hh.symm
   cases k with
   | zero =>
    repeat'(first|refine wk1 ?_|(refine wk2 ?_ ?_<;>intro _)|fail)
    all_goals first
     | exact Zc (by simp_all [Zgt,Yt])
     | exact Qr ⟨(1,_),[],rfl,kps,kps,⟨by exact Zb (k:=0) (by omega),hlt,by simp_all [Yt]⟩,by dsimp only; omega⟩
   | succ k =>
    have e5:(nl c.hs)[(Qa Qb (((k+1:Nat):Int)-1)).toNat]?=some [I c.hs[k]]:=by
     rw [e4,show ((k+1:Nat):Int)-1=(k:Int) by omega]; exact Zal (by omega)
    have e6:Yt c.hs (k+1)=some c.hs[k]:=by simp [Yt,show k<c.hs.length by omega]
    rw [e6] at hh
    repeat'(first|refine wk1 ?_|(refine wk2 ?_ ?_<;>intro _)|fail)
    all_goals (clear e1 e5)
    all_goals first
     | exact Zc (by simp_all [Zgt])
     | exact Qr ⟨(k+2,_),[],rfl,kps,kps,⟨by exact Zb (k:=k+1) (by omega),hlt,by rw [hh,if_pos (by clear hh; simp_all),if_neg (by clear hh; simp_all)]; simp [Yt,hlt]⟩,by dsimp only; omega⟩
  ·rw [Qo (by omega)] at hh
   have hh:Zdz h.ht none c.hs=0:=by rw [<-hh]; cases Yt c.hs k<;>rfl
   repeat'(first|refine wk1 ?_|(refine wk2 ?_ ?_<;>intro _)|fail)
   all_goals (clear hc hk)
   all_goals exact Zc (by simp_all [Zgt])
def Zuh (h:Hal) (x y z d:Int):Bool:=(decide (0<z)&&decide (z<Qa Qb (h.ht*d)))&&Xo h x y d
theorem c124 {h:Hal} (hf:h.few) (x y z d:Int):PCall Tryz.prog 213 [h.av,P4 x y z d] ⟨Bo (Zuh h x y z d),[]⟩:=by
 have hk:=Zf (c183 hf x y d) Zc6
 refine pn hk Tryz.func213 ?_
 repeat'(first|refine wk0 ?_|(refine wk2 ?_ ?_<;>intro _)|fail)
 all_goals (clear hk)
 all_goals exact Za (by simp_all [Zuh]<;>omega)
def Zmg (h:Hal) (x y z:Int):Int:=if small x 5000&&small y 5000&&small z 5000 then (if Zuh h x y z 1 then 0 else 24) else 2
theorem c160 {h:Hal} (hf:h.few) (x y z:Int):PCall Tryz.prog 160 [h.av,P3 x y z] ⟨I (Zmg h x y z),[]⟩:=by
 have hk:=Zf (c124 hf x y z 1) Zc6
 refine pn hk Tryz.func160 ?_
 repeat'(first|refine wk0 ?_|(refine wk2 ?_ ?_<;>intro _)|fail)
 all_goals (clear hk)
 all_goals exact Zc (by simp_all [Zmg]<;>omega)
theorem c129 (b:Bool) (e:Int):PCall Tryz.prog 125 [Bo b,I e] ⟨.func 126 [] [.ptr 0 0 0,.ptr 1 0 0],[(1,[[Bo b]]),(1,[[I e]])]⟩:=by
 refine pn Zc6 Tryz.func125 ?_
 repeat'(first|refine wk0 ?_|(refine wk2 ?_ ?_<;>intro _)|fail)
 exact Yk [0,1] rfl rfl rfl
theorem c130 (b:Bool) (e:Int):PCall Tryz.prog 126 [.ipt [Bo b],.ipt [I e]] ⟨.tup [I 0,I (unl b e)],[]⟩:=by
 refine pn Zc6 Tryz.func126 ?_
 repeat'(first|refine wk0 ?_|(refine wk2 ?_ ?_<;>intro _)|fail)
 exact Zg rfl rfl
theorem c147 {h:Hal} (hf:h.few):PCall Tryz.prog 146 [.ipt h.cells] ⟨.tup [I 0,I (unl (Xt h) 24)],[]⟩:=by
 have hk:=Zf (c148 hf) Zc6
 refine pn hk Tryz.func146 ?_
 repeat'(first|refine wk0 ?_|(refine wk2 ?_ ?_<;>intro _)|fail)
 exact Zg rfl rfl
theorem c149 {h:Hal} (hf:h.few):PCall Tryz.prog 148 [.ipt h.cells] ⟨.tup [I 0,I (unl (decide (0<Zdf h)) 9)],[]⟩:=by
 have hk:=Zf (c122 hf) Zc6
 refine pn hk Tryz.func148 ?_
 repeat'(first|refine wk0 ?_|(refine wk2 ?_ ?_<;>intro _)|fail)
 exact Zg rfl rfl
def r129:List AV->Option PRes
 | [.bool b,.int .i64 e]=>some ⟨.func 126 [] [.ptr 0 0 0,.ptr 1 0 0],[(1,[[Bo b]]),(1,[[I e]])]⟩
 | _=>none
def kG6:PC:=ins 125 r129 kG5
theorem Vm:PCOK Tryz.prog kG6:=by
 refine Zk (fun a res h=>?_) Zc6
 unfold r129 at h; split at h<;>cases h; exact c129 _ _
def Yho:List AV:=[I 0,.func 126 [] [.ptr 13 0 0,.ptr 14 0 0],I 0,.func 126 [] [.ptr 21 0 0,.ptr 22 0 0],I 0,.func 126 [] [.ptr 30 0 0,.ptr 31 0 0],I 1,.func 130 [] [.ptr 0 0 0,.ptr 6 0 0],I 0,.func 138 [] [.ptr 6 0 0,.ptr 0 0 0],
 I 0,.func 126 [] [.ptr 52 0 0,.ptr 53 0 0],I 0,.func 126 [] [.ptr 61 0 0,.ptr 62 0 0],I 2,.func 139 [] [.ptr 0 0 0],I 3,.func 142 [] [.ptr 0 0 0,.ptr 2 0 0,.ptr 7 0 0,.ptr 6 0 0],I 0,.func 146 [] [.ptr 2 0 0],I 0,.func 148 [] [.ptr 2 0 0],
 I 0,.func 126 [] [.ptr 78 0 0,.ptr 79 0 0],I 4,.func 150 [] [.ptr 0 0 0,.ptr 7 0 0,.ptr 6 0 0,.ptr 2 0 0],I 0,.func 126 [] [.ptr 89 0 0,.ptr 90 0 0],I 5,.func 156 [] [.ptr 0 0 0,.ptr 8 0 0,.ptr 2 0 0]]
abbrev b1 (v:AV):ABlk:=.row 1 [[v]] true false
abbrev bp (v:AV):ABlk:=.row 1 [[v]] true true
structure Set7 where
 a:Bool
 b:Bool
 c:Bool
 d:Bool
 e:Bool
 f:Bool
 g:Bool
abbrev Zq (h:Hal) (s:Set7) (ms su se:List ByteArray):List (Nat × ABlk) :=
  [(90, bp (I 8)), (89, bp (Bo s.g)), (79, bp (I 8)), (78, bp (Bo s.f)), (62, bp (I 8)), (61, bp (Bo s.e)), (53, bp (I 10)), (52, bp (Bo s.d)), (31, bp (I 8)), (30, bp (Bo s.c)), (22, bp (I 2)), (21, bp (Bo s.b)), (14, bp (I 4)), (13, bp (Bo s.a)),
   (8, b1 (.amap 5)), (7, b1 (.amap 4)), (6, b1 (.amap 3)), (5, .set se), (4, .set su), (3, .set ms), (2, .row 9 [h.cells] true false), (1, .row 2 [[I 0, I 0]] true false), (0, .row 9 [h.cells] true false)]
abbrev Zag (k:Nat):Env:=[(2,.ptr 1 0 0),(93,.agg Yho),(94,I k)]
def set7 (h:Hal):Set7:=⟨Uj h.nm,within h.ht 2 5000,decide ((h.ms.length:Int)<=10),decide (3<=(h.cs.length:Int))&&decide ((h.ws.length:Int)=h.cs.length),decide ((h.ws.length:Int)<=12),decide ((h.ks.length:Int)<=4),decide ((h.ss.length:Int)<=40)⟩
def Zaf:ByteArray:=⟨#[102,108,111,111,114]⟩
def Zd3:ByteArray:=⟨#[99,101,105,108,105,110,103]⟩
def su0:List ByteArray:=addK Zd3 (addK Zaf [])
def Zq0:Nat->Code->Code
 | n+1,.seq _ y=>Zq0 n y
 | _,c=>c
def Yb0:Code->Code
 | .seq (.seq _ b) y=>.seq b y
 | .seq _ y=>y
 | c=>c
noncomputable def Yct:Code:=match Tryz.f73.body with
 | some c=>c
 | none=>.skip
def r130:List AV->Option PRes
 | [.ipt [.bool b],.ipt [.int .i64 e]]=>some ⟨.tup [I 0,I (unl b e)],[]⟩
 | _=>none
def kG7 (h:Hal) (pt:PC):PC:=ins 126 r130 pt
theorem Ygz (h:Hal) {pt:PC} (hp:PCOK Tryz.prog pt):PCOK Tryz.prog (kG7 h pt):=by
 refine Zk (fun a res h=>?_) hp
 unfold r130 at h; split at h<;>cases h; exact c130 _ _
noncomputable def lc63:Code:=match Yb0 (Zq0 5 Yct) with
 | .seq (.block _ (.loop c)) _=>c
 | _=>.skip
noncomputable def tc63:Code:=match Yb0 (Zq0 5 Yct) with
 | .seq _ y=>y
 | _=>.skip
abbrev R63 (res:PRes):Exit->Env->St->Prop:=retQ (tget tbl) Tryz.f73.results.toList fun v σ=>fA v fun v=>Ret res v σ
abbrev Q63 (res:PRes):Exit->Env->St->Prop:=Zh4 0 (seqQ (fun env' σ'=>bs.vcode nos kG6 Tryz.f73.ntmps tc63 env' σ' (R63 res)) (R63 res))
abbrev chkV (p:Int × Int × Int):AV:=.tup [P2 p.1 p.2.1,I p.2.2]
abbrev It63 (sx:FuncId->Bool) (pt:PC) (res:PRes) (k:Nat) (H:List (Nat × ABlk)) (K:Env->St->Prop):Prop :=
 bs.vcode sx pt Tryz.f73.ntmps lc63 (Zag k) ⟨H,98⟩ (seqQ (fun e s=>Done (K e s)) (Q63 res))
theorem it0 {h:Hal} {s:Set7} {ms su se:List ByteArray} {res:PRes} {K:Env->St->Prop} (hR:unl s.a 4≠0->res=⟨chkV (0,0,unl s.a 4),[]⟩)
  (hK:unl s.a 4=0->∀ e σ,Ren 98 e σ (Zag 1) ⟨Zq h s ms su se,98⟩->K e σ):It63 nos (kG7 h kG6) res 0 (Zq h s ms su se) K:=by
 unfold It63 Px
 repeat'(first|refine wk0 ?_|(refine wk2 ?_ ?_<;>intro _)|fail)
 ·rw [hR (by simp_all)]; exact Zg rfl rfl
 ·exact ⟨hK (by simp_all) _ _ (Pn [] rfl (kps) (kps))⟩
theorem it1 {h:Hal} {s:Set7} {ms su se:List ByteArray} {res:PRes} {K:Env->St->Prop} (hR:unl s.b 2≠0->res=⟨chkV (0,0,unl s.b 2),[]⟩)
  (hK:unl s.b 2=0->∀ e σ,Ren 98 e σ (Zag 2) ⟨Zq h s ms su se,98⟩->K e σ):It63 nos (kG7 h kG6) res 1 (Zq h s ms su se) K:=by
 unfold It63 Px
 repeat'(first|refine wk0 ?_|(refine wk2 ?_ ?_<;>intro _)|fail)
 ·rw [hR (by simp_all)]; exact Zg rfl rfl
 ·exact ⟨hK (by simp_all) _ _ (Pn [] rfl (kps) (kps))⟩
theorem it2 {h:Hal} {s:Set7} {ms su se:List ByteArray} {res:PRes} {K:Env->St->Prop} (hR:unl s.c 8≠0->res=⟨chkV (0,0,unl s.c 8),[]⟩)
  (hK:unl s.c 8=0->∀ e σ,Ren 98 e σ (Zag 3) ⟨Zq h s ms su se,98⟩->K e σ):It63 nos (kG7 h kG6) res 2 (Zq h s ms su se) K:=by
 unfold It63 Px
 repeat'(first|refine wk0 ?_|(refine wk2 ?_ ?_<;>intro _)|fail)
 ·rw [hR (by simp_all)]; exact Zg rfl rfl
 ·exact ⟨hK (by simp_all) _ _ (Pn [] rfl (kps) (kps))⟩
theorem it5 {h:Hal} {s:Set7} {ms su se:List ByteArray} {res:PRes} {K:Env->St->Prop} (hR:unl s.d 10≠0->res=⟨chkV (0,0,unl s.d 10),[]⟩)
  (hK:unl s.d 10=0->∀ e σ,Ren 98 e σ (Zag 6) ⟨Zq h s ms su se,98⟩->K e σ):It63 nos (kG7 h kG6) res 5 (Zq h s ms su se) K:=by
 unfold It63 Px
 repeat'(first|refine wk0 ?_|(refine wk2 ?_ ?_<;>intro _)|fail)
 ·rw [hR (by simp_all)]; exact Zg rfl rfl
 ·exact ⟨hK (by simp_all) _ _ (Pn [] rfl (kps) (kps))⟩
theorem it6 {h:Hal} {s:Set7} {ms su se:List ByteArray} {res:PRes} {K:Env->St->Prop} (hR:unl s.e 8≠0->res=⟨chkV (0,0,unl s.e 8),[]⟩)
  (hK:unl s.e 8=0->∀ e σ,Ren 98 e σ (Zag 7) ⟨Zq h s ms su se,98⟩->K e σ):It63 nos (kG7 h kG6) res 6 (Zq h s ms su se) K:=by
 unfold It63 Px
 repeat'(first|refine wk0 ?_|(refine wk2 ?_ ?_<;>intro _)|fail)
 ·rw [hR (by simp_all)]; exact Zg rfl rfl
 ·exact ⟨hK (by simp_all) _ _ (Pn [] rfl (kps) (kps))⟩
theorem it11 {h:Hal} {s:Set7} {ms su se:List ByteArray} {res:PRes} {K:Env->St->Prop} (hR:unl s.f 8≠0->res=⟨chkV (0,0,unl s.f 8),[]⟩)
  (hK:unl s.f 8=0->∀ e σ,Ren 98 e σ (Zag 12) ⟨Zq h s ms su se,98⟩->K e σ):It63 nos (kG7 h kG6) res 11 (Zq h s ms su se) K:=by
 unfold It63 Px
 repeat'(first|refine wk0 ?_|(refine wk2 ?_ ?_<;>intro _)|fail)
 ·rw [hR (by simp_all)]; exact Zg rfl rfl
 ·exact ⟨hK (by simp_all) _ _ (Pn [] rfl (kps) (kps))⟩
theorem it13 {h:Hal} {s:Set7} {ms su se:List ByteArray} {res:PRes} {K:Env->St->Prop} (hR:unl s.g 8≠0->res=⟨chkV (0,0,unl s.g 8),[]⟩)
  (hK:unl s.g 8=0->∀ e σ,Ren 98 e σ (Zag 14) ⟨Zq h s ms su se,98⟩->K e σ):It63 nos (kG7 h kG6) res 13 (Zq h s ms su se) K:=by
 unfold It63 Px
 repeat'(first|refine wk0 ?_|(refine wk2 ?_ ?_<;>intro _)|fail)
 ·rw [hR (by simp_all)]; exact Zg rfl rfl
 ·exact ⟨hK (by simp_all) _ _ (Pn [] rfl (kps) (kps))⟩
theorem it9 {h:Hal} {s:Set7} {ms su se:List ByteArray} {res:PRes} {K:Env->St->Prop} (hR:unl (Xt h) 24≠0->res=⟨chkV (0,0,unl (Xt h) 24),[]⟩)
  (hK:unl (Xt h) 24=0->∀ e σ,Ren 98 e σ (Zag 10) ⟨Zq h s ms su se,98⟩->K e σ):It63 nos (ins 146 (one [.ipt h.cells] ⟨.tup [I 0,I (unl (Xt h) 24)],[]⟩) (kG7 h kG6)) res 9 (Zq h s ms su se) K:=by
 unfold It63 Px
 repeat'(first|refine wk0 ?_|(refine wk2 ?_ ?_<;>intro _)|fail)
 ·rw [hR (by simp_all)]; exact Zg rfl rfl
 ·exact ⟨hK (by simp_all) _ _ (Pn [] rfl (kps) (kps))⟩
theorem it10 {h:Hal} {s:Set7} {ms su se:List ByteArray} {res:PRes} {K:Env->St->Prop} (hR:unl (decide (0<Zdf h)) 9≠0->res=⟨chkV (0,0,unl (decide (0<Zdf h)) 9),[]⟩)
  (hK:unl (decide (0<Zdf h)) 9=0->∀ e σ,Ren 98 e σ (Zag 11) ⟨Zq h s ms su se,98⟩->K e σ):It63 nos (ins 148 (one [.ipt h.cells] ⟨.tup [I 0,I (unl (decide (0<Zdf h)) 9)],[]⟩) (kG7 h kG6)) res 10 (Zq h s ms su se) K:=by
 unfold It63 Px
 repeat'(first|refine wk0 ?_|(refine wk2 ?_ ?_<;>intro _)|fail)
 ·rw [hR (by simp_all)]; exact Zg rfl rfl
 ·exact ⟨hK (by simp_all) _ _ (Pn [] rfl (kps) (kps))⟩
def Zks (h:Hal) (ms:List ByteArray):Int:=unl (Ud h.fl ms&&Ud h.ce ms) 6
theorem it4 {h:Hal} {s:Set7} {ms su se:List ByteArray} {res:PRes} {K:Env->St->Prop} (hR:Zks h ms≠0->res=⟨chkV (0, 0, Zks h ms), []⟩)
    (hK:Zks h ms=0->∀ e σ, Ren 98 e σ (Zag 5) ⟨Zq h s ms su se, 98⟩->K e σ):It63 (fun f => Qs f 138) (kG7 h kG6) res 4 (Zq h s ms su se) K := by
  unfold It63 Px
  repeat'(first|refine wk0 ?_|(refine wk2 ?_ ?_<;>intro _)|fail)
  refine bs.sv (sx := nos) Vm Tryz.func138 (by kernel_rfl) (by kernel_rfl) ?_
  repeat'(first|refine wk0 ?_|(refine wk2 ?_ ?_<;>intro _)|fail)
  all_goals first
    | (have e6:Zks h ms=6 := (by clear hR hK; simp_all [Zks, unl]; done)
       rw [hR (by rw [e6]; decide), e6]; exact Zg rfl rfl)
    | (rw [hR (by clear hR hK; simp_all [Zks]; done)]; exact Zg (by clear hR hK; simp_all [Zks]) rfl)
    | exact ⟨hK (by clear hR hK; simp_all [Zks]) _ _ (Pn [] rfl (kps) (kps))⟩
theorem Zdt (l:List Mat):(l.map Mat.av).length=l.length:=by simp
theorem Zr8 {l:List Mat} {k:Nat} (h:k<l.length):(l.map Mat.av)[((k:Nat):Int).toNat]?=some (Mat.av l[k]):=by simp [h]
def Ub:Nat->List ByteArray->List Mat->Int × Int × List ByteArray
 | _,ns,[]=>(0,0,ns)
 | i,ns,m::l=>if Yf m.nm ns=0 then (if Zcc m=0 then Ub (i+1) (addK m.nm ns) l else (i,Zcc m,addK m.nm ns)) else (i,Yf m.nm ns,ns)
abbrev sx3:FuncId->Bool:=fun f=>Qs f 130||Qs f 131||Qs f 132||Qs f 133||Qs f 134||Qs f 135
def r138:List AV->Option PRes
 | [.agg [.str nm,.int .i64 a,.int .i64 b,.int .i64 c,.int .i64 d,.int .i64 sc]]=>some ⟨I (Zcc ⟨nm,a,b,c,d,sc⟩),[]⟩
 | _=>none
def r137:List AV->Option PRes
 | [.ipt [.str nm,.int .i64 a,.int .i64 b,.int .i64 c,.int .i64 d,.int .i64 sc]]=>some ⟨I (Zcc ⟨nm,a,b,c,d,sc⟩),[]⟩
 | _=>none
theorem Yeg:PCOK Tryz.prog (ins 137 r138 kG5):=by
 refine Zk (fun a res h=>?_) Zc6
 unfold r138 at h; split at h<;>cases h; exact c138 ⟨_,_,_,_,_,_⟩
theorem c137 (m:Mat):PCall Tryz.prog 136 [.ipt m.av] ⟨I (Zcc m),[]⟩:=by
 refine pn Yeg Tryz.func136 ?_
 repeat'(first|refine wk0 ?_|(refine wk2 ?_ ?_<;>intro _)|fail)
 exact Zc rfl
theorem Zdy:PCOK Tryz.prog (ins 136 r137 kG5):=by
 refine Zk (fun a res h=>?_) Zc6
 unfold r137 at h; split at h<;>cases h; exact c137 ⟨_,_,_,_,_,_⟩
theorem it3 {h:Hal} (hf:h.few) (hnm:∀ m∈h.ms, m.nm.data.toList.length<100000) {s:Set7} {ms su se:List ByteArray} {res:PRes} {K:Env->St->Prop} (hR:(Ub 0 ms h.ms).2.1≠0->res=⟨chkV (1, (Ub 0 ms h.ms).1, (Ub 0 ms h.ms).2.1), []⟩)
    (hK:(Ub 0 ms h.ms).2.1=0->∀ e σ, Ren 98 e σ (Zag 4) ⟨Zq h s (Ub 0 ms h.ms).2.2 su se, 98⟩->K e σ):It63 sx3 (kG7 h kG6) res 3 (Zq h s ms su se) K := by
  unfold It63 Px
  repeat'(first|refine wk0 ?_|(refine wk2 ?_ ?_<;>intro _)|fail)
  refine bs.sv (sx := sx3) Vm Tryz.func130 (by kernel_rfl) (by kernel_rfl) ?_
  repeat'(first|refine wk0 ?_|(refine wk2 ?_ ?_<;>intro _)|fail)
  refine bs.sv (sx := sx3) Vm Tryz.func131 (by kernel_rfl) (by kernel_rfl) ?_
  refine Zm (S := Nat × Int × List ByteArray) (fun t => h.ms.length-t.1) (fun t => [(1, .func 132 [] [.ptr 0 0 0, .ptr 6 0 0]), (8, I (h.ms.map Mat.av).length), (9, I t.2.1)]) (fun t => (98, .row 2 [[I 1, .func 130 [] [.ptr 0 0 0, .ptr 6 0 0]]] true false)::Zq h s t.2.2 su se) 99 99
    (fun t => t.2.1=t.1/\t.1<=h.ms.length/\Ub t.1 t.2.2 (h.ms.drop t.1)=Ub 0 ms h.ms) (0, 0, ms) ⟨rfl, Qp _, rfl⟩ (Qd _) [] rfl (kps) (kps) ?_
  rintro ⟨k, i, ns⟩ ⟨hi, hk, hh⟩
  dsimp only at hi hk hh ⊢
  subst hi
  generalize Ub 0 ms h.ms=R0 at *
  refine bs.av (sx := sx3) Zdy ?_
  have e3 := Zdt h.ms
  by_cases hlt:k<h.ms.length
  · have e1 := Zr8 hlt
    have hs := hnm _ (Qn hlt)
    have ha := Zcm (res := ⟨Bo (Uj h.ms[k].nm), []⟩) hs
    rw [Ql hlt, Ub] at hh
    repeat'(first|refine wk1 ?_|(refine wk2 ?_ ?_<;>intro _)|fail)
    refine bs.sv (sx := sx3) Zdy Tryz.func132 (by kernel_rfl) (by kernel_rfl) ?_
    repeat'(first|refine wk1 ?_|(refine wk2 ?_ ?_<;>intro _)|fail)
    refine bs.sv (sx := sx3) Zdy Tryz.func133 (by kernel_rfl) (by kernel_rfl) ?_
    refine Mc 3 ?_
    refine Wt (bs.av (sx := sx3) Zdy ?_)
    repeat'(first|refine wk1 ?_|(refine wk2 ?_ ?_<;>intro _)|fail)
    refine bs.sv (sx := sx3) Zdy Tryz.func134 (by kernel_rfl) (by kernel_rfl) ?_
    repeat'(first|refine wk1 ?_|(refine wk2 ?_ ?_<;>intro _)|fail)
    refine bs.sv (sx := sx3) Zdy Tryz.func135 (by kernel_rfl) (by kernel_rfl) ?_
    repeat'(first|refine wk1 ?_|(refine wk2 ?_ ?_<;>intro _)|fail)
    all_goals try (refine Wt (bs.av (sx := sx3) Zdy ?_))
    repeat'(first|refine wk1 ?_|(refine wk2 ?_ ?_<;>intro _)|fail)
    all_goals try (refine Wt (bs.av (sx := sx3) Zdy ?_))
    repeat'(first|refine wk1 ?_|(refine wk2 ?_ ?_<;>intro _)|fail)
    all_goals (clear e1 ha e3)
    all_goals first
      | (have e:R0=((k:Int), 4, ns) := (by rw [<-hh]; clear hR hK hh; simp_all [Yf]; done)
         subst e; rw [hR (by simp)]; exact Zg rfl rfl)
      | (have e:R0=((k:Int), 5, ns) := (by rw [<-hh]; clear hR hK hh; simp_all [Yf]; done)
         subst e; rw [hR (by simp)]; exact Zg rfl rfl)
      | (have e:R0=((k:Int), Zcc h.ms[k], addK h.ms[k].nm ns) := (by rw [<-hh]; clear hR hK hh; simp_all [Yf]; done)
         subst e; rw [hR (by clear hR hK hh; simp_all; done)]; exact Zg rfl rfl)
      | exact Qr ⟨(k+1, _, addK h.ms[k].nm ns), [], rfl, kps, kps, ⟨Zb (by have := hf.1; omega), hlt, by rw [<-hh]; clear hR hK hh; simp_all [Yf]; done⟩, by dsimp only; omega⟩
      | (exfalso; clear hR hK hh; simp_all; done)
  · rw [Qo (by omega)] at hh
    repeat'(first|refine wk1 ?_|(refine wk2 ?_ ?_<;>intro _)|fail)
    subst hh
    exact ⟨hK rfl _ _ (Pn [] rfl (kps) (kps))⟩
theorem Zpb (l:List (Int × Int)):(l.map pt).length=l.length:=by simp
theorem Yhn {l:List (Int × Int)} {k:Nat} (h:k<l.length):(l.map pt)[((k:Nat):Int).toNat]?=some [I l[k].1,I l[k].2]:=by simp [h]
def Zhj:Nat->List (Int × Int)->Int × Int
 | _,[]=>(0,0)
 | i,p::l=>if Zhi p.1 p.2 then Zhj (i+1) l else (i,2)
abbrev sx7:FuncId->Bool:=fun f=>Qs f 139||Qs f 131||Qs f 140
theorem it7 {h:Hal} (hf:h.few) {s:Set7} {ms su se:List ByteArray} {res:PRes} {K:Env->St->Prop} (hR:(Zhj 0 h.cs).2≠0->res=⟨chkV (2,(Zhj 0 h.cs).1,(Zhj 0 h.cs).2),[]⟩)
  (hK:(Zhj 0 h.cs).2=0->∀ e σ,Ren 98 e σ (Zag 8) ⟨Zq h s ms su se,98⟩->K e σ):It63 sx7 (kG7 h kG6) res 7 (Zq h s ms su se) K:=by
 unfold It63 Px
 repeat'(first|refine wk0 ?_|(refine wk2 ?_ ?_<;>intro _)|fail)
 refine bs.sv (sx:=sx7) Vm Tryz.func139 (by kernel_rfl) (by kernel_rfl) ?_
 repeat'(first|refine wk0 ?_|(refine wk2 ?_ ?_<;>intro _)|fail)
 refine bs.sv (sx:=sx7) Vm Tryz.func131 (by kernel_rfl) (by kernel_rfl) ?_
 refine Zm (S:=Nat × Int) (fun t=>h.cs.length-t.1) (fun t=>[(1,.func 140 [] [.ptr 0 0 0]),(8,I (h.cs.map pt).length),(9,I t.2)]) (fun t=>(98,.row 2 [[I 2,.func 139 [] [.ptr 0 0 0]]] true false)::Zq h s ms su se) 99 99
  (fun t=>t.2=t.1/\t.1<=h.cs.length/\Zhj t.1 (h.cs.drop t.1)=Zhj 0 h.cs) (0,0) ⟨rfl,Qp _,rfl⟩ (Qd _) [] rfl (kps) (kps) ?_
 rintro ⟨k,i⟩ ⟨hi,hk,hh⟩
 dsimp only at hi hk hh ⊢
 subst hi
 generalize Zhj 0 h.cs=R0 at *
 refine bs.av (sx:=sx7) Vm ?_
 have e3:=Zpb h.cs
 by_cases hlt:k<h.cs.length
 ·have e1:=Yhn hlt
  rw [Ql hlt,Zhj] at hh
  repeat'(first|refine wk1 ?_|(refine wk2 ?_ ?_<;>intro _)|fail)
  refine bs.sv (sx:=sx7) Vm Tryz.func140 (by kernel_rfl) (by kernel_rfl) ?_
  cases hcor:Zhi h.cs[k].1 h.cs[k].2 with
  | false =>
   rw [hcor,if_neg (by simp)] at hh
   subst hh
   repeat'(first|refine wk1 ?_|(refine wk2 ?_ ?_<;>intro _)|fail)
   ·rw [hR (by simp),hcor]; exact Zg rfl rfl
   all_goals (exfalso; clear hR hK; simp_all [unl]; done)
  | true =>
   rw [hcor,if_pos rfl] at hh
   repeat'(first|refine wk1 ?_|(refine wk2 ?_ ?_<;>intro _)|fail)
   ·exfalso; clear hR hK hh; simp_all [unl]; done
   ·exfalso; clear hR hK hh; simp_all [unl]; done
   ·exact Qr ⟨(k+1,_),[],rfl,kps,kps,⟨Zb (by have:=hf.2.1; omega),hlt,hh⟩,by dsimp only; omega⟩
 ·rw [Qo (by omega)] at hh
  repeat'(first|refine wk1 ?_|(refine wk2 ?_ ?_<;>intro _)|fail)
  subst hh
  exact ⟨hK rfl _ _ (Pn [] rfl (kps) (kps))⟩
theorem Yip {h:Hal} (hf:h.few) {k:Nat} (hk:k<h.cs.length):PCall Tryz.prog 144 [h.av,I k] ⟨(wlOf h.cs k).av,[]⟩:=by
 have e1:=Zc8 hk
 have e2:=Zc8 (ps:=h.cs) (i:=(k+1)%h.cs.length) (Tx _ (by omega))
 have e3:(h.cs.map pt).length=h.cs.length:=by simp
 exact c145 (by rw [e3]; exact hf.2.1) e1 (by rw [e3]; exact e2)
theorem Vk (l:List Wal):(l.map Wal.av).length=l.length:=by simp
theorem Zm9 {l:List Wal} {k:Nat} (h:k<l.length):(l.map Wal.av)[((k:Nat):Int).toNat]?=some (Wal.av l[k]):=by simp [h]
def Zdv (w:Wl):Int:=if decide (w.fx=w.tx)&&decide (w.fy=w.ty) then 11 else if w.straight then 0 else 15
def Zu5 (L:Wl) (ms:List ByteArray) (w:Wal):Int:=if Ud w.mt ms&&((w.cu==⟨#[]⟩)||Ud w.cu ms) then Zdv L else 6
def wErr (cs:List (Int × Int)) (ms:List ByteArray) (i:Nat) (w:Wal):Int:=Zu5 (wlOf cs i) ms w
theorem Zvu {l k E:Int} {R0:Int × Int × List ByteArray} {res:PRes} {σ:St} (hR:R0.2.1≠0->res=⟨chkV (l,R0.1,R0.2.1),[]⟩) (h1:R0.1=k) (h2:R0.2.1=E) (h3:E≠0):Ret res (.tup [.agg [I l,I k],I E]) σ:=by
 rw [hR (by rw [h2]; exact h3),h1,h2]; exact Zg rfl rfl
def Zda (cs:List (Int × Int)) (ms:List ByteArray):Nat->List ByteArray->List Wal->Int × Int × List ByteArray
 | _,ns,[]=>(0,0,ns)
 | i,ns,w::l=>if Yf w.nm ns=0 then (if wErr cs ms i w=0 then Zda cs ms (i+1) (addK w.nm ns) l else (i,wErr cs ms i w,addK w.nm ns)) else (i,Yf w.nm ns,ns)
abbrev sx8:FuncId->Bool:=fun f=>Qs f 142||Qs f 131||Qs f 143||Qs f 135
theorem it8 {h:Hal} (hf:h.few) (hnm:∀ m∈h.ws,m.nm.data.toList.length<100000) (hwc:h.ws.length<=h.cs.length) {s:Set7} {ms su se:List ByteArray} {res:PRes} {K:Env->St->Prop} (hR:(Zda h.cs ms 0 su h.ws).2.1≠0->res=⟨chkV (3,(Zda h.cs ms 0 su h.ws).1,(Zda h.cs ms 0 su h.ws).2.1),[]⟩)
  (hK:(Zda h.cs ms 0 su h.ws).2.1=0->∀ e σ,Ren 98 e σ (Zag 9) ⟨Zq h s ms (Zda h.cs ms 0 su h.ws).2.2 se,98⟩->K e σ):It63 sx8 (kG7 h kG6) res 8 (Zq h s ms su se) K:=by
 unfold It63 Px
 repeat'(first|refine wk0 ?_|(refine wk2 ?_ ?_<;>intro _)|fail)
 refine bs.sv (sx:=sx8) Vm Tryz.func142 (by kernel_rfl) (by kernel_rfl) ?_
 repeat'(first|refine wk0 ?_|(refine wk2 ?_ ?_<;>intro _)|fail)
 refine bs.sv (sx:=sx8) Vm Tryz.func131 (by kernel_rfl) (by kernel_rfl) ?_
 refine Zm (S:=Nat × Int × List ByteArray) (fun t=>h.ws.length-t.1) (fun t=>[(1,.func 143 [] [.ptr 0 0 0,.ptr 2 0 0,.ptr 7 0 0,.ptr 6 0 0]),(8,I (h.ws.map Wal.av).length),(9,I t.2.1)]) (fun t=>(98,.row 2 [[I 3,.func 142 [] [.ptr 0 0 0,.ptr 2 0 0,.ptr 7 0 0,.ptr 6 0 0]]] true false)::Zq h s ms t.2.2 se) 99 99
  (fun t=>t.2.1=t.1/\t.1<=h.ws.length/\Zda h.cs ms t.1 t.2.2 (h.ws.drop t.1)=Zda h.cs ms 0 su h.ws) (0,0,su) ⟨rfl,Qp _,rfl⟩ (Qd _) [] rfl (kps) (kps) ?_
 rintro ⟨k,i,ns⟩ ⟨hi,hk,hh⟩
 dsimp only at hi hk hh ⊢
 subst hi
 generalize Zda h.cs ms 0 su h.ws=R0 at *
 have e3:=Vk h.ws
 by_cases hlt:k<h.ws.length
 ·have e1:=Zm9 hlt
  have hs:=hnm _ (Qn hlt)
  have ha:=Zcm (res:=⟨Bo (Uj h.ws[k].nm),[]⟩) hs
  have hk2:=Zf (Yip hf (show k<h.cs.length by omega)) Vm
  rw [Ql hlt,Zda] at hh
  unfold wErr at hh
  generalize wlOf h.cs k=L at *
  obtain ⟨ln,la,lb,lc,ld⟩:=L
  refine bs.av (sx:=sx8) hk2 ?_
  repeat'(first|refine wk1 ?_|(refine wk2 ?_ ?_<;>intro _)|fail)
  refine bs.sv (sx:=sx8) hk2 Tryz.func143 (by kernel_rfl) (by kernel_rfl) ?_
  repeat'(first|refine wk1 ?_|(refine wk2 ?_ ?_<;>intro _)|fail)
  refine bs.sv (sx:=sx8) hk2 Tryz.func135 (by kernel_rfl) (by kernel_rfl) ?_
  repeat'(first|refine wk1 ?_|(refine wk2 ?_ ?_<;>intro _)|fail)
  all_goals (clear e1 ha e3 hk2)
  all_goals first
   | exact Zvu hR (by rw [<-hh]; clear hR hK hh; by_cases hla:la=lc<;>by_cases hlb:lb=ld<;>simp_all [Yf,Zu5,Zdv]; done) (by rw [<-hh]; clear hR hK hh; by_cases hla:la=lc<;>by_cases hlb:lb=ld<;>simp_all [Yf,Zu5,Zdv]; done) (by decide)
   | exact Qr ⟨(k+1,_,addK h.ws[k].nm ns),[],rfl,kps,kps,⟨Zb (by have:=hf.2.2.1; omega),hlt,by rw [<-hh]; clear hR hK hh; by_cases hla:la=lc<;>by_cases hlb:lb=ld<;>simp_all [Yf,Zu5,Zdv]; done⟩,by dsimp only; omega⟩
   | (exfalso; clear hR hK hh; simp_all; done)
 ·rw [Qo (by omega)] at hh
  refine bs.av (sx:=sx8) Vm ?_
  repeat'(first|refine wk1 ?_|(refine wk2 ?_ ?_<;>intro _)|fail)
  subst hh
  exact ⟨hK rfl _ _ (Pn [] rfl (kps) (kps))⟩
theorem Zbi (l:List Can):(l.map Can.av).length=l.length:=by simp
theorem Zke {l:List Can} {k:Nat} (h:k<l.length):(l.map Can.av)[((k:Nat):Int).toNat]?=some (Can.av l[k]):=by simp [h]
def cErr (h:Hal) (ms:List ByteArray) (c:Can):Int:=if Ud c.mt ms then Zgt h c else 6
def Zgs (h:Hal) (ms:List ByteArray):Nat->List ByteArray->List Can->Int × Int × List ByteArray
 | _,ns,[]=>(0,0,ns)
 | i,ns,c::l=>if Yf c.nm ns=0 then (if cErr h ms c=0 then Zgs h ms (i+1) (addK c.nm ns) l else (i,cErr h ms c,addK c.nm ns)) else (i,Yf c.nm ns,ns)
abbrev sx12:FuncId->Bool:=fun f=>Qs f 150||Qs f 131||Qs f 151||Qs f 133||Qs f 152||Qs f 135||Qs f 153||Qs f 154
theorem Zcq {l k E:Int} {R0:Int × Int × List ByteArray} {res:PRes} {σ:St} (hR:R0.2.1≠0->res=⟨chkV (l,R0.1,R0.2.1),[]⟩) (h1:R0.1=k/\R0.2.1=E) (h3:E≠0):Ret res (.tup [.agg [I l,I k],I E]) σ:=Zvu hR h1.1 h1.2 h3
theorem it12 {h:Hal} (hf:h.few) (hnm:∀ m∈h.ks,m.nm.data.toList.length<100000) {s:Set7} {ms su se:List ByteArray} {res:PRes} {K:Env->St->Prop} (hR:(Zgs h ms 0 su h.ks).2.1≠0->res=⟨chkV (4,(Zgs h ms 0 su h.ks).1,(Zgs h ms 0 su h.ks).2.1),[]⟩)
  (hK:(Zgs h ms 0 su h.ks).2.1=0->∀ e σ,Ren 98 e σ (Zag 13) ⟨Zq h s ms (Zgs h ms 0 su h.ks).2.2 se,98⟩->K e σ):It63 sx12 (kG7 h kG6) res 12 (Zq h s ms su se) K:=by
 unfold It63 Px
 repeat'(first|refine wk0 ?_|(refine wk2 ?_ ?_<;>intro _)|fail)
 refine bs.sv (sx:=sx12) Vm Tryz.func150 (by kernel_rfl) (by kernel_rfl) ?_
 repeat'(first|refine wk0 ?_|(refine wk2 ?_ ?_<;>intro _)|fail)
 refine bs.sv (sx:=sx12) Vm Tryz.func131 (by kernel_rfl) (by kernel_rfl) ?_
 refine Zm (S:=Nat × Int × List ByteArray) (fun t=>h.ks.length-t.1) (fun t=>[(1,.func 151 [] [.ptr 0 0 0,.ptr 7 0 0,.ptr 6 0 0,.ptr 2 0 0]),(8,I (h.ks.map Can.av).length),(9,I t.2.1)]) (fun t=>(98,.row 2 [[I 4,.func 150 [] [.ptr 0 0 0,.ptr 7 0 0,.ptr 6 0 0,.ptr 2 0 0]]] true false)::Zq h s ms t.2.2 se) 99 99
  (fun t=>t.2.1=t.1/\t.1<=h.ks.length/\Zgs h ms t.1 t.2.2 (h.ks.drop t.1)=Zgs h ms 0 su h.ks) (0,0,su) ⟨rfl,Qp _,rfl⟩ (Qd _) [] rfl (kps) (kps) ?_
 rintro ⟨k,i,ns⟩ ⟨hi,hk,hh⟩
 dsimp only at hi hk hh ⊢
 subst hi
 generalize Zgs h ms 0 su h.ks=R0 at *
 have e3:=Zbi h.ks
 by_cases hlt:k<h.ks.length
 ·have e1:=Zke hlt
  have hs:=hnm _ (Qn hlt)
  have ha:=Zcm (res:=⟨Bo (Uj h.ks[k].nm),[]⟩) hs
  have hk2:=Zf (c155 hf h.ks[k] (hf.2.2.2.2.2 _ (Qn hlt))) Vm
  rw [Ql hlt,Zgs] at hh
  generalize hce:Zgt h h.ks[k]=ce at *
  refine bs.av (sx:=sx12) hk2 ?_
  repeat'(first|refine wk1 ?_|(refine wk2 ?_ ?_<;>intro _)|fail)
  refine bs.sv (sx:=sx12) hk2 Tryz.func151 (by kernel_rfl) (by kernel_rfl) ?_
  repeat'(first|refine wk1 ?_|(refine wk2 ?_ ?_<;>intro _)|fail)
  refine bs.sv (sx:=sx12) hk2 Tryz.func133 (by kernel_rfl) (by kernel_rfl) ?_
  refine Mc 4 ?_
  refine Wt (bs.av (sx:=sx12) hk2 ?_)
  repeat'(first|refine wk1 ?_|(refine wk2 ?_ ?_<;>intro _)|fail)
  refine bs.sv (sx:=sx12) hk2 Tryz.func152 (by kernel_rfl) (by kernel_rfl) ?_
  repeat'(first|refine wk1 ?_|(refine wk2 ?_ ?_<;>intro _)|fail)
  refine bs.sv (sx:=sx12) hk2 Tryz.func135 (by kernel_rfl) (by kernel_rfl) ?_
  repeat'(first|refine wk1 ?_|(refine wk2 ?_ ?_<;>intro _)|fail)
  ·exact Zcq hR (by rw [<-hh]; clear hR hK hh hk2 ha e1 e3; simp_all [Yf]; done) (by decide)
  ·exact Zcq hR (by rw [<-hh]; clear hR hK hh hk2 ha e1 e3; simp_all [Yf]; done) (by decide)
  refine Wt (bs.av (sx:=sx12) hk2 ?_)
  repeat'(first|refine wk1 ?_|(refine wk2 ?_ ?_<;>intro _)|fail)
  refine bs.sv (sx:=sx12) hk2 Tryz.func153 (by kernel_rfl) (by kernel_rfl) ?_
  have hadd:Yf h.ks[k].nm ns=0:=by clear hR hK hh hk2 ha e1 e3; simp_all [Yf]; done
  rw [hadd,if_pos rfl,cErr,hce] at hh
  cases hel:Ud h.ks[k].mt ms with
  | false =>
   rw [hel,if_neg (by simp),if_neg (by decide)] at hh
   subst hh
   repeat'(first|refine wk1 ?_|(refine wk2 ?_ ?_<;>intro _)|fail)
   ·rw [hel]; exact Zcq hR ⟨rfl,rfl⟩ (by decide)
   all_goals (exfalso; clear hR hK hk2 ha e1 e3; simp_all [unl]; done)
  | true =>
   rw [hel,if_pos rfl] at hh
   repeat'(first|refine wk1 ?_|(refine wk2 ?_ ?_<;>intro _)|fail)
   all_goals try (exfalso; clear hR hK hh hk2 ha e1 e3; simp_all [unl]; done)
   refine Wt (bs.av (sx:=sx12) hk2 ?_)
   repeat'(first|refine wk1 ?_|(refine wk2 ?_ ?_<;>intro _)|fail)
   refine bs.sv (sx:=sx12) hk2 Tryz.func154 (by kernel_rfl) (by kernel_rfl) ?_
   by_cases hz:ce=0
   ·subst hz
    rw [if_pos rfl] at hh
    repeat'(first|refine wk1 ?_|(refine wk2 ?_ ?_<;>intro _)|fail)
    all_goals try (refine Wt (bs.av (sx:=sx12) hk2 ?_))
    repeat'(first|refine wk1 ?_|(refine wk2 ?_ ?_<;>intro _)|fail)
    exact Qr ⟨(k+1,_,addK h.ks[k].nm ns),[],rfl,kps,kps,⟨Zb (by have:=hf.2.2.2.1; omega),hlt,hh⟩,by dsimp only; omega⟩
   ·rw [if_neg hz] at hh
    subst hh
    repeat'(first|refine wk1 ?_|(refine wk2 ?_ ?_<;>intro _)|fail)
    ·exact Zcq hR ⟨rfl,rfl⟩ hz
    all_goals (exfalso; clear hR hK hk2 ha e1 e3; simp_all; done)
 ·rw [Qo (by omega)] at hh
  refine bs.av (sx:=sx12) Vm ?_
  repeat'(first|refine wk1 ?_|(refine wk2 ?_ ?_<;>intro _)|fail)
  subst hh
  exact ⟨hK rfl _ _ (Pn [] rfl (kps) (kps))⟩
theorem Zdk (l:List Sea):(l.map Sea.av).length=l.length:=by simp
theorem Zrv {l:List Sea} {k:Nat} (h:k<l.length):(l.map Sea.av)[((k:Nat):Int).toNat]?=some (Sea.av l[k]):=by simp [h]
def Ze8 (h:Hal):Nat->List ByteArray->List Sea->Int × Int × List ByteArray
 | _,ns,[]=>(0,0,ns)
 | i,ns,c::l=>if Yf c.nm ns=0 then (if Zmg h c.x c.y c.z=0 then Ze8 h (i+1) (addK c.nm ns) l else (i,Zmg h c.x c.y c.z,addK c.nm ns)) else (i,Yf c.nm ns,ns)
abbrev sx14:FuncId->Bool:=fun f=>Qs f 156||Qs f 131||Qs f 157||Qs f 133||Qs f 158||Qs f 135||Qs f 159
theorem it14 {h:Hal} (hf:h.few) (hnm:∀ m∈h.ss,m.nm.data.toList.length<100000) {s:Set7} {ms su se:List ByteArray} {res:PRes} {K:Env->St->Prop} (hR:(Ze8 h 0 se h.ss).2.1≠0->res=⟨chkV (5,(Ze8 h 0 se h.ss).1,(Ze8 h 0 se h.ss).2.1),[]⟩)
  (hK:(Ze8 h 0 se h.ss).2.1=0->∀ e σ,Ren 98 e σ (Zag 15) ⟨Zq h s ms su (Ze8 h 0 se h.ss).2.2,98⟩->K e σ):It63 sx14 (kG7 h kG6) res 14 (Zq h s ms su se) K:=by
 unfold It63 Px
 repeat'(first|refine wk0 ?_|(refine wk2 ?_ ?_<;>intro _)|fail)
 refine bs.sv (sx:=sx14) Vm Tryz.func156 (by kernel_rfl) (by kernel_rfl) ?_
 repeat'(first|refine wk0 ?_|(refine wk2 ?_ ?_<;>intro _)|fail)
 refine bs.sv (sx:=sx14) Vm Tryz.func131 (by kernel_rfl) (by kernel_rfl) ?_
 refine Zm (S:=Nat × Int × List ByteArray) (fun t=>h.ss.length-t.1) (fun t=>[(1,.func 157 [] [.ptr 0 0 0,.ptr 8 0 0,.ptr 2 0 0]),(8,I (h.ss.map Sea.av).length),(9,I t.2.1)]) (fun t=>(98,.row 2 [[I 5,.func 156 [] [.ptr 0 0 0,.ptr 8 0 0,.ptr 2 0 0]]] true false)::Zq h s ms su t.2.2) 99 99
  (fun t=>t.2.1=t.1/\t.1<=h.ss.length/\Ze8 h t.1 t.2.2 (h.ss.drop t.1)=Ze8 h 0 se h.ss) (0,0,se) ⟨rfl,Qp _,rfl⟩ (Qd _) [] rfl (kps) (kps) ?_
 rintro ⟨k,i,ns⟩ ⟨hi,hk,hh⟩
 dsimp only at hi hk hh ⊢
 subst hi
 generalize Ze8 h 0 se h.ss=R0 at *
 have e3:=Zdk h.ss
 by_cases hlt:k<h.ss.length
 ·have e1:=Zrv hlt
  have hs:=hnm _ (Qn hlt)
  have ha:=Zcm (res:=⟨Bo (Uj h.ss[k].nm),[]⟩) hs
  have hk2:=Zf (c160 hf h.ss[k].x h.ss[k].y h.ss[k].z) Vm
  rw [Ql hlt,Ze8] at hh
  generalize hce:Zmg h h.ss[k].x h.ss[k].y h.ss[k].z=ce at *
  refine bs.av (sx:=sx14) hk2 ?_
  repeat'(first|refine wk1 ?_|(refine wk2 ?_ ?_<;>intro _)|fail)
  refine bs.sv (sx:=sx14) hk2 Tryz.func157 (by kernel_rfl) (by kernel_rfl) ?_
  repeat'(first|refine wk1 ?_|(refine wk2 ?_ ?_<;>intro _)|fail)
  refine bs.sv (sx:=sx14) hk2 Tryz.func133 (by kernel_rfl) (by kernel_rfl) ?_
  refine Mc 3 ?_
  refine Wt (bs.av (sx:=sx14) hk2 ?_)
  repeat'(first|refine wk1 ?_|(refine wk2 ?_ ?_<;>intro _)|fail)
  refine bs.sv (sx:=sx14) hk2 Tryz.func158 (by kernel_rfl) (by kernel_rfl) ?_
  repeat'(first|refine wk1 ?_|(refine wk2 ?_ ?_<;>intro _)|fail)
  refine bs.sv (sx:=sx14) hk2 Tryz.func135 (by kernel_rfl) (by kernel_rfl) ?_
  repeat'(first|refine wk1 ?_|(refine wk2 ?_ ?_<;>intro _)|fail)
  ·exact Zcq hR (by rw [<-hh]; clear hR hK hh hk2 ha e1 e3; simp_all [Yf]; done) (by decide)
  ·exact Zcq hR (by rw [<-hh]; clear hR hK hh hk2 ha e1 e3; simp_all [Yf]; done) (by decide)
  refine Wt (bs.av (sx:=sx14) hk2 ?_)
  repeat'(first|refine wk1 ?_|(refine wk2 ?_ ?_<;>intro _)|fail)
  refine bs.sv (sx:=sx14) hk2 Tryz.func159 (by kernel_rfl) (by kernel_rfl) ?_
  have hadd:Yf h.ss[k].nm ns=0:=by clear hR hK hh hk2 ha e1 e3; simp_all [Yf]; done
  rw [hadd,if_pos rfl] at hh
  by_cases hz:ce=0
  ·subst hz
   rw [if_pos rfl] at hh
   repeat'(first|refine wk1 ?_|(refine wk2 ?_ ?_<;>intro _)|fail)
   all_goals try (refine Wt (bs.av (sx:=sx14) hk2 ?_))
   repeat'(first|refine wk1 ?_|(refine wk2 ?_ ?_<;>intro _)|fail)
   exact Qr ⟨(k+1,_,addK h.ss[k].nm ns),[],rfl,kps,kps,⟨Zb (by have:=hf.2.2.2.2.1; omega),hlt,hh⟩,by dsimp only; omega⟩
  ·rw [if_neg hz] at hh
   subst hh
   repeat'(first|refine wk1 ?_|(refine wk2 ?_ ?_<;>intro _)|fail)
   ·exact Zcq hR ⟨rfl,rfl⟩ hz
   all_goals (exfalso; clear hR hK hk2 ha e1 e3; simp_all; done)
 ·rw [Qo (by omega)] at hh
  refine bs.av (sx:=sx14) Vm ?_
  repeat'(first|refine wk1 ?_|(refine wk2 ?_ ?_<;>intro _)|fail)
  subst hh
  exact ⟨hK rfl _ _ (Pn [] rfl (kps) (kps))⟩
def Zz:List (Int × Int × Int)->Int × Int × Int
 | []=>(0,0,0)
 | x::l=>if x.2.2=0 then Zz l else x
def Hal.names (h:Hal):List ByteArray:=(Ub 0 [] h.ms).2.2
def Hal.wal (h:Hal):Int × Int × List ByteArray:=Zda h.cs h.names 0 su0 h.ws
def Hal.can (h:Hal):Int × Int × List ByteArray:=Zgs h h.names 0 h.wal.2.2 h.ks
def Zyo (h:Hal):List (Int × Int × Int) :=
  [(0, 0, unl (set7 h).a 4), (0, 0, unl (set7 h).b 2), (0, 0, unl (set7 h).c 8), (1, (Ub 0 [] h.ms).1, (Ub 0 [] h.ms).2.1), (0, 0, Zks h h.names), (0, 0, unl (set7 h).d 10), (0, 0, unl (set7 h).e 8), (2, (Zhj 0 h.cs).1, (Zhj 0 h.cs).2),
   (3, h.wal.1, h.wal.2.1), (0, 0, unl (Xt h) 24), (0, 0, unl (decide (0<Zdf h)) 9), (0, 0, unl (set7 h).f 8), (4, h.can.1, h.can.2.1), (0, 0, unl (set7 h).g 8), (5, (Ze8 h 0 [] h.ss).1, (Ze8 h 0 [] h.ss).2.1)]
def chk (h:Hal):Int × Int × Int:=Zz (Zyo h)
structure Hal.texts (h:Hal):Prop where
 nm:h.nm.data.toList.length<100000
 ms:∀ m∈h.ms,m.nm.data.toList.length<100000
 ws:∀ m∈h.ws,m.nm.data.toList.length<100000
 ks:∀ m∈h.ks,m.nm.data.toList.length<100000
 ss:∀ m∈h.ss,m.nm.data.toList.length<100000
theorem LpR.it {P:Program} {N n0 m:Nat} {c:Code} {Q:Exit->Env->St->Prop} {env env2:Env} {σ σ2:St} (hr:Ren n0 env σ env2 σ2) (h:Awp P N c env2 σ2 (seqQ (fun e s=>Done (LpR P N n0 c Q m e s)) Q)):LpR P N n0 c Q (m+1) env σ :=
 LpR.go hr (h.seqMono fun _ _ k=>k.1)
theorem Xl {res:PRes} {x:Int × Int × Int} {l:List (Int × Int × Int)} (h:res=⟨chkV (Zz (x::l)),[]⟩):x.2.2≠0->res=⟨chkV x,[]⟩:=fun hx=>by rw [h,Zz,if_neg hx]
theorem Xm {res:PRes} {x:Int × Int × Int} {l:List (Int × Int × Int)} (h:res=⟨chkV (Zz (x::l)),[]⟩) (hx:x.2.2=0):res=⟨chkV (Zz l),[]⟩:=by rw [h,Zz,if_pos hx]
theorem Ue {b:Bool} {e:Int} (h:unl b e=0) (he:e≠0):b=true:=by cases b; exact (he h).elim; rfl
theorem Yfq {h:Hal} (hf:h.few) (ht:h.texts) {res:PRes} (h0:res=⟨chkV (chk h),[]⟩):Lp Tryz.prog Tryz.f73.ntmps lc63 (Zag 0) ⟨Zq h (set7 h) [] su0 [],98⟩ (Q63 res):=by
 have hg:=Ygz h Vm
 refine LpR.start 16 98 (Qd _) ?_
 refine LpR.it (Pn [] rfl (kps) (kps)) (bs.av hg (it0 (Xl h0) fun z0 e σ hr=>?_))
 have h1:=Xm h0 z0
 refine LpR.it hr (bs.av hg (it1 (Xl h1) fun z1 e σ hr=>?_))
 have h2:=Xm h1 z1
 refine LpR.it hr (bs.av hg (it2 (Xl h2) fun z2 e σ hr=>?_))
 have h3:=Xm h2 z2
 refine LpR.it hr (bs.av hg (it3 hf ht.ms (Xl h3) fun z3 e σ hr=>?_))
 have h4:=Xm h3 z3
 refine LpR.it hr (bs.av hg (it4 (Xl h4) fun z4 e σ hr=>?_))
 have h5:=Xm h4 z4
 refine LpR.it hr (bs.av hg (it5 (Xl h5) fun z5 e σ hr=>?_))
 have h6:=Xm h5 z5
 refine LpR.it hr (bs.av hg (it6 (Xl h6) fun z6 e σ hr=>?_))
 have h7:=Xm h6 z6
 refine LpR.it hr (bs.av hg (it7 hf (Xl h7) fun z7 e σ hr=>?_))
 have h8:=Xm h7 z7
 have hwc:h.ws.length<=h.cs.length:=by
  have:=Ue z5 (by decide)
  simp only [set7,Qc,decide_eq_true_eq] at this
  omega
 refine LpR.it hr (bs.av hg (it8 hf ht.ws hwc (Xl h8) fun z8 e σ hr=>?_))
 have h9:=Xm h8 z8
 refine LpR.it hr (bs.av (Zf (c147 hf) hg) (it9 (Xl h9) fun z9 e σ hr=>?_))
 have h10:=Xm h9 z9
 refine LpR.it hr (bs.av (Zf (c149 hf) hg) (it10 (Xl h10) fun z10 e σ hr=>?_))
 have h11:=Xm h10 z10
 refine LpR.it hr (bs.av hg (it11 (Xl h11) fun z11 e σ hr=>?_))
 have h12:=Xm h11 z11
 refine LpR.it hr (bs.av hg (it12 hf ht.ks (Xl h12) fun z12 e σ hr=>?_))
 have h13:=Xm h12 z12
 refine LpR.it hr (bs.av hg (it13 (Xl h13) fun z13 e σ hr=>?_))
 have h14:=Xm h13 z13
 refine LpR.it hr (bs.av hg (it14 hf ht.ss (Xl h14) fun z14 e σ hr=>?_))
 have h15:=Xm h14 z14
 refine LpR.go hr (bs.av (sx:=nos) hg ?_)
 repeat'(first|refine wk0 ?_|(refine wk2 ?_ ?_<;>intro _)|fail)
 rw [h15]
 exact Zg rfl rfl
theorem c63 {h:Hal} (hf:h.few) (ht:h.texts):PCall Tryz.prog 73 [h.av] ⟨chkV (chk h),[]⟩:=by
 have ha:=Zcm (res:=⟨Bo (Uj h.nm),[]⟩) ht.nm
 have l1:(h.ms.map Mat.av).length=h.ms.length:=by simp
 have l2:(h.cs.map pt).length=h.cs.length:=by simp
 have l3:(h.ws.map Wal.av).length=h.ws.length:=by simp
 have l4:(h.ks.map Can.av).length=h.ks.length:=by simp
 have l5:(h.ss.map Sea.av).length=h.ss.length:=by simp
 have key:=Yfq hf ht rfl
 refine pn Vm Tryz.func73 ?_
 repeat'(first|refine wk0 ?_|(refine wk2 ?_ ?_<;>intro _)|fail)
 ·rename_i hb
  have e7:set7 h=⟨Uj h.nm,within h.ht 2 5000,decide (((h.ms.map Mat.av).length:Int)<=10),decide (((h.ws.map Wal.av).length:Int)=(h.cs.map pt).length),decide (((h.ws.map Wal.av).length:Int)<=12),decide (((h.ks.map Can.av).length:Int)<=4),decide (((h.ss.map Sea.av).length:Int)<=40)⟩:=by
   rw [l2] at hb
   rw [l1,l2,l3,l4,l5,set7,hb]; rfl
  rw [e7] at key
  refine Lp.ren (Pn [] rfl (kps) (kps)) key
 ·rename_i hb
  have e7:set7 h=⟨Uj h.nm,within h.ht 2 5000,decide (((h.ms.map Mat.av).length:Int)<=10),false,decide (((h.ws.map Wal.av).length:Int)<=12),decide (((h.ks.map Can.av).length:Int)<=4),decide (((h.ss.map Sea.av).length:Int)<=40)⟩:=by
   rw [l2] at hb
   rw [l1,l3,l4,l5,set7,hb]; rfl
  rw [e7] at key
  refine Lp.ren (Pn [] rfl (kps) (kps)) key
end Go.Proofs.YtanbhfpalahjcaaGreat
