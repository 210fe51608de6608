/- A part of the proof: lemmas. -/
import Derived.Test.YtfkdpbklbegnlaaGreatZ3
import Derived.Test.YtfkdpbklbegnlaaGreatZ6
import Derived.Test.YtfkdpbklbegnlaaGreatZ7
import Derived.IntWalk
import Derived.KernelRfl
import Derived.Test.YtfkdpbklbegnlaaGreatProg
import Derived.Test.YtfkdpbklbegnlaaGreatRows
set_option linter.unusedVariables false
set_option linter.unusedSimpArgs false
set_option maxRecDepth 100000
set_option maxHeartbeats 16000000
open And renaming intro->Kq
open Bool renaming and_eq_true->Qc
open Go.Extern.MathSqrt renaming sqrt->Fq
open Go.IntKind renaming i64->Qb,wrap->Qa
open Go.IntWalk renaming i64_in->Kg
open Go.Sx.Base renaming vcode->Pc
open Go.Sx.Br renaming intro->Ty
open Go.Sx.Done renaming mk->Ql
open Go.Sx.Dr renaming intro->Qbq
open Go.Sx.Got renaming intro->Sw
open Go.Sx.LpM renaming start->Su,succ->Qx
open Go.Sx.Ren renaming of->Wt
open Go.Sx.Ret renaming mk->Qcv
open Go.Sx.Rg renaming ren->Dk
open Int renaming not_lt->Km
open List renaming drop_eq_getElem_cons->Qi,drop_of_length_le->Qk,getElem_mem->Qr,map_cons->Ti,range->Si
open List.cons renaming injEq->Qs
open Nat renaming beq->Qp,blt->Ww,blt_eq->Sm,eq_of_beq_eq_true->Qh,le_refl->Qd,mod_lt->Pn,zero_le->Qn
open Option.some renaming injEq->Qf
namespace Go.Proofs.YtfkdpbklbegnlaaGreat
open Go Go.Sx
noncomputable def tbl:List (Nat × TI) :=
  [(2, ⟨.int .i64, 1, 8, false, [.int .i64 0]⟩),
   (3, ⟨.int .i64, 1, 8, false, [.int .i64 0]⟩),
   (4, ⟨.bool, 1, 1, false, [.bool false]⟩),
   (5, ⟨.int .u8, 1, 1, false, [.int .u8 0]⟩),
   (6, ⟨.int .u8, 1, 1, false, [.int .u8 0]⟩),
   (8, ⟨.struct #[⟨ "x", 2, 0, false, "", "runtime", 0⟩, ⟨ "y", 3, 1, false, "", "runtime", 8⟩, ⟨ "signed", 4, 2, false, "", "runtime", 16⟩, ⟨ "code", 6, 3, false, "", "runtime", 17⟩], 4, 24, true, [.int .i64 0, .int .i64 0, .bool false, .int .u8 0]⟩),
   (9, ⟨.string, 1, 16, false, [.str ⟨#[]⟩]⟩),
   (10, ⟨.string, 1, 16, false, [.str ⟨#[]⟩]⟩),
   (11, ⟨.string, 1, 16, false, [.str ⟨#[]⟩]⟩),
   (12, ⟨.int .u64, 1, 8, false, [.int .u64 0]⟩),
   (14, ⟨.struct #[⟨ "msg", 9, 0, false, "", "runtime", 0⟩, ⟨ "addr", 12, 1, false, "", "runtime", 16⟩], 2, 24, true, [.str ⟨#[]⟩, .int .u64 0]⟩),
   (15, ⟨.pointer 336, 1, 8, false, [.nilp]⟩),
   (16, ⟨.pointer 339, 1, 8, false, [.nilp]⟩),
   (17, ⟨.pointer 346, 1, 8, false, [.nilp]⟩),
   (19, ⟨.struct #[⟨ "typ", 17, 0, false, "", "internal/runtime/maps", 0⟩], 1, 8, true, [.nilp]⟩),
   (22, ⟨.slice 69, 1, 24, false, [.nils]⟩),
   (23, ⟨.slice 101, 1, 24, false, [.nils]⟩),
   (24, ⟨.slice 119, 1, 24, false, [.nils]⟩),
   (25, ⟨.slice 103, 1, 24, false, [.nils]⟩),
   (26, ⟨.slice 124, 1, 24, false, [.nils]⟩),
   (28, ⟨.struct #[⟨ "Name", 9, 0, false, "", "", 0⟩, ⟨ "Height", 3, 1, false, "", "", 16⟩, ⟨ "Floor", 9, 2, false, "", "", 24⟩, ⟨ "Ceiling", 9, 3, false, "", "", 40⟩, ⟨ "Materials", 22, 4, false, "", "", 56⟩, ⟨ "Corners", 23, 5, false, "", "", 80⟩, ⟨ "Walls", 24, 6, false, "", "", 104⟩, ⟨ "Canopies", 25, 7, false, "", "", 128⟩, ⟨ "Seats", 26, 8, false, "", "", 152⟩], 9, 176, true, [.str ⟨#[]⟩, .int .i64 0, .str ⟨#[]⟩, .str ⟨#[]⟩, .nils, .nils, .nils, .nils, .nils]⟩),
   (29, ⟨.slice 3, 1, 24, false, [.nils]⟩),
   (31, ⟨.struct #[⟨ "Heights", 29, 0, false, "", "", 0⟩, ⟨ "Drawn", 29, 1, false, "", "", 24⟩], 2, 48, true, [.nils, .nils]⟩),
   (33, ⟨.struct #[⟨ "Hall", 28, 0, false, "", "", 0⟩, ⟨ "Setting", 31, 9, false, "", "", 176⟩], 11, 224, true, [.str ⟨#[]⟩, .int .i64 0, .str ⟨#[]⟩, .str ⟨#[]⟩, .nils, .nils, .nils, .nils, .nils, .nils, .nils]⟩),
   (35, ⟨.struct #[⟨ "X", 3, 0, false, "", "", 0⟩, ⟨ "Y", 3, 1, false, "", "", 8⟩, ⟨ "Z", 3, 2, false, "", "", 16⟩], 3, 24, true, [.int .i64 0, .int .i64 0, .int .i64 0]⟩),
   (37, ⟨.struct #[⟨ "From", 35, 0, false, "", "", 0⟩, ⟨ "To", 35, 3, false, "", "", 24⟩, ⟨ "Order", 3, 6, false, "", "", 48⟩], 7, 56, true, [.int .i64 0, .int .i64 0, .int .i64 0, .int .i64 0, .int .i64 0, .int .i64 0, .int .i64 0]⟩),
   (39, ⟨.struct #[⟨ "Band", 3, 0, false, "", "", 0⟩, ⟨ "Air", 3, 1, false, "", "", 8⟩, ⟨ "Speed", 3, 2, false, "", "", 16⟩], 3, 24, true, [.int .i64 0, .int .i64 0, .int .i64 0]⟩),
   (40, ⟨.func #[] #[4] false, 1, 8, false, [.any]⟩),
   (42, ⟨.slice 60, 1, 24, false, [.nils]⟩),
   (43, ⟨.int .i64, 1, 8, false, [.int .i64 0]⟩),
   (58, ⟨.struct #[⟨ "Lo", 3, 0, false, "", "", 0⟩, ⟨ "Hi", 3, 1, false, "", "", 8⟩], 2, 16, true, [.int .i64 0, .int .i64 0]⟩),
   (60, ⟨.struct #[⟨ "Surfaces", 29, 0, false, "", "", 0⟩, ⟨ "Delay", 58, 1, false, "", "", 24⟩, ⟨ "Energy", 58, 3, false, "", "", 40⟩], 5, 56, true, [.nils, .int .i64 0, .int .i64 0, .int .i64 0, .int .i64 0]⟩),
   (62, ⟨.array 2 3, 2, 16, true, [.int .i64 0, .int .i64 0]⟩),
   (67, ⟨.array 4 3, 4, 32, true, [.int .i64 0, .int .i64 0, .int .i64 0, .int .i64 0]⟩),
   (69, ⟨.struct #[⟨ "Name", 9, 0, false, "", "", 0⟩, ⟨ "Absorbed", 67, 1, false, "", "", 16⟩, ⟨ "Scattered", 3, 5, false, "", "", 48⟩], 6, 56, true, [.str ⟨#[]⟩, .int .i64 0, .int .i64 0, .int .i64 0, .int .i64 0, .int .i64 0]⟩),
   (73, ⟨.slice 153, 1, 24, false, [.nils]⟩),
   (75, ⟨.struct #[⟨ "Surfaces", 29, 0, false, "", "", 0⟩, ⟨ "Points", 73, 1, false, "", "", 24⟩, ⟨ "Square", 3, 2, false, "", "", 48⟩], 3, 56, true, [.nils, .nils, .int .i64 0]⟩),
   (78, ⟨.slice 29, 1, 24, false, [.nils]⟩),
   (80, ⟨.struct #[⟨ "Shares", 78, 0, false, "", "", 0⟩, ⟨ "Lost", 29, 1, false, "", "", 24⟩], 2, 48, true, [.nils, .nils]⟩),
   (87, ⟨.func #[] #[43] false, 1, 8, false, [.any]⟩),
   (89, ⟨.struct #[⟨ "EnergyAir", 39, 0, true, "", "", 0⟩], 3, 24, true, [.int .i64 0, .int .i64 0, .int .i64 0]⟩),
   (90, ⟨.slice 75, 1, 24, false, [.nils]⟩),
   (96, ⟨.struct #[⟨ "Range", 58, 0, true, "", "", 0⟩], 2, 16, true, [.int .i64 0, .int .i64 0]⟩),
   (98, ⟨.struct #[⟨ "hall", 28, 0, false, "", "shoebox/energy", 0⟩, ⟨ "setting", 31, 9, false, "", "shoebox/energy", 176⟩], 11, 224, true, [.str ⟨#[]⟩, .int .i64 0, .str ⟨#[]⟩, .str ⟨#[]⟩, .nils, .nils, .nils, .nils, .nils, .nils, .nils]⟩),
   (101, ⟨.struct #[⟨ "X", 3, 0, false, "", "", 0⟩, ⟨ "Y", 3, 1, false, "", "", 8⟩], 2, 16, true, [.int .i64 0, .int .i64 0]⟩),
   (103, ⟨.struct #[⟨ "Name", 9, 0, false, "", "", 0⟩, ⟨ "Material", 9, 1, false, "", "", 16⟩, ⟨ "From", 101, 2, false, "", "", 32⟩, ⟨ "To", 101, 4, false, "", "", 48⟩, ⟨ "Heights", 29, 6, false, "", "", 64⟩], 7, 88, true, [.str ⟨#[]⟩, .str ⟨#[]⟩, .int .i64 0, .int .i64 0, .int .i64 0, .int .i64 0, .nils]⟩),
   (119, ⟨.struct #[⟨ "Name", 9, 0, false, "", "", 0⟩, ⟨ "Material", 9, 1, false, "", "", 16⟩, ⟨ "Curtain", 9, 2, false, "", "", 32⟩], 3, 48, true, [.str ⟨#[]⟩, .str ⟨#[]⟩, .str ⟨#[]⟩]⟩),
   (124, ⟨.struct #[⟨ "Name", 9, 0, false, "", "", 0⟩, ⟨ "At", 35, 1, false, "", "", 16⟩], 4, 40, true, [.str ⟨#[]⟩, .int .i64 0, .int .i64 0, .int .i64 0]⟩),
   (125, ⟨.slice 87, 1, 24, false, [.nils]⟩),
   (128, ⟨.func #[3] #[43] false, 1, 8, false, [.any]⟩),
   (129, ⟨.slice 9, 1, 24, false, [.nils]⟩),
   (133, ⟨.struct #[⟨ "Hall", 28, 0, true, "", "", 0⟩, ⟨ "setting", 31, 9, false, "", "shoebox/image", 176⟩], 11, 224, true, [.str ⟨#[]⟩, .int .i64 0, .str ⟨#[]⟩, .str ⟨#[]⟩, .nils, .nils, .nils, .nils, .nils, .nils, .nils]⟩),
   (134, ⟨.func #[181] #[] false, 1, 8, false, [.any]⟩),
   (139, ⟨.func #[75, 75] #[3] false, 1, 8, false, [.any]⟩),
   (147, ⟨.struct #[⟨ "List", 3, 0, false, "", "", 0⟩, ⟨ "Number", 3, 1, false, "", "", 8⟩], 2, 16, true, [.int .i64 0, .int .i64 0]⟩),
   (150, ⟨.func #[3] #[4] false, 1, 8, false, [.any]⟩),
   (153, ⟨.struct #[⟨ "X", 3, 0, false, "", "", 0⟩, ⟨ "Y", 3, 1, false, "", "", 8⟩, ⟨ "Z", 3, 2, false, "", "", 16⟩, ⟨ "Den", 3, 3, false, "", "", 24⟩], 4, 32, true, [.int .i64 0, .int .i64 0, .int .i64 0, .int .i64 0]⟩),
   (162, ⟨.struct #[⟨ "Hall", 28, 0, true, "", "", 0⟩], 9, 176, true, [.str ⟨#[]⟩, .int .i64 0, .str ⟨#[]⟩, .str ⟨#[]⟩, .nils, .nils, .nils, .nils, .nils]⟩),
   (171, ⟨.struct #[⟨ "EnergyExchange", 80, 0, true, "", "", 0⟩], 2, 48, true, [.nils, .nils]⟩),
   (177, ⟨.slice 43, 1, 24, false, [.nils]⟩),
   (181, ⟨.func #[29] #[4] false, 1, 8, false, [.any]⟩),
   (182, ⟨.slice 35, 1, 24, false, [.nils]⟩),
   (187, ⟨.struct #[⟨ "Surface", 3, 0, false, "", "", 0⟩, ⟨ "From", 35, 1, false, "", "", 8⟩, ⟨ "To", 153, 4, false, "", "", 32⟩], 8, 64, true, [.int .i64 0, .int .i64 0, .int .i64 0, .int .i64 0, .int .i64 0, .int .i64 0, .int .i64 0, .int .i64 0]⟩),
   (190, ⟨.struct #[⟨ "From", 153, 0, false, "", "", 0⟩, ⟨ "To", 153, 4, false, "", "", 32⟩], 8, 64, true, [.int .i64 0, .int .i64 0, .int .i64 0, .int .i64 0, .int .i64 0, .int .i64 0, .int .i64 0, .int .i64 0]⟩),
   (195, ⟨.int .u64, 1, 8, false, [.int .u64 0]⟩),
   (199, ⟨.struct #[⟨ "room", 162, 0, true, "", "shoebox/hall", 0⟩, ⟨ "HallSetting", 31, 9, true, "", "", 176⟩], 11, 224, true, [.str ⟨#[]⟩, .int .i64 0, .str ⟨#[]⟩, .str ⟨#[]⟩, .nils, .nils, .nils, .nils, .nils, .nils, .nils]⟩),
   (217, ⟨.pointer 220, 1, 8, false, [.nilp]⟩),
   (218, ⟨.slice 5, 1, 24, false, [.nils]⟩),
   (220, ⟨.struct #[⟨ "addr", 217, 0, false, "", "strings", 0⟩, ⟨ "buf", 218, 1, false, "", "strings", 8⟩], 2, 32, true, [.nilp, .nils]⟩),
   (238, ⟨.struct #[⟨ "Kind", 3, 0, false, "", "", 0⟩, ⟨ "At", 3, 1, false, "", "", 8⟩], 2, 16, true, [.int .i64 0, .int .i64 0]⟩),
   (249, ⟨.int .i64, 1, 8, false, [.int .i64 0]⟩),
   (257, ⟨.int .u32, 1, 4, false, [.int .u32 0]⟩),
   (259, ⟨.int .u64, 1, 8, false, [.int .u64 0]⟩),
   (261, ⟨.func #[69] #[4] false, 1, 8, false, [.any]⟩),
   (263, ⟨.struct #[⟨ "X", 3, 0, false, "", "", 0⟩, ⟨ "Y", 3, 1, false, "", "", 8⟩, ⟨ "DX", 3, 2, false, "", "", 16⟩, ⟨ "DY", 3, 3, false, "", "", 24⟩], 4, 32, true, [.int .i64 0, .int .i64 0, .int .i64 0, .int .i64 0]⟩),
   (268, ⟨.array 4 263, 16, 128, true, [.int .i64 0, .int .i64 0, .int .i64 0, .int .i64 0, .int .i64 0, .int .i64 0, .int .i64 0, .int .i64 0, .int .i64 0, .int .i64 0, .int .i64 0, .int .i64 0, .int .i64 0, .int .i64 0, .int .i64 0, .int .i64 0]⟩),
   (281, ⟨.map 9 4, 1, 8, false, [.any]⟩),
   (282, ⟨.func #[] #[3, 43] false, 1, 8, false, [.any]⟩),
   (284, ⟨.struct #[⟨ "list", 3, 0, false, "", "shoebox/hall", 0⟩, ⟨ "check", 282, 1, false, "", "shoebox/hall", 8⟩], 2, 16, true, [.int .i64 0, .any]⟩),
   (290, ⟨.struct #[⟨ "number", 3, 0, false, "", "shoebox/hall", 0⟩, ⟨ "from", 101, 1, false, "", "shoebox/hall", 8⟩, ⟨ "to", 101, 3, false, "", "shoebox/hall", 24⟩], 5, 40, true, [.int .i64 0, .int .i64 0, .int .i64 0, .int .i64 0, .int .i64 0]⟩),
   (294, ⟨.array 15 284, 30, 240, true, [.int .i64 0, .any, .int .i64 0, .any, .int .i64 0, .any, .int .i64 0, .any, .int .i64 0, .any, .int .i64 0, .any, .int .i64 0, .any, .int .i64 0, .any, .int .i64 0, .any, .int .i64 0, .any, .int .i64 0, .any, .int .i64 0, .any, .int .i64 0, .any, .int .i64 0, .any, .int .i64 0, .any]⟩),
   (295, ⟨.float .f64, 1, 8, false, [.flt .f64 0]⟩),
   (297, ⟨.pointer 5, 1, 8, false, [.nilp]⟩),
   (301, ⟨.struct #[⟨ "x", 58, 0, false, "", "shoebox/hall", 0⟩, ⟨ "y", 58, 2, false, "", "shoebox/hall", 16⟩], 4, 32, true, [.int .i64 0, .int .i64 0, .int .i64 0, .int .i64 0]⟩),
   (306, ⟨.struct #[⟨ "from", 153, 0, false, "", "shoebox/hall", 0⟩, ⟨ "to", 153, 4, false, "", "shoebox/hall", 32⟩], 8, 64, true, [.int .i64 0, .int .i64 0, .int .i64 0, .int .i64 0, .int .i64 0, .int .i64 0, .int .i64 0, .int .i64 0]⟩),
   (307, ⟨.func #[290] #[4] false, 1, 8, false, [.any]⟩),
   (311, ⟨.int .u64, 1, 8, false, [.int .u64 0]⟩),
   (315, ⟨.pointer 3, 1, 8, false, [.nilp]⟩),
   (317, ⟨.array 5 3, 5, 40, true, [.int .i64 0, .int .i64 0, .int .i64 0, .int .i64 0, .int .i64 0]⟩),
   (330, ⟨.pointer 311, 1, 8, false, [.nilp]⟩),
   (332, ⟨.array 4 101, 8, 64, true, [.int .i64 0, .int .i64 0, .int .i64 0, .int .i64 0, .int .i64 0, .int .i64 0, .int .i64 0, .int .i64 0]⟩),
   (341, ⟨.int .u8, 1, 1, false, [.int .u8 0]⟩)]
def eqs:List Nat:=[35,58,101,153]
theorem Ykg:(tbl.map fun p=>mkTI Tryz.prog p.1)=tbl.map fun p=>some p.2:=by kernel_rfl
theorem Yfa:TabOK Tryz.prog (tget tbl):=Ybf Ykg
theorem Ykp:(eqs.all fun t=>!Tryz.prog.stoodInHeld t && !Tryz.prog.eqGuardType Tryz.prog.depth t)=true:=by kernel_rfl
theorem eqOK:EqOK Tryz.prog (memN eqs):=Yg3 Ykp
abbrev I (n:Int):AV:=.int .i64 n
def pt0:PC:=fun _ _=>none
theorem Zc:PCOK Tryz.prog pt0:=fun _ _ _ h=>by cases h
theorem mixed:Tryz.prog.follows .mixedOrders=true:=by kernel_rfl
noncomputable def bs:Base Tryz.prog:=⟨tget tbl,memN eqs,Yfa,eqOK,mixed⟩
def nos:FuncId->Bool:=fun _=>false
def sgn (n:Int):Int:=if n>0 then 1 else if n<0 then -1 else 0
theorem c115 (n:Int):PCall Tryz.prog 171 [I n] ⟨I (sgn n),[]⟩:=by
 refine bs.pcall (sx:=nos) Zc Tryz.func171 (by kernel_rfl) (by kernel_rfl) rfl ?_
 refine Ty (fun h1=>?_) (fun h1=>?_)
 ·exact Zdp (by simp at h1; simp [sgn,h1])
 ·refine Ty (fun h2=>?_) (fun h2=>?_)
  ·exact Zdp (by simp at h1 h2; simp [sgn,h2,Km.2 h1])
  ·exact Zdp (by simp at h1 h2; simp [sgn,Km.2 h2,Km.2 h1])
theorem c145 {nm ht fl ce ms wa ca se:AV} {es:List (List AV)} {i:Nat} {x y u v:Int} (hn:es.length<1000) (h1:es[i]?=some [I x,I y]) (h2:es[(i+1)%es.length]?=some [I u,I v]) :
  PCall Tryz.prog 230 [.agg [nm,ht,fl,ce,ms,.isl 2 es,wa,ca,se],I i] ⟨.agg [I i,I x,I y,I u,I v],[]⟩:=by
 have hi:i<es.length:=(List.getElem?_eq_some_iff.1 h1).1
 have hw:Qa Qb ((i:Int)+1)=((i+1:Nat):Int):=Kg _ ⟨by omega,by omega⟩
 have hm:(Qa Qb ((i:Int)+1)).tmod (es.length:Int)=(((i+1)%es.length:Nat):Int):=by rw [hw]; rfl
 refine bs.pcall (sx:=nos) Zc Tryz.func230 (by kernel_rfl) (by kernel_rfl) rfl ?_
 refine Sw h1 ?_
 have hp:0<es.length:=by omega
 refine As.np (by omega) ?_
 refine As.p (by rw [hm]; exact Int.natCast_nonneg _) ?_
 refine Sw (x:=[I u,I v]) (by rw [hm]; exact h2) ?_
 refine Qbq (by kernel_rfl) ?_
 refine Sw rfl ?_
 exact Zba rfl rfl
abbrev pt (p:Int × Int):List AV:=[I p.1,I p.2]
def cor (ps:List (Int × Int)) (i:Nat):Int × Int:=ps.getD i (0,0)
def Ya6 (ps:List (Int × Int)) (i:Nat):AV:=.agg [I i,I (cor ps i).1,I (cor ps i).2,I (cor ps ((i+1)%ps.length)).1,I (cor ps ((i+1)%ps.length)).2]
def Zfl (ps:List (Int × Int)):List (List AV):=(Si ps.length).map fun i=>[Ya6 ps i]
theorem Zfx {ps:List (Int × Int)} {i:Nat} (h:i<ps.length):(ps.map pt)[i]?=some [I (cor ps i).1,I (cor ps i).2]:=by
 simp [cor,h]
def r145:List AV->Option PRes
 | [.agg [_,_,_,_,_,.isl 2 es,_,_,_],.int .i64 (.ofNat i)]=>match es[i]?,es[(i+1)%es.length]? with
  | some [.int .i64 x,.int .i64 y],some [.int .i64 u,.int .i64 v]=>cond (Ww es.length 1000) (some ⟨.agg [I i,I x,I y,I u,I v],[]⟩) none
  | _,_=>none
 | _=>none
def pcW:PC:=fun f a=>cond (Qp f 230) (r145 a) none
theorem Ydy:PCOK Tryz.prog pcW:=by
 intro f a res h
 unfold pcW at h
 cases hb:Qp f 230 with
 | false=>rw [hb] at h; cases h
 | true =>
  rw [hb] at h
  rw [Qh hb]
  simp only [cond_true] at h
  unfold r145 at h
  split at h
  ·split at h
   ·rename_i h1 h2
    obtain ⟨h3,h4⟩:=Zf h;cases h4;exact c145 (by simpa [Sm] using h3) h1 h2
   ·cases h
  ·cases h
theorem Yi8 {nm ht fl ce ms wa ca se:AV} {ps:List (Int × Int)} (hp:Yk [nm,ht,fl,ce,ms,wa,ca,se]=true) (hn:ps.length<1000) :
  ItOK Tryz.prog 255 [.agg [nm,ht,fl,ce,ms,.isl 2 (ps.map pt),wa,ca,se]] [] (Zfl ps):=by
 refine bs.iter Ydy Tryz.func255 (by kernel_rfl) rfl (by kernel_rfl) fun B Ig l JX hI=>?_
 refine Zys (S:=Nat) (fun k=>ps.length-k) (fun k=>[(1,.yld l),(2,.ptr 0 0 0),(8,I ps.length),(9,I k)]) (fun _=>⟨[(0,.row 9 [[nm,ht,fl,ce,ms,.isl 2 (ps.map pt),wa,ca,se]] true false)],1⟩) (fun k=>some ((Zfl ps).drop k)) [1,2,8,9] [0] (fun k=>k<=ps.length) ?_ 0 (Qn _) ?_ rfl rfl
 ·intro k hk
  refine bs.awpi Ydy hI ?_
  refine Br.dec (fun hlt=>?_) (fun hge=>?_)
  ·have hlt:k<ps.length:=by omega
   have hx:(Zfl ps).drop k=[Ya6 ps k]::(Zfl ps).drop (k+1):=by
    rw [Qi (by simp [Zfl,hlt])]; simp [Zfl]
   rw [hx]
   have hpu:Yk [.agg [nm,ht,fl,ce,ms,.isl 2 (ps.map pt),wa,ca,se],I k]=true:=by
    simp only [Yk,Yb,Qc,Bool.and_true] at hp ⊢; simp [hp]
   have hr:r145 [.agg [nm,ht,fl,ce,ms,.isl 2 (ps.map pt),wa,ca,se],I k]=some ⟨Ya6 ps k,[]⟩:=by
    have e1:=Zfx hlt;have e2:=Zfx (ps:=ps) (i:=(k+1)%ps.length) (Pn _ (by omega));have hl:(ps.map pt).length=ps.length:=by simp
    show (match (ps.map pt)[k]?,(ps.map pt)[(k+1)%(ps.map pt).length]? with
     | some [.int .i64 x,.int .i64 y],some [.int .i64 u,.int .i64 v]=>cond (Ww (ps.map pt).length 1000) (some (PRes.mk (.agg [I k,I x,I y,I u,I v]) [])) none
     | _,_=>none)=_
    rw [hl,e1,e2];have:Ww ps.length 1000=true:=by simpa [Sm] using hn
    simp only [this]; rfl
   refine Sw (Zvk _ hpu) ?_;refine Sw hr ?_;refine ⟨rfl,rfl,rfl,rfl,?_,?_⟩
   ·refine ⟨k+1,by omega,by omega,?_,rfl,rfl⟩
    have hw:Qa Qb ((k:Int)+1)=((k+1:Nat):Int):=Kg _ ⟨by omega,by omega⟩;exact congrArg (fun x=>[(1,AV.yld l),(2,.ptr 0 0 0),(8,I ps.length),(9,I x)]) hw
   ·refine ⟨.inr rfl,.inr rfl,?_⟩
    exact ⟨[],rfl⟩
  ·have:k=ps.length:=by omega
   subst this;refine ⟨.inl rfl,.inl ?_,[],rfl⟩;simp [Zfl]
 ·exact congrArg (fun x:Nat=>[(1,AV.yld l),(2,.ptr 0 0 0),(8,I x),(9,I 0)]) (by simp)
def hd1 (e:List AV):AV:=e.headD .any
theorem Zng {P:Program} {F:Fence} {n:Nat} {ops:Array Oper} {Q:Exit->Act->World->Prop} {o:Oper} {rest:List Oper} {a:Act} {w:World} (hg:o.guard=none) (h:o.wpIn F n P a w (wpListIn F n P ops Q rest) Q):wpListIn F n P ops Q (o::rest) a w:=by
 unfold wpListIn
 rw [if_pos (by simp [Region.wanted,hg])]
 exact h
theorem c202 {x y:Nat} (h:FloatKind.f64.format.sqrt x=some y):PCall Tryz.prog 246 [.flt .f64 x] ⟨.flt .f64 y,[]⟩:=by
 refine Zen (FnOK.of Tryz.func246 (by kernel_rfl) (by kernel_rfl)) rfl (Zu6 bs.hT Tryz.func246 (c:=_) rfl (Nat.le_of_ble_eq_true (by kernel_rfl)) ?_)
 refine Zs9 (bs.awp (sx:=nos) Zc ?_)
 refine Zs9 ?_
 intro F B w0 I0 pr r I D a w hF hR S
 refine wpIn_region_list ?_
 refine Zng rfl ?_
 refine Zch (Zm7 (sx:=nos) bs.hT bs.hok Zc) hF _ (fun c e=>by cases e) S (K:=fun env σ=>env=[(3,.flt .f64 x),(2,.flt .f64 0),(0,.flt .f64 x)]/\σ=⟨[],0⟩) ⟨rfl,rfl⟩ (fun a1 w1 hl=>?_)
 obtain ⟨env1,σ1,r1,I1,D1,⟨rfl,rfl⟩,S1,hd1,st1⟩:=hl
 refine Zng rfl ?_
 refine Yij hF _ S1 (K:=fun env σ=>env=[(4,.flt .f64 y),(3,.flt .f64 x),(2,.flt .f64 0),(0,.flt .f64 x)]/\σ=⟨[],0⟩) rfl rfl Tryz.func277 (by kernel_rfl) (by kernel_rfl) (by kernel_rfl) (e:=Fq) (by kernel_rfl) (v:=.flt .f64 y) (fun vs hv=>?_) ⟨rfl,rfl⟩ (fun a2 w2 hl=>?_)
 ·have e0:vs.size=1:=hv.1
  have hx:=hv.2 0 (.flt .f64 x) vs[0] rfl (by simp [e0])
  have e1:vs = #[.float .f64 x]:=by
   apply Array.ext
   ·simpa using e0
   ·intro i h1 h2
    have:i=0:=by simp at h2; omega
    subst this;generalize vs[0]=z at hx;cases hx; rfl
  subst e1
  have e2:Fq #[.float .f64 x]=(match FloatKind.f64.format.sqrt x with
   | some r=>pure (.float .f64 r)
   | none=>do pure (.float .f64 (<-choose (.nanBits .f64 x x)))):=rfl
  exact ⟨.float .f64 y,by rw [e2,h]; rfl,.flt _ _ _⟩
 obtain ⟨env2,σ2,r2,I2,D2,⟨rfl,rfl⟩,S2,hd2,st2⟩:=hl
 refine Zng rfl ?_
 refine Zch (Zm7 (sx:=nos) bs.hT bs.hok Zc) hF _ (fun c e=>by cases e) S2 (K:=fun env σ=>env=[(2,.flt .f64 y),(4,.flt .f64 y),(3,.flt .f64 x),(2,.flt .f64 0),(0,.flt .f64 x)]/\σ=⟨[],0⟩) ⟨rfl,rfl⟩ (fun a3 w3 hl=>?_)
 obtain ⟨env3,σ3,r3,I3,D3,⟨rfl,rfl⟩,S3,hd3,st3⟩:=hl
 have st:=(st1.trans st2).trans st3
 refine ⟨pr,[],_,_,r3,I3,D3,fun _ _ h=>h,fun d hd=>by simp at hd,.nil,by rw [hd3,hd2,hd1]; rfl,?_,S3,st,st.size⟩
 refine Yao ?_
 exact Sw rfl (Zba rfl rfl)
def Zkm:List (List AV)->Option (List (Int × Int))
 | []=>some []
 | [.int .i64 x,.int .i64 y]::l=>match Zkm l with
  | some ps=>some ((x,y)::ps)
  | none=>none
 | _=>none
theorem Zvx:∀ {es:List (List AV)} {ps:List (Int × Int)},Zkm es=some ps->es=ps.map pt:=by
 intro es
 induction es with
 | nil=>intro ps h; simp only [Zkm,Qf] at h; subst h; rfl
 | cons e l ih =>
  intro ps h
  unfold Zkm at h
  split at h
  ·rename_i h0; cases h0
  ·rename_i x y l' h0
   cases h0;split at h
   ·rename_i qs hq
    cases h;rw [ih hq]; rfl
   ·cases h
  ·cases h
def Yds (c0 c1:List AV):Option (List (List AV)):=match c0,c1 with
 | [.agg [nm,ht,fl,ce,ms,.isl 2 es,wa,ca,se]],[]=>match Zkm es with
  | some ps=>cond (Yk [nm,ht,fl,ce,ms,wa,ca,se]&&Ww ps.length 1000) (some (Zfl ps)) none
  | none=>none
 | _,_=>none
def itT:ITab:=fun g c0 c1=>cond (Qp g 255) (Yds c0 c1) none
theorem Yi7:∀ g c0 c1 xs,itT g c0 c1=some xs->ItOK Tryz.prog g c0 c1 xs:=by
 intro g c0 c1 xs h
 unfold itT at h
 obtain ⟨h1,h⟩:=Zf h
 rw [Qh h1]
 unfold Yds at h
 split at h
 ·split at h
  ·rename_i ps hps
   obtain ⟨h2,h⟩:=Zf h;cases h;simp only [Qc,Sm] at h2;rw [Zvx hps];exact Yi8 h2.1 h2.2
  ·cases h
 ·cases h
def Ybj:PC:=fun f a=>cond (Qp f 246) (match a with
 | [.flt .f64 x]=>match FloatKind.f64.format.sqrt x with
  | some y=>some ⟨.flt .f64 y,[]⟩
  | none=>none
 | _=>none) none
theorem Ztl:PCOK Tryz.prog Ybj:=by
 intro f a res h
 unfold Ybj at h
 obtain ⟨h1,h⟩:=Zf h
 rw [Qh h1]
 split at h
 ·split at h
  ·rename_i hs; cases h; exact c202 hs
  ·cases h
 ·cases h
noncomputable def exT (xs:List Nat) (pt:PC):CF:=exG Tryz.prog (tget tbl) (memN eqs) itT (memN xs) pt 1000 40
theorem Yjq {xs:List Nat} {pt:PC} (hpt:PCOK Tryz.prog pt):CFOK Tryz.prog (exT xs pt):=Zqp Yfa eqOK Yi7 mixed hpt 40
def isR (v0:AV):Option PRes->Bool
 | some ⟨v,[]⟩=>eqA v v0
 | _=>false
theorem Yi9 {v0:AV} {o:Option PRes} (h:isR v0 o=true):o=some ⟨v0,[]⟩:=by
 unfold isR at h
 split at h
 ·rw [Yep _ _ h]
 ·cases h
theorem Ztx {xs:List Nat} {pt:PC} (hpt:PCOK Tryz.prog pt) {f:FuncId} {a:List AV} {v:AV} (h:isR v (pcF (exT xs pt) f a)=true):PCall Tryz.prog f a ⟨v,[]⟩:=Yb6 (Yjq hpt) (Yi9 h)
def Ye2 (f0:FuncId) (a0:List AV) (v0:AV) (pt:PC):PC:=fun f a=>cond (Qp f f0&&eqL a a0) (some ⟨v0,[]⟩) (pt f a)
theorem Ya4 {f0:FuncId} {a0:List AV} {v0:AV} {pt:PC} (h0:PCall Tryz.prog f0 a0 ⟨v0,[]⟩) (h:PCOK Tryz.prog pt):PCOK Tryz.prog (Ye2 f0 a0 v0 pt):=by
 intro f a res hr
 unfold Ye2 at hr
 cases hb:(Qp f f0&&eqL a a0) with
 | true =>
  rw [hb] at hr
  cases hr
  simp only [Qc] at hb
  rw [Qh hb.1,Zi9 _ _ hb.2]
  exact h0
 | false=>rw [hb] at hr; exact h f a res hr
abbrev S (l:List UInt8):AV:=.str ⟨⟨l⟩⟩
def boxA:AV:=.agg [S [104],I 600,S [119],S [119],.isl 6 [[S [119],I 100,I 100,I 100,I 100,I 0]],.isl 2 [[I 0,I 0],[I 1000,I 0],[I 1000,I 2000],[I 0,I 2000]],
 .isl 3 [[S [97],S [119],S []],[S [98],S [119],S []],[S [99],S [119],S []],[S [100],S [119],S []]],.nils,.nils]
def fine:AV:=.tup [.agg [I 0,I 0],I 0]
theorem Yk0:isR fine (pcF (exT [246] Ybj) 143 [boxA])=true:=by kernel_rfl
theorem Yj5:PCall Tryz.prog 143 [boxA] ⟨fine,[]⟩:=Ztx Ztl Yk0
def boxT:PC:=Ye2 143 [boxA] fine Ybj
theorem Yhi:PCOK Tryz.prog boxT:=Ya4 Yj5 Ztl
theorem aw16:isR (.bool true) (pcF (exT [246,143] boxT) 6 [])=true:=by kernel_rfl
theorem Ydm:PCall Tryz.prog 6 [] ⟨.bool true,[]⟩:=Ztx Yhi aw16
theorem own:ownKnob Tryz.prog.godebug=none:=by kernel_rfl
theorem Yge:laidOutB Tryz.prog=true:=by kernel_rfl
theorem Ykn:laidOutB Tryz.checked.prog=true:=by kernel_rfl
theorem Ykl:mapsRowed Tryz.checked.prog=true:=by kernel_rfl
theorem Yjl:Tryz.checked.prog.plainKeys=Rows.energyBothWaysRow.plainKeys:=by kernel_rfl
theorem Yjo:Tryz.checked.prog.stopsHeard=true:=by kernel_rfl
theorem fMay:Tryz.checked.prog.mayEnter=true:=by kernel_rfl
theorem Yjm:Tryz.checked.prog.liftsFinal=Rows.energyBothWaysRow.lifted:=by kernel_rfl
theorem Ykm:Tryz.checked.prog.make=some Rows.energyBothWaysRow.make:=by kernel_rfl
theorem pn {pc:PC} (hpc:PCOK Tryz.prog pc) {f:FuncId} {fn:Func} (hf:Tryz.prog.funcs[f]?=some fn) {args:List AV} {res:PRes} (hv:Zci (cxV Tryz.prog bs.T bs.ok nos pc) (hdV Tryz.prog bs.T bs.ok nos pc) fn args ⟨[],0⟩ (fun v σ=>fA v fun v=>Ret res v σ)) (h1:(fn.name == "runtime.NumGoroutine")=false:=by kernel_rfl) (h2:fn.body.isNone=false:=by kernel_rfl) (hids:Vj res.blks.length res.v=true:=by rfl):PCall Tryz.prog f args res:=bs.pv (sx:=nos) hpc hf h1 h2 hids hv
def ins (f0:FuncId) (r:List AV->Option PRes) (pt:PC):PC:=fun f a=>cond (Qp f f0) (r a) (pt f a)
theorem Zh {f0:FuncId} {r:List AV->Option PRes} {pt:PC} (h0:∀ a res,r a=some res->PCall Tryz.prog f0 a res) (h:PCOK Tryz.prog pt):PCOK Tryz.prog (ins f0 r pt):=by
 intro f a res hr
 unfold ins at hr
 cases hb:Qp f f0 with
 | true=>rw [hb] at hr; rw [Qh hb]; exact h0 a res hr
 | false=>rw [hb] at hr; exact h f a res hr
abbrev Bo (b:Bool):AV:=.bool b
abbrev P2 (x y:Int):AV:=.agg [I x,I y]
abbrev P3 (x y z:Int):AV:=.agg [I x,I y,I z]
abbrev P4 (x y z d:Int):AV:=.agg [I x,I y,I z,I d]
def within (n lo hi:Int):Bool:=decide (lo<=n)&&decide (n<=hi)
theorem c78 (n lo hi:Int):PCall Tryz.prog 144 [I n,I lo,I hi] ⟨Bo (within n lo hi),[]⟩:=by
 refine bs.pcall (sx:=nos) Zc Tryz.func144 (by kernel_rfl) (by kernel_rfl) rfl ?_
 refine Ty (fun h=>?_) (fun h=>?_)
 ·exact Xb (by simp [within,h])
 ·exact Xb (by simp [within,h])
theorem c30 (n lo hi:Int):PCall Tryz.prog 16 [I n,I lo,I hi] ⟨Bo (within n lo hi),[]⟩:=by
 refine bs.pcall (sx:=nos) Zc Tryz.func16 (by kernel_rfl) (by kernel_rfl) rfl ?_
 refine Ty (fun h=>?_) (fun h=>?_)
 ·exact Xb (by simp [within,h])
 ·exact Xb (by simp [within,h])
def r78:List AV->Option PRes
 | [.int .i64 n,.int .i64 lo,.int .i64 hi]=>some ⟨Bo (within n lo hi),[]⟩
 | _=>none
def k78:PC:=ins 16 r78 (ins 144 r78 pt0)
theorem Zuf:PCOK Tryz.prog k78:=Zh (fun a res h=>by unfold r78 at h; split at h<;>cases h; exact c30 _ _ _) (Zh (fun a res h=>by unfold r78 at h; split at h<;>cases h; exact c78 _ _ _) Zc)
def small (n most:Int):Bool:=within n (Qa Qb (0-most)) most
theorem c92 (n m:Int):PCall Tryz.prog 256 [I n,I m] ⟨Bo (small n m),[]⟩:=by
 refine bs.pcall (sx:=nos) Zuf Tryz.func256 (by kernel_rfl) (by kernel_rfl) rfl ?_
 exact Sw rfl (Xb rfl)
def r92:List AV->Option PRes
 | [.int .i64 n,.int .i64 m]=>some ⟨Bo (small n m),[]⟩
 | _=>none
def k92:PC:=ins 256 r92 k78
theorem Yec:PCOK Tryz.prog k92:=Zh (fun a res h=>by unfold r92 at h; split at h<;>cases h; exact c92 _ _) Zuf
def Vf (x y z:Int):Bool:=small x 45000&&small y 45000&&small z 45000
theorem c93 (x y z:Int):PCall Tryz.prog 166 [P3 x y z] ⟨Bo (Vf x y z),[]⟩:=by
 refine bs.pcall (sx:=nos) Yec Tryz.func166 (by kernel_rfl) (by kernel_rfl) rfl ?_
 refine Ty (fun h=>?_) (fun h=>?_)
 ·refine Ty (fun h2=>?_) (fun h2=>?_)
  ·exact Xb (by simp_all [Vf])
  ·exact Xb (by simp_all [Vf])
 ·exact Xb (by simp_all [Vf])
def r93:List AV->Option PRes
 | [.agg [.int .i64 x,.int .i64 y,.int .i64 z]]=>some ⟨Bo (Vf x y z),[]⟩
 | _=>none
def k93:PC:=ins 166 r93 k92
theorem Za1:PCOK Tryz.prog k93:=Zh (fun a res h=>by unfold r93 at h; split at h<;>cases h; exact c93 _ _ _) Yec
def mir (k a x y z:Int):Int × Int × Int :=
 if k=0 then (Qa Qb (Qa Qb (2*a)-x),y,z) else if k=1 then (x,Qa Qb (Qa Qb (2*a)-y),z) else if k=2 then (x,y,Qa Qb (Qa Qb (2*a)-z)) else if k=3 then (Qa Qb (a-y),Qa Qb (a-x),z) else if k=4 then (Qa Qb (y+a),Qa Qb (x-a),z) else (x,y,z)
def Ud (k a x y z:Int):Int :=
 if within k 0 4=false then 15 else if small a 10000=false\/Vf x y z=false then 2 else if Vf (mir k a x y z).1 (mir k a x y z).2.1 (mir k a x y z).2.2=false then 8 else 0
def mirP (k a x y z:Int):Int × Int × Int:=if Ud k a x y z=0 then mir k a x y z else (0,0,0)
abbrev mirV (k a x y z:Int):AV:=.tup [P3 (mirP k a x y z).1 (mirP k a x y z).2.1 (mirP k a x y z).2.2,I (Ud k a x y z)]
theorem Zy {x y z e x' y' z' e' : Int} {σ:St} (h:(x,y,z)=(x',y',z')/\e=e'):Zdv ⟨.tup [P3 x' y' z',I e'],[]⟩ (.tup [P3 x y z,I e]) σ:=by
 obtain ⟨h1,h2⟩:=h
 simp only [Prod.mk.injEq] at h1
 obtain ⟨rfl,rfl,rfl⟩:=h1
 subst h2
 exact Zba rfl rfl
theorem c32 (k a x y z:Int):PCall Tryz.prog 162 [P2 k a,P3 x y z] ⟨mirV k a x y z,[]⟩:=by
 refine bs.pcall (sx:=nos) Za1 Tryz.func162 (by kernel_rfl) (by kernel_rfl) rfl ?_
 refine Ty (fun h1=>?_) (fun h1=>?_)
 ·exact Sw rfl (Zy (by simp_all [mirP,Ud,mir]))
 ·refine Ty (fun h2=>?_) (fun h2=>?_)
  ·exact Sw rfl (Zy (by simp_all [mirP,Ud,mir]))
  ·refine Ty (fun h3=>?_) (fun h3=>?_)
   ·exact Sw rfl (Zy (by simp_all [mirP,Ud,mir]))
   ·refine Ty (fun h4=>?_) (fun h4=>?_)
    ·refine Ty (fun h5=>?_) (fun h5=>?_)
     ·exact Sw rfl (Zy (by simp_all [mirP,Ud,mir]))
     ·exact Sw rfl (Zy (by simp_all [mirP,Ud,mir]))
    ·refine Ty (fun h6=>?_) (fun h6=>?_)
     ·refine Ty (fun h7=>?_) (fun h7=>?_)
      ·exact Sw rfl (Zy (by simp_all [mirP,Ud,mir]))
      ·exact Sw rfl (Zy (by simp_all [mirP,Ud,mir]))
     ·refine Ty (fun h8=>?_) (fun h8=>?_)
      ·refine Ty (fun h9=>?_) (fun h9=>?_)
       ·exact Sw rfl (Zy (by simp_all [mirP,Ud,mir]))
       ·exact Sw rfl (Zy (by simp_all [mirP,Ud,mir]))
      ·refine Ty (fun h10=>?_) (fun h10=>?_)
       ·refine Qbq (by kernel_rfl) ?_
        refine Ty (fun h11=>?_) (fun h11=>?_)
        ·exact Sw rfl (Zy (by simp_all [mirP,Ud,mir]))
        ·exact Sw rfl (Zy (by simp_all [mirP,Ud,mir]))
       ·refine Ty (fun h12=>?_) (fun h12=>?_)
        ·refine Qbq (by kernel_rfl) ?_
         refine Ty (fun h13=>?_) (fun h13=>?_)
         ·exact Sw rfl (Zy (by simp_all [mirP,Ud,mir]))
         ·exact Sw rfl (Zy (by simp_all [mirP,Ud,mir]))
        ·refine Ty (fun h14=>?_) (fun h14=>?_)
         ·exact Sw rfl (Zy (by simp_all [mirP,Ud,mir]))
         ·exact Sw rfl (Zy (by simp_all [mirP,Ud,mir]))
def Ze4 (k a:Int):Int:=if within k 0 4=false then 15 else if within a (-10000) 10000=false then 2 else 0
def img (n:Int):Bool:=within n (-45000) 45000
def Um (x y z:Int):Int:=if img x&&img y&&img z then 0 else 2
def rmir (k a x y z:Int):Int × Int × Int :=
 if k=0 then (Qa Qb (Qa Qb (2*a)-x),y,z) else if k=1 then (x,Qa Qb (Qa Qb (2*a)-y),z) else if k=2 then (x,y,Qa Qb (Qa Qb (2*a)-z)) else if k=3 then (Qa Qb (a-y),Qa Qb (a-x),z) else (Qa Qb (y+a),Qa Qb (x-a),z)
theorem c96 (k a x y z:Int):PCall Tryz.prog 204 [P2 k a,P3 x y z] ⟨P3 (rmir k a x y z).1 (rmir k a x y z).2.1 (rmir k a x y z).2.2,[]⟩:=by
 refine pn Za1 Tryz.func204 ?_
 repeat' ((conv=>whnf); (fail_if_success with_reducible refine Qcv ?_); first|with_reducible refine Kq (by kernel_rfl) ?_|refine Ty (fun _=>?_) (fun _=>?_))
 all_goals exact Ze (by simp_all [rmir]) rfl
def r94:List AV->Option PRes
 | [.agg [.int .i64 k,.int .i64 a]]=>some ⟨I (Ze4 k a),[]⟩
 | _=>none
def r96:List AV->Option PRes
 | [.agg [.int .i64 k,.int .i64 a],.agg [.int .i64 x,.int .i64 y,.int .i64 z]]=>some ⟨P3 (rmir k a x y z).1 (rmir k a x y z).2.1 (rmir k a x y z).2.2,[]⟩
 | _=>none
def r32:List AV->Option PRes
 | [.agg [.int .i64 k,.int .i64 a],.agg [.int .i64 x,.int .i64 y,.int .i64 z]]=>some ⟨mirV k a x y z,[]⟩
 | _=>none
def k96:PC:=ins 162 r32 k93
theorem Yeb:PCOK Tryz.prog k96:=by
 refine Zh (fun a res h=>?_) Za1
 unfold r32 at h; split at h<;>cases h; exact c32 _ _ _ _ _
def Zf5 (k a x y z:Int):Int :=
 if Ze4 k a=0 then (if Um x y z=0 then (if Um (rmir k a x y z).1 (rmir k a x y z).2.1 (rmir k a x y z).2.2=0 then 0 else 8) else Um x y z) else Ze4 k a
def Yfh (k a x y z:Int):Int × Int × Int:=if Zf5 k a x y z=0 then rmir k a x y z else (0,0,0)
def offN (k x y z:Int):Int:=if k=0 then x else if k=1 then y else if k=2 then z else if k=3 then Qa Qb (x+y) else Qa Qb (x-y)
def off (k a x y z d:Int):Int:=Qa Qb (offN k x y z-Qa Qb (a*d))
theorem c35 {k:Int} (a x y z d:Int) (h0:0<=k) (h4:k<5):PCall Tryz.prog 206 [P2 k a,P4 x y z d] ⟨I (off k a x y z d),[]⟩:=by
 have:k=0\/k=1\/k=2\/k=3\/k=4:=by omega
 rcases this with rfl|rfl|rfl|rfl|rfl
 all_goals
  refine pn Yeb Tryz.func206 ?_
  repeat' ((conv=>whnf); (fail_if_success with_reducible refine Qcv ?_); first|with_reducible refine Kq (by kernel_rfl) ?_|refine Ty (fun _=>?_) (fun _=>?_))
  all_goals exact Za rfl
theorem c36 (x y z:Int):PCall Tryz.prog 84 [P3 x y z] ⟨P4 x y z 1,[]⟩:=by
 refine pn Yeb Tryz.func84 ?_
 repeat' ((conv=>whnf); (fail_if_success with_reducible refine Qcv ?_); first|with_reducible refine Kq (by kernel_rfl) ?_|refine Ty (fun _=>?_) (fun _=>?_))
 all_goals exact Ze rfl rfl
theorem W_eq {n:Int} (h1 : -9223372036854775808<=n) (h2:n<=9223372036854775807):Qa Qb n=n:=Kg _ ⟨h1,by omega⟩
theorem within_iff {n lo hi:Int}:within n lo hi=true↔lo<=n/\n<=hi:=by simp [within]
theorem Zih (x y z:Int):Vf x y z=(img x&&img y&&img z):=by
 have:Qa Qb (0-45000) = -45000:=by decide
 simp only [Vf,small,img,this]
theorem Zpq (k a x y z:Int):Ud k a x y z=Zf5 k a x y z:=by
 have e1:Qa Qb (0-10000) = -10000:=by decide
 unfold Ud Zf5 Ze4 Um
 rw [Zih,Zih]
 simp only [small,e1]
 by_cases hk:within k 0 4=true
 ·have hm:mir k a x y z=rmir k a x y z:=by
   have:=within_iff.1 hk;have:k=0\/k=1\/k=2\/k=3\/k=4:=by omega
   rcases this with rfl|rfl|rfl|rfl|rfl<;>rfl
  rw [hm]
  cases h1:within a (-10000) 10000<;>cases h2:(img x&&img y&&img z)<;>cases h3:(img (rmir k a x y z).1&&img (rmir k a x y z).2.1&&img (rmir k a x y z).2.2)<;>simp_all
 ·simp at hk; simp [hk]
theorem Yf2 (k a x y z:Int):mirP k a x y z=Yfh k a x y z:=by
 unfold mirP Yfh
 rw [Zpq]
 by_cases h:Zf5 k a x y z=0
 ·rw [if_pos h,if_pos h]
  have hk:within k 0 4=true:=by
   cases hk:within k 0 4 with
   | true=>rfl
   | false=>simp [Zf5,Ze4,hk] at h
  have:=within_iff.1 hk
  have:k=0\/k=1\/k=2\/k=3\/k=4:=by omega
  rcases this with rfl|rfl|rfl|rfl|rfl<;>rfl
 ·rw [if_neg h,if_neg h]
theorem Zvt {k a x y z:Int} (hk:0<=k/\k<=4) (ha : -10000<=a/\a<=10000) (hx : -45000<=x/\x<=45000) (hy : -45000<=y/\y<=45000) (hz : -45000<=z/\z<=45000) {u v w:Int} (e:rmir k a x y z=(u,v,w)) (hu : -45000<=u/\u<=45000) (hv : -45000<=v/\v<=45000) (hw : -45000<=w/\w<=45000):Zf5 k a x y z=0:=by
 have i1:∀ {n:Int},-45000<=n/\n<=45000->img n=true:=fun h=>within_iff.2 h
 simp [Zf5,Ze4,Um,within_iff.2 hk,within_iff.2 ha,i1 hx,i1 hy,i1 hz,e,i1 hu,i1 hv,i1 hw]
def nl (ns:List Int):List (List AV):=ns.map fun n=>[I n]
theorem Zk (ns:List Int):(nl ns).length=ns.length:=by simp [nl]
theorem Xx {ns:List Int} {k:Nat} (h:k<ns.length):(nl ns)[((k:Nat):Int).toNat]?=some [I ns[k]]:=by simp [nl,h]
theorem Zg {k:Nat} (h:k<9000000000):Qa Qb ((k:Int)+1)=((k+1:Nat):Int):=W_eq (by omega) (by omega)
def hasN (ns:List Int) (n:Int):Bool:=ns.any fun m=>decide (m=n)
theorem Zp9 (m:Int) (ns:List Int) (n:Int):hasN (m::ns) n=(decide (m=n)||hasN ns n):=rfl
theorem c26 {ns:List Int} (hl:ns.length<1000000) (n:Int):PCall Tryz.prog 142 [.isl 1 (nl ns),I n] ⟨Bo (hasN ns n),[]⟩:=by
 refine pn Zc Tryz.func142 ?_
 conv=>whnf
 refine Zr (S:=Nat × Int) (fun s=>ns.length-s.1) (fun s=>[(0,.isl 1 (nl ns)),(1,I n),(5,I s.2)]) (fun _=>[]) 0 0 (fun s=>s.2=s.1/\s.1<=ns.length/\hasN (ns.drop s.1) n=hasN ns n) (0,0) ?_ (Qd _) [] rfl ?_ ?_ ?_
 ·exact ⟨rfl,Qn _,rfl⟩
 ·repeat' (first|exact trivial|refine Kq ?_ ?_|exact rfl)
 ·repeat' (first|exact trivial|refine Kq ?_ ?_|exact rfl)
 ·rintro ⟨k,i⟩ ⟨hi,hk,hh⟩
  dsimp only at hi hk hh ⊢
  subst hi
  refine bs.av (sx:=nos) Zc ?_
  have e3:=Zk ns
  by_cases hlt:k<ns.length
  ·have e1:=Xx hlt
   rw [Qi hlt,Zp9] at hh
   repeat' ((conv=>whnf); (fail_if_success with_reducible refine Qcv ?_); (fail_if_success with_reducible refine Ql ?_); first|with_reducible refine Kq (by kernel_rfl) ?_|refine Br.yes (decide_eq_true (by omega)) ?_|refine Br.no (decide_eq_false (by omega)) ?_|refine Ty (fun hb=>?_) (fun hb=>?_)|refine Sw (by assumption) ?_)
   ·refine Zb ?_
    rw [hb] at hh; exact hh
   ·exact Ql ⟨(k+1,_),[],rfl,kps,trivial,⟨Zg (by omega),hlt,by rw [hb] at hh; exact hh⟩,by dsimp only; omega⟩
  ·repeat' ((conv=>whnf); (fail_if_success with_reducible refine Qcv ?_); (fail_if_success with_reducible refine Ql ?_); first|with_reducible refine Kq (by kernel_rfl) ?_|refine Br.yes (decide_eq_true (by omega)) ?_|refine Br.no (decide_eq_false (by omega)) ?_|refine Ty (fun hb=>?_) (fun hb=>?_)|refine Sw (by assumption) ?_)
   refine Zb ?_;rw [<-hh,Qk (by omega)]; rfl
def size (n:Int):Int:=imax n (Qa Qb (0-n))
theorem c116 (n:Int):PCall Tryz.prog 172 [I n] ⟨I (size n),[]⟩:=by
 refine pn Zc Tryz.func172 ?_
 repeat'(first|refine wk0 ?_|(refine wk2 ?_ ?_<;>intro _)|fail)
 all_goals exact Za rfl
structure Wl where
 n:Int
 fx:Int
 fy:Int
 tx:Int
 ty:Int
abbrev Wl.av (w:Wl):AV:=.agg [I w.n,I w.fx,I w.fy,I w.tx,I w.ty]
def Wl.dx (w:Wl):Int:=Qa Qb (w.tx-w.fx)
def Wl.dy (w:Wl):Int:=Qa Qb (w.ty-w.fy)
theorem c174 (w:Wl):PCall Tryz.prog 253 [w.av] ⟨.tup [I w.dx,I w.dy],[]⟩:=by
 refine pn Zc Tryz.func253 ?_
 repeat'(first|refine wk0 ?_|(refine wk2 ?_ ?_<;>intro _)|fail)
 all_goals exact Ze rfl rfl
def r115:List AV->Option PRes
 | [.int .i64 n]=>some ⟨I (sgn n),[]⟩
 | _=>none
def r116:List AV->Option PRes
 | [.int .i64 n]=>some ⟨I (size n),[]⟩
 | _=>none
def r174:List AV->Option PRes
 | [.agg [.int .i64 n,.int .i64 fx,.int .i64 fy,.int .i64 tx,.int .i64 ty]]=>some ⟨.tup [I (Wl.dx ⟨n,fx,fy,tx,ty⟩),I (Wl.dy ⟨n,fx,fy,tx,ty⟩)],[]⟩
 | _=>none
def kG1:PC:=ins 171 r115 (ins 172 r116 (ins 253 r174 k93))
theorem Zmx:PCOK Tryz.prog kG1:=by
 refine Zh (fun a res h=>?_) (Zh (fun a res h=>?_) (Zh (fun a res h=>?_) Za1))
 ·unfold r115 at h; split at h<;>cases h; exact c115 _
 ·unfold r116 at h; split at h<;>cases h; exact c116 _
 ·unfold r174 at h; split at h<;>cases h; exact c174 ⟨_,_,_,_,_⟩
def Wl.straight (w:Wl):Bool:=decide (w.dx=0)||decide (w.dy=0)||decide (size w.dx=size w.dy)
theorem c146 (w:Wl):PCall Tryz.prog 231 [w.av] ⟨Bo w.straight,[]⟩:=by
 refine pn Zmx Tryz.func231 ?_
 repeat'(first|refine wk0 ?_|(refine wk2 ?_ ?_<;>intro _)|fail)
 all_goals exact Zb (by simp_all [Wl.straight]<;>omega)
def Wl.side (w:Wl) (x y d:Int):Int:=sgn (Qa Qb (Qa Qb (w.dx*Qa Qb (y-Qa Qb (w.fy*d)))-Qa Qb (w.dy*Qa Qb (x-Qa Qb (w.fx*d)))))
theorem c206 (w:Wl) (x y d:Int):PCall Tryz.prog 288 [w.av,I x,I y,I d] ⟨I (w.side x y d),[]⟩:=by
 refine pn Zmx Tryz.func288 ?_
 repeat'(first|refine wk0 ?_|(refine wk2 ?_ ?_<;>intro _)|fail)
 all_goals exact Za rfl
def r146:List AV->Option PRes
 | [.agg [.int .i64 n,.int .i64 fx,.int .i64 fy,.int .i64 tx,.int .i64 ty]]=>some ⟨Bo (Wl.straight ⟨n,fx,fy,tx,ty⟩),[]⟩
 | _=>none
def r206:List AV->Option PRes
 | [.agg [.int .i64 n,.int .i64 fx,.int .i64 fy,.int .i64 tx,.int .i64 ty],.int .i64 x,.int .i64 y,.int .i64 d]=>some ⟨I (Wl.side ⟨n,fx,fy,tx,ty⟩ x y d),[]⟩
 | _=>none
def kG2:PC:=ins 231 r146 (ins 288 r206 kG1)
theorem Yd7:PCOK Tryz.prog kG2:=by
 refine Zh (fun a res h=>?_) (Zh (fun a res h=>?_) Zmx)
 ·unfold r146 at h; split at h<;>cases h; exact c146 ⟨_,_,_,_,_⟩
 ·unfold r206 at h; split at h<;>cases h; exact c206 ⟨_,_,_,_,_⟩ _ _ _
def Wl.has (w:Wl) (x y d:Int):Bool:=decide (w.side x y d=0)&&within x (Qa Qb (imin w.fx w.tx*d)) (Qa Qb (imax w.fx w.tx*d))&&within y (Qa Qb (imin w.fy w.ty*d)) (Qa Qb (imax w.fy w.ty*d))
theorem c205 (w:Wl) (x y d:Int):PCall Tryz.prog 287 [w.av,I x,I y,I d] ⟨Bo (w.has x y d),[]⟩:=by
 refine pn Yd7 Tryz.func287 ?_
 repeat'(first|refine wk0 ?_|(refine wk2 ?_ ?_<;>intro _)|fail)
 all_goals exact Zb (by simp_all [Wl.has]<;>omega)
def r205:List AV->Option PRes
 | [.agg [.int .i64 n,.int .i64 fx,.int .i64 fy,.int .i64 tx,.int .i64 ty],.int .i64 x,.int .i64 y,.int .i64 d]=>some ⟨Bo (Wl.has ⟨n,fx,fy,tx,ty⟩ x y d),[]⟩
 | _=>none
def kG3:PC:=ins 287 r205 kG2
theorem Vp:PCOK Tryz.prog kG3:=by
 refine Zh (fun a res h=>?_) Yd7
 unfold r205 at h; split at h<;>cases h; exact c205 ⟨_,_,_,_,_⟩ _ _ _
def Wl.touches (w o:Wl):Bool :=
 (decide (Qa Qb (w.side o.fx o.fy 1*w.side o.tx o.ty 1)<0)&&decide (Qa Qb (o.side w.fx w.fy 1*o.side w.tx w.ty 1)<0))||(w.has o.fx o.fy 1||w.has o.tx o.ty 1||o.has w.fx w.fy 1||o.has w.tx w.ty 1)
theorem c196 (w o:Wl):PCall Tryz.prog 275 [w.av,o.av] ⟨Bo (w.touches o),[]⟩:=by
 obtain ⟨n,a,b,c,d⟩:=w
 obtain ⟨m,e,f,g,i⟩:=o
 refine pn Vp Tryz.func275 ?_
 repeat'(first|refine wk0 ?_|(refine wk2 ?_ ?_<;>intro _)|fail)
 all_goals exact Zb (by simp_all [Wl.touches]<;>omega)
def Wl.turnsBack (w o:Wl):Bool:=decide (Qa Qb (w.dx*o.dy)=Qa Qb (w.dy*o.dx))&&decide (Qa Qb (Qa Qb (w.dx*o.dx)+Qa Qb (w.dy*o.dy))<0)
theorem c195 (w o:Wl):PCall Tryz.prog 274 [w.av,o.av] ⟨Bo (w.turnsBack o),[]⟩:=by
 refine pn Vp Tryz.func274 ?_
 repeat'(first|refine wk0 ?_|(refine wk2 ?_ ?_<;>intro _)|fail)
 all_goals exact Zb (by simp_all [Wl.turnsBack]<;>omega)
structure Rc where
 xl:Int
 xh:Int
 yl:Int
 yh:Int
abbrev Rc.av (q:Rc):AV:=.agg [I q.xl,I q.xh,I q.yl,I q.yh]
def rcOf (fx fy tx ty:Int):Rc:=⟨imin fx tx,imax fx tx,imin fy ty,imax fy ty⟩
theorem c170 (nm mt hs:AV) (fx fy tx ty:Int):PCall Tryz.prog 251 [.agg [nm,mt,I fx,I fy,I tx,I ty,hs]] ⟨(rcOf fx fy tx ty).av,[]⟩:=by
 refine pn Vp Tryz.func251 ?_
 repeat'(first|refine wk0 ?_|(refine wk2 ?_ ?_<;>intro _)|fail)
 all_goals exact Ze rfl rfl
def Rc.has (q:Rc) (x y d:Int):Bool:=within x (Qa Qb (q.xl*d)) (Qa Qb (q.xh*d))&&within y (Qa Qb (q.yl*d)) (Qa Qb (q.yh*d))
theorem c211 (q:Rc) (x y d:Int):PCall Tryz.prog 294 [q.av,I x,I y,I d] ⟨Bo (q.has x y d),[]⟩:=by
 refine pn Vp Tryz.func294 ?_
 repeat'(first|refine wk0 ?_|(refine wk2 ?_ ?_<;>intro _)|fail)
 all_goals exact Zb (by simp_all [Rc.has]<;>omega)
def Rc.holds (q:Rc) (x y d:Int):Bool:=decide (Qa Qb (q.xl*d)<x)&&decide (x<Qa Qb (q.xh*d))&&decide (Qa Qb (q.yl*d)<y)&&decide (y<Qa Qb (q.yh*d))
theorem c193 (q:Rc) (x y d:Int):PCall Tryz.prog 259 [q.av,I x,I y,I d] ⟨Bo (q.holds x y d),[]⟩:=by
 refine pn Vp Tryz.func259 ?_
 repeat'(first|refine wk0 ?_|(refine wk2 ?_ ?_<;>intro _)|fail)
 all_goals exact Zb (by simp_all [Rc.holds]<;>omega)
def Zim (x y:Int):Bool:=small x 5000&&small y 5000
theorem c142 (x y:Int):PCall Tryz.prog 227 [P2 x y] ⟨Bo (Zim x y),[]⟩:=by
 refine pn Vp Tryz.func227 ?_
 repeat'(first|refine wk0 ?_|(refine wk2 ?_ ?_<;>intro _)|fail)
 all_goals exact Zb (by simp_all [Zim]<;>omega)
theorem c114 (x y z:Int):PCall Tryz.prog 170 [P3 x y z] ⟨P4 x y z 1,[]⟩:=by
 refine pn Vp Tryz.func170 ?_
 repeat'(first|refine wk0 ?_|(refine wk2 ?_ ?_<;>intro _)|fail)
 all_goals exact Ze rfl rfl
def unl (b:Bool) (e:Int):Int:=cond b 0 e
theorem c102 (b:Bool) (e:Int):PCall Tryz.prog 165 [Bo b,I e] ⟨I (unl b e),[]⟩:=by
 refine pn Vp Tryz.func165 ?_
 repeat'(first|refine wk0 ?_|(refine wk2 ?_ ?_<;>intro _)|fail)
 all_goals exact Za (by simp_all [unl])
structure Mat where
 nm:ByteArray
 a:Int
 b:Int
 c:Int
 d:Int
 sc:Int
structure Wal where
 nm:ByteArray
 mt:ByteArray
 cu:ByteArray
structure Can where
 nm:ByteArray
 mt:ByteArray
 fx:Int
 fy:Int
 tx:Int
 ty:Int
 hs:List Int
structure Sea where
 nm:ByteArray
 x:Int
 y:Int
 z:Int
structure Hal where
 nm:ByteArray
 ht:Int
 fl:ByteArray
 ce:ByteArray
 ms:List Mat
 cs:List (Int × Int)
 ws:List Wal
 ks:List Can
 ss:List Sea
abbrev Mat.av (m:Mat):List AV:=[.str m.nm,I m.a,I m.b,I m.c,I m.d,I m.sc]
abbrev Wal.av (w:Wal):List AV:=[.str w.nm,.str w.mt,.str w.cu]
abbrev Can.av (c:Can):List AV:=[.str c.nm,.str c.mt,I c.fx,I c.fy,I c.tx,I c.ty,.isl 1 (nl c.hs)]
abbrev Sea.av (s:Sea):List AV:=[.str s.nm,I s.x,I s.y,I s.z]
abbrev Hal.cells (h:Hal):List AV:=[.str h.nm,I h.ht,.str h.fl,.str h.ce,.isl 6 (h.ms.map Mat.av),.isl 2 (h.cs.map pt),.isl 3 (h.ws.map Wal.av),.isl 7 (h.ks.map Can.av),.isl 4 (h.ss.map Sea.av)]
abbrev Hal.av (h:Hal):AV:=.agg [.str h.nm,I h.ht,.str h.fl,.str h.ce,.isl 6 (h.ms.map Mat.av),.isl 2 (h.cs.map pt),.isl 3 (h.ws.map Wal.av),.isl 7 (h.ks.map Can.av),.isl 4 (h.ss.map Sea.av)]
def wlOf (cs:List (Int × Int)) (i:Nat):Wl:=⟨i,(cor cs i).1,(cor cs i).2,(cor cs ((i+1)%cs.length)).1,(cor cs ((i+1)%cs.length)).2⟩
def wls (cs:List (Int × Int)):List Wl:=(Si cs.length).map (wlOf cs)
theorem Zw3 (cs:List (Int × Int)):Zfl cs=(wls cs).map fun w=>[w.av]:=by simp [Zfl,wls,wlOf,Ya6]
def Hal.few (h:Hal):Prop:=h.ms.length<1000/\h.cs.length<1000/\h.ws.length<1000/\h.ks.length<1000/\h.ss.length<1000/\∀ c∈h.ks,c.hs.length<1000
theorem itW {h:Hal} (hf:h.few):ItOK Tryz.prog 255 [h.av] [] ((wls h.cs).map fun w=>[w.av]):=by
 rw [<-Zw3]; exact Yi8 (by rfl) hf.2.1
def Yaq (n:Int) (w:Wl):Int:=Qa Qb (n+Qa Qb (Qa Qb (w.fx*w.ty)-Qa Qb (w.tx*w.fy)))
def Zea (h:Hal):Int:=(wls h.cs).foldl Yaq 0
theorem c122 {h:Hal} (hf:h.few):PCall Tryz.prog 158 [h.av] ⟨I (Zea h),[]⟩:=by
 refine pn Vp Tryz.func158 ?_
 repeat'(first|refine wk0 ?_|(refine wk2 ?_ ?_<;>intro _)|fail)
 refine Dk (env2:=[(1,.ptr 0 0 0),(3,.ptr 1 0 0),(6,.func 255 [h.av] [])]) (σ2:=⟨[(1,.row 1 [[I 0]] true false),(0,.row 9 [h.cells] true false)],2⟩) (Wt [] rfl (kps) (kps)) ?_
 refine rngV (itW hf) rfl rfl rfl rfl (Zf4 (S:=Int) (fun s=>[(1,.row 1 [[I s]] true false),(0,.row 9 [h.cells] true false)]) 2 2 (fun xs s=>∃ l:List Wl,xs=l.map (fun w=>[w.av])/\l.foldl Yaq s=Zea h) ?_ ?_ _ 0 ⟨_,rfl,rfl⟩)
 ·rintro x xs s ⟨l,h1,h2⟩
  cases l with
  | nil=>simp at h1
  | cons w l =>
   simp only [Ti,Qs] at h1;obtain ⟨rfl,rfl⟩:=h1;refine ⟨rfl,bs.av (sx:=nos) Vp ?_⟩
   repeat'(first|refine wk0 ?_|(refine wk2 ?_ ?_<;>intro _)|fail)
   refine Bd.mk (bs.av (sx:=nos) Vp ?_)
   repeat'(first|refine wk0 ?_|(refine wk2 ?_ ?_<;>intro _)|fail)
   exact Ql ⟨_,[],rfl,kps,l,rfl,h2⟩
 ·rintro s ⟨l,h1,h2⟩
  cases l with
  | cons w l=>simp at h1
  | nil =>
   repeat'(first|refine wk0 ?_|(refine wk2 ?_ ?_<;>intro _)|fail)
   exact Za h2
def Rc.meets (q:Rc) (w:Wl):Bool :=
 if decide (imax w.fx w.tx<q.xl)||decide (q.xh<imin w.fx w.tx)||decide (imax w.fy w.ty<q.yl)||decide (q.yh<imin w.fy w.ty) then false
 else decide (imin (imin (imin (imin 1 (w.side q.xl q.yl 1)) (w.side q.xl q.yh 1)) (w.side q.xh q.yl 1)) (w.side q.xh q.yh 1)<=0)&&decide (0<=imax (imax (imax (imax (-1) (w.side q.xl q.yl 1)) (w.side q.xl q.yh 1)) (w.side q.xh q.yl 1)) (w.side q.xh q.yh 1))
theorem c213 (q:Rc) (w:Wl):PCall Tryz.prog 296 [q.av,w.av] ⟨Bo (q.meets w),[]⟩:=by
 obtain ⟨wn,wa,wb,wc,wd⟩:=w
 refine pn Vp Tryz.func296 ?_
 repeat'(first|refine wk0 ?_|(refine wk2 ?_ ?_<;>intro _)|fail)
 all_goals try exact Zb (by simp_all [Rc.meets])
 refine Su 5 ?_
 refine Qx (bs.av (sx:=nos) Vp ?_)
 repeat'(first|refine wk0 ?_|(refine wk2 ?_ ?_<;>intro _)|fail)
 refine Qx (bs.av (sx:=nos) Vp ?_)
 repeat'(first|refine wk0 ?_|(refine wk2 ?_ ?_<;>intro _)|fail)
 refine Qx (bs.av (sx:=nos) Vp ?_)
 repeat'(first|refine wk0 ?_|(refine wk2 ?_ ?_<;>intro _)|fail)
 refine Qx (bs.av (sx:=nos) Vp ?_)
 repeat'(first|refine wk0 ?_|(refine wk2 ?_ ?_<;>intro _)|fail)
 refine Qx (bs.av (sx:=nos) Vp ?_)
 repeat'(first|refine wk0 ?_|(refine wk2 ?_ ?_<;>intro _)|fail)
 all_goals exact Zb (by simp_all [Rc.meets]<;>omega)
def r213:List AV->Option PRes
 | [.agg [.int .i64 a,.int .i64 b,.int .i64 c,.int .i64 d],.agg [.int .i64 n,.int .i64 fx,.int .i64 fy,.int .i64 tx,.int .i64 ty]]=>some ⟨Bo (Rc.meets ⟨a,b,c,d⟩ ⟨n,fx,fy,tx,ty⟩),[]⟩
 | _=>none
def r195:List AV->Option PRes
 | [.agg [.int .i64 m,.int .i64 a,.int .i64 b,.int .i64 c,.int .i64 d],.agg [.int .i64 n,.int .i64 fx,.int .i64 fy,.int .i64 tx,.int .i64 ty]]=>some ⟨Bo (Wl.turnsBack ⟨m,a,b,c,d⟩ ⟨n,fx,fy,tx,ty⟩),[]⟩
 | _=>none
def r196:List AV->Option PRes
 | [.agg [.int .i64 m,.int .i64 a,.int .i64 b,.int .i64 c,.int .i64 d],.agg [.int .i64 n,.int .i64 fx,.int .i64 fy,.int .i64 tx,.int .i64 ty]]=>some ⟨Bo (Wl.touches ⟨m,a,b,c,d⟩ ⟨n,fx,fy,tx,ty⟩),[]⟩
 | _=>none
def r142:List AV->Option PRes
 | [.agg [.int .i64 x,.int .i64 y]]=>some ⟨Bo (Zim x y),[]⟩
 | _=>none
def r114:List AV->Option PRes
 | [.agg [.int .i64 x,.int .i64 y,.int .i64 z]]=>some ⟨P4 x y z 1,[]⟩
 | _=>none
def r102:List AV->Option PRes
 | [.bool b,.int .i64 e]=>some ⟨I (unl b e),[]⟩
 | _=>none
def r170:List AV->Option PRes
 | [.agg [nm,mt,.int .i64 a,.int .i64 b,.int .i64 c,.int .i64 d,hs]]=>some ⟨(rcOf a b c d).av,[]⟩
 | _=>none
def kG4:PC:=ins 296 r213 (ins 274 r195 (ins 275 r196 (ins 227 r142 (ins 170 r114 (ins 165 r102 (ins 251 r170 kG3))))))
theorem Zar:PCOK Tryz.prog kG4:=by
 refine Zh (fun a res h=>?_) (Zh (fun a res h=>?_) (Zh (fun a res h=>?_) (Zh (fun a res h=>?_) (Zh (fun a res h=>?_) (Zh (fun a res h=>?_) (Zh (fun a res h=>?_) Vp))))))
 ·unfold r213 at h; split at h<;>cases h; exact c213 ⟨_,_,_,_⟩ ⟨_,_,_,_,_⟩
 ·unfold r195 at h; split at h<;>cases h; exact c195 ⟨_,_,_,_,_⟩ ⟨_,_,_,_,_⟩
 ·unfold r196 at h; split at h<;>cases h; exact c196 ⟨_,_,_,_,_⟩ ⟨_,_,_,_,_⟩
 ·unfold r142 at h; split at h<;>cases h; exact c142 _ _
 ·unfold r114 at h; split at h<;>cases h; exact c114 _ _ _
 ·unfold r102 at h; split at h<;>cases h; exact c102 _ _
 ·unfold r170 at h; split at h<;>cases h; exact c170 _ _ _ _ _ _ _
def flips (x y d:Int) (w:Wl):Bool :=
 ((decide (Qa Qb (w.fy*d)<=y)&&decide (y<Qa Qb (w.ty*d)))&&decide (0<w.side x y d))||((decide (Qa Qb (w.ty*d)<=y)&&decide (y<Qa Qb (w.fy*d)))&&decide (w.side x y d<0))
def inPl (x y d:Int):Bool->List Wl->Bool
 | b,[]=>b
 | b,w::l=>if w.has x y d then false else inPl x y d (b ^^ flips x y d w) l
theorem Zp5 {x y d:Int} {b:Bool} {w:Wl} {l:List Wl} (h:w.has x y d=false):inPl x y d b (w::l)=inPl x y d (b ^^ flips x y d w) l:=by rw [inPl,if_neg (by simp [h])]
def Yi (h:Hal) (x y d:Int):Bool:=inPl x y d false (wls h.cs)
theorem c183 {h:Hal} (hf:h.few) (x y d:Int):PCall Tryz.prog 257 [h.av,I x,I y,I d] ⟨Bo (Yi h x y d),[]⟩:=by
 refine pn Zar Tryz.func257 ?_
 repeat'(first|refine wk0 ?_|(refine wk2 ?_ ?_<;>intro _)|fail)
 refine Dk (env2:=[(4,.ptr 0 0 0),(5,.ptr 1 0 0),(6,.ptr 2 0 0),(7,.ptr 3 0 0),(8,.ptr 4 0 0),(9,.ptr 5 0 0),(15,.func 255 [h.av] [])])
  (σ2:=⟨[(5,.row 1 [[Bo false]] true false),(4,.row 1 [[Bo false]] true false),(3,.row 1 [[I d]] true false),(2,.row 1 [[I y]] true false),(1,.row 1 [[I x]] true false),(0,.row 9 [h.cells] true false)],6⟩) (Wt [] rfl (kps) (kps)) ?_
 refine rngV (itW hf) rfl rfl rfl rfl (Zf4 (S:=Bool) (fun s=>[(5,.row 1 [[Bo s]] true false),(4,.row 1 [[Bo false]] true false),(3,.row 1 [[I d]] true false),(2,.row 1 [[I y]] true false),(1,.row 1 [[I x]] true false),(0,.row 9 [h.cells] true false)]) 6 6 (fun xs s=>∃ l:List Wl,xs=l.map (fun w=>[w.av])/\inPl x y d s l=Yi h x y d) ?_ ?_ _ false ⟨_,rfl,rfl⟩)
 ·rintro u us s ⟨l,h1,h2⟩
  cases l with
  | nil=>simp at h1
  | cons w l =>
   simp only [Ti,Qs] at h1;obtain ⟨rfl,rfl⟩:=h1;obtain ⟨wn,wa,wb,wc,wd⟩:=w;refine ⟨rfl,bs.av (sx:=nos) Zar ?_⟩
   repeat'(first|refine wk0 ?_|(refine wk2 ?_ ?_<;>intro _)|fail)
   refine Bd.mk (bs.av (sx:=nos) Zar ?_)
   repeat'(first|refine wk0 ?_|(refine wk2 ?_ ?_<;>intro _)|fail)
   all_goals first
    | exact Zb (by rw [<-h2]; simp_all [inPl])
    | exact Ql ⟨_,[],rfl,kps,l,rfl,by rw [<-h2,Zp5 (by assumption)]; congr 1; clear h2; cases s<;>simp_all [flips]<;>omega⟩
 ·rintro s ⟨l,h1,h2⟩
  cases l with
  | cons w l=>simp at h1
  | nil =>
   repeat'(first|refine wk0 ?_|(refine wk2 ?_ ?_<;>intro _)|fail)
   exact Zb h2
def Zgb (h:Hal) (q:Rc):Bool:=(wls h.cs).all (fun w=>!q.meets w)&&Yi h q.xl q.yl 1
theorem c197 {h:Hal} (hf:h.few) (q:Rc):PCall Tryz.prog 276 [h.av,q.av] ⟨Bo (Zgb h q),[]⟩:=by
 have hc:=c183 hf q.xl q.yl 1
 refine bs.pv (sx:=fun f=>Qp f 257) Zar Tryz.func276 (by kernel_rfl) (by kernel_rfl) rfl ?_
 repeat'(first|refine wk0 ?_|(refine wk2 ?_ ?_<;>intro _)|fail)
 refine Dk (env2:=[(2,.ptr 0 0 0),(3,.ptr 1 0 0),(4,.ptr 2 0 0),(7,.func 255 [h.av] [])])
  (σ2:=⟨[(2,.row 1 [[Bo false]] true false),(1,.row 4 [[I q.xl,I q.xh,I q.yl,I q.yh]] true false),(0,.row 9 [h.cells] true false)],3⟩) (Wt [] rfl (kps) (kps)) ?_
 refine rngV (itW hf) rfl rfl rfl rfl (Zf4 (S:=Unit) (fun _=>[(2,.row 1 [[Bo false]] true false),(1,.row 4 [[I q.xl,I q.xh,I q.yl,I q.yh]] true false),(0,.row 9 [h.cells] true false)]) 3 3 (fun xs _=>∃ l:List Wl,xs=l.map (fun w=>[w.av])/\(l.all (fun w=>!q.meets w)&&Yi h q.xl q.yl 1)=Zgb h q) ?_ ?_ _ () ⟨_,rfl,rfl⟩)
 ·rintro u us s ⟨l,h1,h2⟩
  cases l with
  | nil=>simp at h1
  | cons w l =>
   simp only [Ti,Qs] at h1;obtain ⟨rfl,rfl⟩:=h1;obtain ⟨wn,wa,wb,wc,wd⟩:=w;refine ⟨rfl,bs.av (sx:=nos) Zar ?_⟩
   repeat'(first|refine wk0 ?_|(refine wk2 ?_ ?_<;>intro _)|fail)
   refine Bd.mk (bs.av (sx:=nos) Zar ?_)
   repeat'(first|refine wk0 ?_|(refine wk2 ?_ ?_<;>intro _)|fail)
   all_goals first
    | exact Zb (by rw [<-h2]; simp_all)
    | exact Ql ⟨(),[],rfl,kps,l,rfl,by rw [<-h2]; simp_all⟩
 ·rintro s ⟨l,h1,h2⟩
  cases l with
  | cons w l=>simp at h1
  | nil =>
   repeat'(first|refine wk0 ?_|(refine wk2 ?_ ?_<;>intro _)|fail)
   refine SCt.pc hc rfl ?_
   repeat'(first|refine wk0 ?_|(refine wk2 ?_ ?_<;>intro _)|fail)
   exact Zb (by rw [<-h2]; rfl)
def Zfr (n:Int) (a b:Wl):Bool :=
 decide (b.n<=a.n)||(!((decide (b.n=Qa Qb (a.n+1))&&a.turnsBack b)||((decide (a.n=0)&&decide (b.n=Qa Qb (n-1)))&&b.turnsBack a))&&((decide (b.n=Qa Qb (a.n+1))||(decide (a.n=0)&&decide (b.n=Qa Qb (n-1)))) || !a.touches b))
def Vi (h:Hal):Bool:=(wls h.cs).all fun a=>(wls h.cs).all fun b=>Zfr h.cs.length a b
theorem c148 {h:Hal} (hf:h.few):PCall Tryz.prog 233 [h.av] ⟨Bo (Vi h),[]⟩:=by
 refine pn Zar Tryz.func233 ?_
 repeat'(first|refine wk0 ?_|(refine wk2 ?_ ?_<;>intro _)|fail)
 have hlen:(h.cs.map pt).length=h.cs.length:=by simp
 refine Dk (env2:=[(1,.ptr 0 0 0),(2,.ptr 1 0 0),(3,.ptr 2 0 0),(11,.func 255 [h.av] [])])
  (σ2:=⟨[(2,.row 1 [[I (h.cs.map pt).length]] true false),(1,.row 1 [[Bo false]] true false),(0,.row 9 [h.cells] true false)],3⟩) (Wt [] rfl (kps) (kps)) ?_
 refine rngV (itW hf) rfl rfl rfl rfl (Zf4 (S:=Unit) (fun _=>[(2,.row 1 [[I (h.cs.map pt).length]] true false),(1,.row 1 [[Bo false]] true false),(0,.row 9 [h.cells] true false)]) 3 3 (fun xs _=>∃ l:List Wl,xs=l.map (fun w=>[w.av])/\(l.all fun a=>(wls h.cs).all fun b=>Zfr h.cs.length a b)=Vi h) ?_ ?_ _ () ⟨_,rfl,rfl⟩)
 ·rintro u us s ⟨l,h1,h2⟩
  cases l with
  | nil=>simp at h1
  | cons a l =>
   simp only [Ti,Qs] at h1;obtain ⟨rfl,rfl⟩:=h1;obtain ⟨wn,wa,wb,wc,wd⟩:=a;refine ⟨rfl,bs.av (sx:=nos) Zar ?_⟩
   repeat'(first|refine wk0 ?_|(refine wk2 ?_ ?_<;>intro _)|fail)
   refine Bd.mk (bs.av (sx:=nos) Zar ?_)
   repeat'(first|refine wk0 ?_|(refine wk2 ?_ ?_<;>intro _)|fail)
   refine Dk (env2:=[(1,.ptr 0 0 0),(2,.ptr 1 0 0),(3,.ptr 2 0 0),(4,.ptr 3 0 0),(14,.func 255 [h.av] [])])
    (σ2:=⟨[(3,.row 5 [[I wn,I wa,I wb,I wc,I wd]] true false),(2,.row 1 [[I (h.cs.map pt).length]] true false),(1,.row 1 [[Bo false]] true false),(0,.row 9 [h.cells] true false)],4⟩) (Wt [] rfl (kps) (kps)) ?_
   refine rngV (itW hf) rfl rfl rfl rfl (Zf4 (S:=Unit) (fun _=>[(3,.row 5 [[I wn,I wa,I wb,I wc,I wd]] true false),(2,.row 1 [[I (h.cs.map pt).length]] true false),(1,.row 1 [[Bo false]] true false),(0,.row 9 [h.cells] true false)]) 4 4
    (fun xs _=>∃ m:List Wl,xs=m.map (fun w=>[w.av])/\(m.all (fun b=>Zfr h.cs.length ⟨wn,wa,wb,wc,wd⟩ b)&&(l.all fun a=>(wls h.cs).all fun b=>Zfr h.cs.length a b))=Vi h) ?_ ?_ _ () ⟨_,rfl,h2⟩)
   ·rintro u us s ⟨m,h1,h3⟩
    cases m with
    | nil=>simp at h1
    | cons b m =>
     simp only [Ti,Qs] at h1;obtain ⟨rfl,rfl⟩:=h1;obtain ⟨vn,va,vb,vc,vd⟩:=b;refine ⟨rfl,bs.av (sx:=nos) Zar ?_⟩
     repeat'(first|refine wk0 ?_|(refine wk2 ?_ ?_<;>intro _)|fail)
     refine Bd.mk (bs.av (sx:=nos) Zar ?_)
     repeat'(first|refine wk0 ?_|(refine wk2 ?_ ?_<;>intro _)|fail)
     all_goals (clear h2)
     all_goals first
      | exact Zb (by rw [<-h3]; simp_all [Zfr]<;>omega)
      | exact Ql ⟨(),[],rfl,kps,m,rfl,by rw [<-h3]; simp_all [Zfr]<;>omega⟩
   ·rintro s ⟨m,h1,h3⟩
    cases m with
    | cons w l=>simp at h1
    | nil =>
     repeat'(first|refine wk0 ?_|(refine wk2 ?_ ?_<;>intro _)|fail)
     exact Ql ⟨(),[],rfl,kps,l,rfl,h3⟩
 ·rintro s ⟨l,h1,h2⟩
  cases l with
  | cons w l=>simp at h1
  | nil =>
   repeat'(first|refine wk0 ?_|(refine wk2 ?_ ?_<;>intro _)|fail)
   exact Zb h2
def Zk1 (n:Int):Bool:=(decide (97<=n)&&decide (n<=122))||(decide (65<=n)&&decide (n<=90))
def Zl0 (first:Bool) (n:Int):Bool:=Zk1 n||(!first&&(decide (n=45)||(decide (48<=n)&&decide (n<=57))))
def Zdx:Bool->List UInt8->Bool
 | _,[]=>true
 | b,c::l=>Zl0 b c.toNat&&Zdx false l
def Un (s:ByteArray):Bool:=Zdx true s.data.toList&&(!(s==⟨#[]⟩)&&decide ((s.size:Int)<=12))
theorem Yai (s:ByteArray):(Ut s).length=s.data.toList.length:=by simp [Ut]
theorem Yj4 {s:ByteArray} {k:Nat} (h:k<s.data.toList.length):(Ut s)[((k:Nat):Int).toNat]?=some [.int .u8 (s.data.toList[k]).toNat]:=by
 simp only [Ut,Int.toNat_natCast,List.getElem?_map]
 rw [List.getElem?_eq_getElem h]; rfl
theorem Zkr (b:Bool) (c:UInt8) (l:List UInt8):Zdx b (c::l)=(Zl0 b c.toNat&&Zdx false l):=rfl
theorem c131 {s:ByteArray} (hs:s.data.toList.length<100000):PCall Tryz.prog 216 [.str s] ⟨Bo (Un s),[]⟩:=by
 refine pn Zc Tryz.func216 ?_
 refine Zr (S:=Nat × Int) (fun t=>s.data.toList.length-t.1) (fun t=>[(0,.str s),(7,.isl 1 (Ut s)),(8,I (Ut s).length),(9,I t.2)]) (fun _=>[]) 0 0 (fun t=>t.2=t.1/\t.1<=s.data.toList.length/\Zdx (decide (t.1=0)) (s.data.toList.drop t.1)=Zdx true s.data.toList) (0,0) ⟨rfl,Qn _,rfl⟩ (Qd _) [] rfl (kps) (kps) ?_
 rintro ⟨k,i⟩ ⟨hi,hk,hh⟩
 dsimp only at hi hk hh ⊢
 subst hi
 refine bs.av (sx:=nos) Zc ?_
 have e3:=Yai s
 by_cases hlt:k<s.data.toList.length
 ·have e1:=Yj4 hlt
  rw [Qi hlt,Zkr] at hh
  generalize (s.data.toList[k]).toNat=c at *
  repeat'(first|refine wk1 ?_|(refine wk2 ?_ ?_<;>intro _)|fail)
  all_goals (clear e1 e3)
  all_goals first
   | exact Zb (by
     have hg:Zl0 (decide (k=0)) c=false:=by clear hh; simp_all [Zl0,Zk1]<;>omega
     rw [hg,Bool.false_and] at hh
     rw [Un,<-hh]; rfl)
   | exact Ql ⟨(k+1,_),[],rfl,kps,trivial,⟨Zg (by omega),hlt,by
     have hg:Zl0 (decide (k=0)) c=true:=by clear hh; simp_all [Zl0,Zk1]<;>omega
     rw [hg,Bool.true_and] at hh
     exact hh⟩,by dsimp only; omega⟩
 ·rw [Qk (by omega)] at hh
  have hn:Zdx true s.data.toList=true:=hh.symm
  clear hh
  repeat'(first|refine wk1 ?_|(refine wk2 ?_ ?_<;>intro _)|fail)
  all_goals exact Zb (by simp_all [Un])
def Yf (s:ByteArray) (ns:List ByteArray):Int:=if Un s then (if Ug s ns then 5 else 0) else 4
def r131:List AV->Option PRes
 | [.str s]=>asr (decide (s.data.toList.length<100000)) ⟨Bo (Un s),[]⟩
 | _=>none
def kG5:PC:=ins 216 r131 kG4
theorem Zd0:PCOK Tryz.prog kG5:=by
 refine Zh (fun a res h=>?_) Zar
 unfold r131 at h; split at h
 ·obtain ⟨h1,rfl⟩:=Yx h
  exact c131 (of_decide_eq_true h1)
 ·cases h
noncomputable def one (a0:List AV) (r:PRes) (a:List AV):Option PRes:=by
 classical exact if a=a0 then some r else none
theorem Zr8 (a:List AV) (r:PRes):one a r a=some r:=by unfold one; simp
theorem Zd {f0:FuncId} {a0:List AV} {r:PRes} {pt:PC} (h0:PCall Tryz.prog f0 a0 r) (h:PCOK Tryz.prog pt):PCOK Tryz.prog (ins f0 (one a0 r) pt):=by
 refine Zh (fun a res hr=>?_) h
 unfold one at hr
 split at hr
 ·rename_i e; cases hr; rw [e]; exact h0
 ·cases hr
def thou (n:Int):Bool:=within n 0 1000
def Zbm (m:Mat):Int:=if thou m.a&&thou m.b&&thou m.c&&thou m.d&&thou m.sc then 0 else 2
theorem c138 (m:Mat):PCall Tryz.prog 223 [.agg m.av] ⟨I (Zbm m),[]⟩:=by
 refine pn Zd0 Tryz.func223 ?_
 repeat'(first|refine wk0 ?_|(refine wk2 ?_ ?_<;>intro _)|fail)
 refine Su 6 ?_
 iterate 6
  all_goals try (refine Qx (bs.av (sx:=nos) Zd0 ?_))
  repeat'(first|refine wk0 ?_|(refine wk2 ?_ ?_<;>intro _)|fail)
 all_goals exact Za (by simp_all [Zbm,thou])
def Zdm (ht:Int):Option Int->List Int->Int
 | _,[]=>0
 | p,n::l=>if within n 1 (Qa Qb (ht-1)) then (if (match p with
  | some q=>decide (n<=q)
  | none=>false) then 9 else Zdm ht (some n) l) else 2
def Yr (hs:List Int):Nat->Option Int
 | 0=>none
 | k+1=>hs[k]?
def Zht (h:Hal) (c:Can):Int :=
 if within c.hs.length 1 4 then (if Zdm h.ht none c.hs=0 then (if Zim c.fx c.fy&&Zim c.tx c.ty then (if decide (c.fx=c.tx)||decide (c.fy=c.ty) then 11 else unl (Zgb h (rcOf c.fx c.fy c.tx c.ty)) 24) else 2) else Zdm h.ht none c.hs) else 10
theorem Zii (ht:Int) (p:Option Int) (n:Int) (l:List Int):Zdm ht p (n::l)=if within n 1 (Qa Qb (ht-1)) then (if (match p with
  | some q=>decide (n<=q)
  | none=>false) then 9 else Zdm ht (some n) l) else 2:=rfl
theorem c155 {h:Hal} (hf:h.few) (c:Can) (hl:c.hs.length<1000):PCall Tryz.prog 240 [h.av,.agg c.av] ⟨I (Zht h c),[]⟩:=by
 have hc:=c197 hf (rcOf c.fx c.fy c.tx c.ty)
 have hk:=Zd hc Zd0
 have e3:=Zk c.hs
 refine pn hk Tryz.func240 ?_
 repeat'(first|refine wk0 ?_|(refine wk2 ?_ ?_<;>intro _)|fail)
 ·exact Za (by simp_all [Zht])
 ·rename_i hw1
  have hw:within c.hs.length 1 4=true:=by rw [e3] at hw1; simpa using hw1
  refine Zr (S:=Nat × Int) (fun t=>c.hs.length-t.1) (fun t=>[(2,.ptr 0 0 0),(3,.ptr 1 0 0),(13,.isl 1 (nl c.hs)),(14,I (nl c.hs).length),(15,I t.2)]) (fun _=>[(1,.row 7 [c.av] true false),(0,.row 9 [h.cells] true false)]) 2 2
   (fun t=>t.2=t.1/\t.1<=c.hs.length/\Zdm h.ht (Yr c.hs t.1) (c.hs.drop t.1)=Zdm h.ht none c.hs) (0,0) ⟨rfl,Qn _,rfl⟩ (Qd _) [] rfl (kps) (kps) ?_
  rintro ⟨k,i⟩ ⟨hi,hk',hh⟩
  dsimp only at hi hk' hh ⊢
  subst hi
  refine bs.av (sx:=nos) hk ?_
  by_cases hlt:k<c.hs.length
  ·have e1:=Xx hlt
   rw [Qi hlt,Zii] at hh;have e4:Qa Qb ((k:Int)-1)=(k:Int)-1:=W_eq (by omega) (by omega);have hh:=hh.symm
   cases k with
   | zero =>
    repeat'(first|refine wk1 ?_|(refine wk2 ?_ ?_<;>intro _)|fail)
    all_goals first
     | exact Za (by simp_all [Zht,Yr])
     | exact Ql ⟨(1,_),[],rfl,kps,kps,⟨by exact Zg (k:=0) (by omega),hlt,by simp_all [Yr]⟩,by dsimp only; omega⟩
   | succ k =>
    have e5:(nl c.hs)[(Qa Qb (((k+1:Nat):Int)-1)).toNat]?=some [I c.hs[k]]:=by
     rw [e4,show ((k+1:Nat):Int)-1=(k:Int) by omega]; exact Xx (by omega)
    have e6:Yr c.hs (k+1)=some c.hs[k]:=by simp [Yr,show k<c.hs.length by omega]
    rw [e6] at hh
    repeat'(first|refine wk1 ?_|(refine wk2 ?_ ?_<;>intro _)|fail)
    all_goals (clear e1 e5)
    all_goals first
     | exact Za (by simp_all [Zht])
     | exact Ql ⟨(k+2,_),[],rfl,kps,kps,⟨by exact Zg (k:=k+1) (by omega),hlt,by rw [hh,if_pos (by clear hh; simp_all),if_neg (by clear hh; simp_all)]; simp [Yr,hlt]⟩,by dsimp only; omega⟩
  ·rw [Qk (by omega)] at hh
   have hh:Zdm h.ht none c.hs=0:=by rw [<-hh]; cases Yr c.hs k<;>rfl
   repeat'(first|refine wk1 ?_|(refine wk2 ?_ ?_<;>intro _)|fail)
   all_goals (clear hc hk)
   all_goals exact Za (by simp_all [Zht])
def Zwd (h:Hal) (x y z d:Int):Bool:=(decide (0<z)&&decide (z<Qa Qb (h.ht*d)))&&Yi h x y d
theorem c124 {h:Hal} (hf:h.few) (x y z d:Int):PCall Tryz.prog 160 [h.av,P4 x y z d] ⟨Bo (Zwd h x y z d),[]⟩:=by
 have hk:=Zd (c183 hf x y d) Zd0
 refine pn hk Tryz.func160 ?_
 repeat'(first|refine wk0 ?_|(refine wk2 ?_ ?_<;>intro _)|fail)
 all_goals (clear hk)
 all_goals exact Zb (by simp_all [Zwd]<;>omega)
def Znv (h:Hal) (x y z:Int):Int:=if small x 5000&&small y 5000&&small z 5000 then (if Zwd h x y z 1 then 0 else 24) else 2
theorem c160 {h:Hal} (hf:h.few) (x y z:Int):PCall Tryz.prog 245 [h.av,P3 x y z] ⟨I (Znv h x y z),[]⟩:=by
 have hk:=Zd (c124 hf x y z 1) Zd0
 refine pn hk Tryz.func245 ?_
 repeat'(first|refine wk0 ?_|(refine wk2 ?_ ?_<;>intro _)|fail)
 all_goals (clear hk)
 all_goals exact Za (by simp_all [Znv]<;>omega)
theorem c129 (b:Bool) (e:Int):PCall Tryz.prog 214 [Bo b,I e] ⟨.func 215 [] [.ptr 0 0 0,.ptr 1 0 0],[(1,[[Bo b]]),(1,[[I e]])]⟩:=by
 refine pn Zd0 Tryz.func214 ?_
 repeat'(first|refine wk0 ?_|(refine wk2 ?_ ?_<;>intro _)|fail)
 exact Yg [0,1] rfl rfl rfl
theorem c130 (b:Bool) (e:Int):PCall Tryz.prog 215 [.ipt [Bo b],.ipt [I e]] ⟨.tup [I 0,I (unl b e)],[]⟩:=by
 refine pn Zd0 Tryz.func215 ?_
 repeat'(first|refine wk0 ?_|(refine wk2 ?_ ?_<;>intro _)|fail)
 exact Ze rfl rfl
theorem c147 {h:Hal} (hf:h.few):PCall Tryz.prog 232 [.ipt h.cells] ⟨.tup [I 0,I (unl (Vi h) 24)],[]⟩:=by
 have hk:=Zd (c148 hf) Zd0
 refine pn hk Tryz.func232 ?_
 repeat'(first|refine wk0 ?_|(refine wk2 ?_ ?_<;>intro _)|fail)
 exact Ze rfl rfl
theorem c149 {h:Hal} (hf:h.few):PCall Tryz.prog 234 [.ipt h.cells] ⟨.tup [I 0,I (unl (decide (0<Zea h)) 9)],[]⟩:=by
 have hk:=Zd (c122 hf) Zd0
 refine pn hk Tryz.func234 ?_
 repeat'(first|refine wk0 ?_|(refine wk2 ?_ ?_<;>intro _)|fail)
 exact Ze rfl rfl
def r129:List AV->Option PRes
 | [.bool b,.int .i64 e]=>some ⟨.func 215 [] [.ptr 0 0 0,.ptr 1 0 0],[(1,[[Bo b]]),(1,[[I e]])]⟩
 | _=>none
def kG6:PC:=ins 214 r129 kG5
theorem Vo:PCOK Tryz.prog kG6:=by
 refine Zh (fun a res h=>?_) Zd0
 unfold r129 at h; split at h<;>cases h; exact c129 _ _
def Yj3:List AV:=[I 0,.func 215 [] [.ptr 13 0 0,.ptr 14 0 0],I 0,.func 215 [] [.ptr 21 0 0,.ptr 22 0 0],I 0,.func 215 [] [.ptr 30 0 0,.ptr 31 0 0],I 1,.func 217 [] [.ptr 0 0 0,.ptr 6 0 0],I 0,.func 224 [] [.ptr 6 0 0,.ptr 0 0 0],
 I 0,.func 215 [] [.ptr 52 0 0,.ptr 53 0 0],I 0,.func 215 [] [.ptr 61 0 0,.ptr 62 0 0],I 2,.func 225 [] [.ptr 0 0 0],I 3,.func 228 [] [.ptr 0 0 0,.ptr 2 0 0,.ptr 7 0 0,.ptr 6 0 0],I 0,.func 232 [] [.ptr 2 0 0],I 0,.func 234 [] [.ptr 2 0 0],
 I 0,.func 215 [] [.ptr 78 0 0,.ptr 79 0 0],I 4,.func 235 [] [.ptr 0 0 0,.ptr 7 0 0,.ptr 6 0 0,.ptr 2 0 0],I 0,.func 215 [] [.ptr 89 0 0,.ptr 90 0 0],I 5,.func 241 [] [.ptr 0 0 0,.ptr 8 0 0,.ptr 2 0 0]]
abbrev b1 (v:AV):ABlk:=.row 1 [[v]] true false
abbrev bp (v:AV):ABlk:=.row 1 [[v]] true true
structure Set7 where
 a:Bool
 b:Bool
 c:Bool
 d:Bool
 e:Bool
 f:Bool
 g:Bool
abbrev Zt (h:Hal) (s:Set7) (ms su se:List ByteArray):List (Nat × ABlk) :=
  [(90, bp (I 8)), (89, bp (Bo s.g)), (79, bp (I 8)), (78, bp (Bo s.f)), (62, bp (I 8)), (61, bp (Bo s.e)), (53, bp (I 10)), (52, bp (Bo s.d)), (31, bp (I 8)), (30, bp (Bo s.c)), (22, bp (I 2)), (21, bp (Bo s.b)), (14, bp (I 4)), (13, bp (Bo s.a)),
   (8, b1 (.amap 5)), (7, b1 (.amap 4)), (6, b1 (.amap 3)), (5, .set se), (4, .set su), (3, .set ms), (2, .row 9 [h.cells] true false), (1, .row 2 [[I 0, I 0]] true false), (0, .row 9 [h.cells] true false)]
abbrev Zat (k:Nat):Env:=[(2,.ptr 1 0 0),(93,.agg Yj3),(94,I k)]
def set7 (h:Hal):Set7:=⟨Un h.nm,within h.ht 2 5000,decide ((h.ms.length:Int)<=10),decide (3<=(h.cs.length:Int))&&decide ((h.ws.length:Int)=h.cs.length),decide ((h.ws.length:Int)<=12),decide ((h.ks.length:Int)<=4),decide ((h.ss.length:Int)<=40)⟩
def Uf:ByteArray:=⟨#[102,108,111,111,114]⟩
def Zc0:ByteArray:=⟨#[99,101,105,108,105,110,103]⟩
def su0:List ByteArray:=addK Zc0 (addK Uf [])
def Zsx:Nat->Code->Code
 | n+1,.seq _ y=>Zsx n y
 | _,c=>c
def Yd3:Code->Code
 | .seq (.seq _ b) y=>.seq b y
 | .seq _ y=>y
 | c=>c
noncomputable def Yet:Code:=match Tryz.f143.body with
 | some c=>c
 | none=>.skip
def r130:List AV->Option PRes
 | [.ipt [.bool b],.ipt [.int .i64 e]]=>some ⟨.tup [I 0,I (unl b e)],[]⟩
 | _=>none
def kG7 (h:Hal) (pt:PC):PC:=ins 215 r130 pt
theorem Yiy (h:Hal) {pt:PC} (hp:PCOK Tryz.prog pt):PCOK Tryz.prog (kG7 h pt):=by
 refine Zh (fun a res h=>?_) hp
 unfold r130 at h; split at h<;>cases h; exact c130 _ _
noncomputable def lc63:Code:=match Yd3 (Zsx 5 Yet) with
 | .seq (.block _ (.loop c)) _=>c
 | _=>.skip
noncomputable def tc63:Code:=match Yd3 (Zsx 5 Yet) with
 | .seq _ y=>y
 | _=>.skip
abbrev R63 (res:PRes):Exit->Env->St->Prop:=retQ (tget tbl) Tryz.f143.results.toList fun v σ=>fA v fun v=>Ret res v σ
abbrev Q63 (res:PRes):Exit->Env->St->Prop:=Zew 0 (seqQ (fun env' σ'=>bs.vcode nos kG6 Tryz.f143.ntmps tc63 env' σ' (R63 res)) (R63 res))
abbrev chkV (p:Int × Int × Int):AV:=.tup [P2 p.1 p.2.1,I p.2.2]
abbrev It63 (sx:FuncId->Bool) (pt:PC) (res:PRes) (k:Nat) (H:List (Nat × ABlk)) (K:Env->St->Prop):Prop :=
 bs.vcode sx pt Tryz.f143.ntmps lc63 (Zat k) ⟨H,98⟩ (seqQ (fun e s=>Done (K e s)) (Q63 res))
theorem it0 {h:Hal} {s:Set7} {ms su se:List ByteArray} {res:PRes} {K:Env->St->Prop} (hR:unl s.a 4≠0->res=⟨chkV (0,0,unl s.a 4),[]⟩)
  (hK:unl s.a 4=0->∀ e σ,Ren 98 e σ (Zat 1) ⟨Zt h s ms su se,98⟩->K e σ):It63 nos (kG7 h kG6) res 0 (Zt h s ms su se) K:=by
 unfold It63 Pc
 repeat'(first|refine wk0 ?_|(refine wk2 ?_ ?_<;>intro _)|fail)
 ·rw [hR (by simp_all)]; exact Ze rfl rfl
 ·exact ⟨hK (by simp_all) _ _ (Wt [] rfl (kps) (kps))⟩
theorem it1 {h:Hal} {s:Set7} {ms su se:List ByteArray} {res:PRes} {K:Env->St->Prop} (hR:unl s.b 2≠0->res=⟨chkV (0,0,unl s.b 2),[]⟩)
  (hK:unl s.b 2=0->∀ e σ,Ren 98 e σ (Zat 2) ⟨Zt h s ms su se,98⟩->K e σ):It63 nos (kG7 h kG6) res 1 (Zt h s ms su se) K:=by
 unfold It63 Pc
 repeat'(first|refine wk0 ?_|(refine wk2 ?_ ?_<;>intro _)|fail)
 ·rw [hR (by simp_all)]; exact Ze rfl rfl
 ·exact ⟨hK (by simp_all) _ _ (Wt [] rfl (kps) (kps))⟩
theorem it2 {h:Hal} {s:Set7} {ms su se:List ByteArray} {res:PRes} {K:Env->St->Prop} (hR:unl s.c 8≠0->res=⟨chkV (0,0,unl s.c 8),[]⟩)
  (hK:unl s.c 8=0->∀ e σ,Ren 98 e σ (Zat 3) ⟨Zt h s ms su se,98⟩->K e σ):It63 nos (kG7 h kG6) res 2 (Zt h s ms su se) K:=by
 unfold It63 Pc
 repeat'(first|refine wk0 ?_|(refine wk2 ?_ ?_<;>intro _)|fail)
 ·rw [hR (by simp_all)]; exact Ze rfl rfl
 ·exact ⟨hK (by simp_all) _ _ (Wt [] rfl (kps) (kps))⟩
theorem it5 {h:Hal} {s:Set7} {ms su se:List ByteArray} {res:PRes} {K:Env->St->Prop} (hR:unl s.d 10≠0->res=⟨chkV (0,0,unl s.d 10),[]⟩)
  (hK:unl s.d 10=0->∀ e σ,Ren 98 e σ (Zat 6) ⟨Zt h s ms su se,98⟩->K e σ):It63 nos (kG7 h kG6) res 5 (Zt h s ms su se) K:=by
 unfold It63 Pc
 repeat'(first|refine wk0 ?_|(refine wk2 ?_ ?_<;>intro _)|fail)
 ·rw [hR (by simp_all)]; exact Ze rfl rfl
 ·exact ⟨hK (by simp_all) _ _ (Wt [] rfl (kps) (kps))⟩
theorem it6 {h:Hal} {s:Set7} {ms su se:List ByteArray} {res:PRes} {K:Env->St->Prop} (hR:unl s.e 8≠0->res=⟨chkV (0,0,unl s.e 8),[]⟩)
  (hK:unl s.e 8=0->∀ e σ,Ren 98 e σ (Zat 7) ⟨Zt h s ms su se,98⟩->K e σ):It63 nos (kG7 h kG6) res 6 (Zt h s ms su se) K:=by
 unfold It63 Pc
 repeat'(first|refine wk0 ?_|(refine wk2 ?_ ?_<;>intro _)|fail)
 ·rw [hR (by simp_all)]; exact Ze rfl rfl
 ·exact ⟨hK (by simp_all) _ _ (Wt [] rfl (kps) (kps))⟩
theorem it11 {h:Hal} {s:Set7} {ms su se:List ByteArray} {res:PRes} {K:Env->St->Prop} (hR:unl s.f 8≠0->res=⟨chkV (0,0,unl s.f 8),[]⟩)
  (hK:unl s.f 8=0->∀ e σ,Ren 98 e σ (Zat 12) ⟨Zt h s ms su se,98⟩->K e σ):It63 nos (kG7 h kG6) res 11 (Zt h s ms su se) K:=by
 unfold It63 Pc
 repeat'(first|refine wk0 ?_|(refine wk2 ?_ ?_<;>intro _)|fail)
 ·rw [hR (by simp_all)]; exact Ze rfl rfl
 ·exact ⟨hK (by simp_all) _ _ (Wt [] rfl (kps) (kps))⟩
theorem it13 {h:Hal} {s:Set7} {ms su se:List ByteArray} {res:PRes} {K:Env->St->Prop} (hR:unl s.g 8≠0->res=⟨chkV (0,0,unl s.g 8),[]⟩)
  (hK:unl s.g 8=0->∀ e σ,Ren 98 e σ (Zat 14) ⟨Zt h s ms su se,98⟩->K e σ):It63 nos (kG7 h kG6) res 13 (Zt h s ms su se) K:=by
 unfold It63 Pc
 repeat'(first|refine wk0 ?_|(refine wk2 ?_ ?_<;>intro _)|fail)
 ·rw [hR (by simp_all)]; exact Ze rfl rfl
 ·exact ⟨hK (by simp_all) _ _ (Wt [] rfl (kps) (kps))⟩
theorem it9 {h:Hal} {s:Set7} {ms su se:List ByteArray} {res:PRes} {K:Env->St->Prop} (hR:unl (Vi h) 24≠0->res=⟨chkV (0,0,unl (Vi h) 24),[]⟩)
  (hK:unl (Vi h) 24=0->∀ e σ,Ren 98 e σ (Zat 10) ⟨Zt h s ms su se,98⟩->K e σ):It63 nos (ins 232 (one [.ipt h.cells] ⟨.tup [I 0,I (unl (Vi h) 24)],[]⟩) (kG7 h kG6)) res 9 (Zt h s ms su se) K:=by
 unfold It63 Pc
 repeat'(first|refine wk0 ?_|(refine wk2 ?_ ?_<;>intro _)|fail)
 ·rw [hR (by simp_all)]; exact Ze rfl rfl
 ·exact ⟨hK (by simp_all) _ _ (Wt [] rfl (kps) (kps))⟩
theorem it10 {h:Hal} {s:Set7} {ms su se:List ByteArray} {res:PRes} {K:Env->St->Prop} (hR:unl (decide (0<Zea h)) 9≠0->res=⟨chkV (0,0,unl (decide (0<Zea h)) 9),[]⟩)
  (hK:unl (decide (0<Zea h)) 9=0->∀ e σ,Ren 98 e σ (Zat 11) ⟨Zt h s ms su se,98⟩->K e σ):It63 nos (ins 234 (one [.ipt h.cells] ⟨.tup [I 0,I (unl (decide (0<Zea h)) 9)],[]⟩) (kG7 h kG6)) res 10 (Zt h s ms su se) K:=by
 unfold It63 Pc
 repeat'(first|refine wk0 ?_|(refine wk2 ?_ ?_<;>intro _)|fail)
 ·rw [hR (by simp_all)]; exact Ze rfl rfl
 ·exact ⟨hK (by simp_all) _ _ (Wt [] rfl (kps) (kps))⟩
def Zl3 (h:Hal) (ms:List ByteArray):Int:=unl (Ug h.fl ms&&Ug h.ce ms) 6
theorem it4 {h:Hal} {s:Set7} {ms su se:List ByteArray} {res:PRes} {K:Env->St->Prop} (hR:Zl3 h ms≠0->res=⟨chkV (0, 0, Zl3 h ms), []⟩)
    (hK:Zl3 h ms=0->∀ e σ, Ren 98 e σ (Zat 5) ⟨Zt h s ms su se, 98⟩->K e σ):It63 (fun f => Qp f 224) (kG7 h kG6) res 4 (Zt h s ms su se) K := by
  unfold It63 Pc
  repeat'(first|refine wk0 ?_|(refine wk2 ?_ ?_<;>intro _)|fail)
  refine bs.sv (sx := nos) Vo Tryz.func224 (by kernel_rfl) (by kernel_rfl) ?_
  repeat'(first|refine wk0 ?_|(refine wk2 ?_ ?_<;>intro _)|fail)
  all_goals first
    | (have e6:Zl3 h ms=6 := (by clear hR hK; simp_all [Zl3, unl]; done)
       rw [hR (by rw [e6]; decide), e6]; exact Ze rfl rfl)
    | (rw [hR (by clear hR hK; simp_all [Zl3]; done)]; exact Ze (by clear hR hK; simp_all [Zl3]) rfl)
    | exact ⟨hK (by clear hR hK; simp_all [Zl3]) _ _ (Wt [] rfl (kps) (kps))⟩
theorem Zao (l:List Mat):(l.map Mat.av).length=l.length:=by simp
theorem Zpo {l:List Mat} {k:Nat} (h:k<l.length):(l.map Mat.av)[((k:Nat):Int).toNat]?=some (Mat.av l[k]):=by simp [h]
def Ue:Nat->List ByteArray->List Mat->Int × Int × List ByteArray
 | _,ns,[]=>(0,0,ns)
 | i,ns,m::l=>if Yf m.nm ns=0 then (if Zbm m=0 then Ue (i+1) (addK m.nm ns) l else (i,Zbm m,addK m.nm ns)) else (i,Yf m.nm ns,ns)
abbrev sx3:FuncId->Bool:=fun f=>Qp f 217||Qp f 218||Qp f 219||Qp f 163||Qp f 220||Qp f 221
def r138:List AV->Option PRes
 | [.agg [.str nm,.int .i64 a,.int .i64 b,.int .i64 c,.int .i64 d,.int .i64 sc]]=>some ⟨I (Zbm ⟨nm,a,b,c,d,sc⟩),[]⟩
 | _=>none
def r137:List AV->Option PRes
 | [.ipt [.str nm,.int .i64 a,.int .i64 b,.int .i64 c,.int .i64 d,.int .i64 sc]]=>some ⟨I (Zbm ⟨nm,a,b,c,d,sc⟩),[]⟩
 | _=>none
theorem Ygi:PCOK Tryz.prog (ins 223 r138 kG5):=by
 refine Zh (fun a res h=>?_) Zd0
 unfold r138 at h; split at h<;>cases h; exact c138 ⟨_,_,_,_,_,_⟩
theorem c137 (m:Mat):PCall Tryz.prog 222 [.ipt m.av] ⟨I (Zbm m),[]⟩:=by
 refine pn Ygi Tryz.func222 ?_
 repeat'(first|refine wk0 ?_|(refine wk2 ?_ ?_<;>intro _)|fail)
 exact Za rfl
theorem Zer:PCOK Tryz.prog (ins 222 r137 kG5):=by
 refine Zh (fun a res h=>?_) Zd0
 unfold r137 at h; split at h<;>cases h; exact c137 ⟨_,_,_,_,_,_⟩
theorem it3 {h:Hal} (hf:h.few) (hnm:∀ m∈h.ms, m.nm.data.toList.length<100000) {s:Set7} {ms su se:List ByteArray} {res:PRes} {K:Env->St->Prop} (hR:(Ue 0 ms h.ms).2.1≠0->res=⟨chkV (1, (Ue 0 ms h.ms).1, (Ue 0 ms h.ms).2.1), []⟩)
    (hK:(Ue 0 ms h.ms).2.1=0->∀ e σ, Ren 98 e σ (Zat 4) ⟨Zt h s (Ue 0 ms h.ms).2.2 su se, 98⟩->K e σ):It63 sx3 (kG7 h kG6) res 3 (Zt h s ms su se) K := by
  unfold It63 Pc
  repeat'(first|refine wk0 ?_|(refine wk2 ?_ ?_<;>intro _)|fail)
  refine bs.sv (sx := sx3) Vo Tryz.func217 (by kernel_rfl) (by kernel_rfl) ?_
  repeat'(first|refine wk0 ?_|(refine wk2 ?_ ?_<;>intro _)|fail)
  refine bs.sv (sx := sx3) Vo Tryz.func218 (by kernel_rfl) (by kernel_rfl) ?_
  refine Zr (S := Nat × Int × List ByteArray) (fun t => h.ms.length-t.1) (fun t => [(1, .func 219 [] [.ptr 0 0 0, .ptr 6 0 0]), (8, I (h.ms.map Mat.av).length), (9, I t.2.1)]) (fun t => (98, .row 2 [[I 1, .func 217 [] [.ptr 0 0 0, .ptr 6 0 0]]] true false)::Zt h s t.2.2 su se) 99 99
    (fun t => t.2.1=t.1/\t.1<=h.ms.length/\Ue t.1 t.2.2 (h.ms.drop t.1)=Ue 0 ms h.ms) (0, 0, ms) ⟨rfl, Qn _, rfl⟩ (Qd _) [] rfl (kps) (kps) ?_
  rintro ⟨k, i, ns⟩ ⟨hi, hk, hh⟩
  dsimp only at hi hk hh ⊢
  subst hi
  generalize Ue 0 ms h.ms=R0 at *
  refine bs.av (sx := sx3) Zer ?_
  have e3 := Zao h.ms
  by_cases hlt:k<h.ms.length
  · have e1 := Zpo hlt
    have hs := hnm _ (Qr hlt);have ha := Yn (res := ⟨Bo (Un h.ms[k].nm), []⟩) hs;rw [Qi hlt, Ue] at hh
    repeat'(first|refine wk1 ?_|(refine wk2 ?_ ?_<;>intro _)|fail)
    refine bs.sv (sx := sx3) Zer Tryz.func219 (by kernel_rfl) (by kernel_rfl) ?_
    repeat'(first|refine wk1 ?_|(refine wk2 ?_ ?_<;>intro _)|fail)
    refine bs.sv (sx := sx3) Zer Tryz.func163 (by kernel_rfl) (by kernel_rfl) ?_;refine Su 3 ?_;refine Qx (bs.av (sx := sx3) Zer ?_)
    repeat'(first|refine wk1 ?_|(refine wk2 ?_ ?_<;>intro _)|fail)
    refine bs.sv (sx := sx3) Zer Tryz.func220 (by kernel_rfl) (by kernel_rfl) ?_
    repeat'(first|refine wk1 ?_|(refine wk2 ?_ ?_<;>intro _)|fail)
    refine bs.sv (sx := sx3) Zer Tryz.func221 (by kernel_rfl) (by kernel_rfl) ?_
    repeat'(first|refine wk1 ?_|(refine wk2 ?_ ?_<;>intro _)|fail)
    all_goals try (refine Qx (bs.av (sx := sx3) Zer ?_))
    repeat'(first|refine wk1 ?_|(refine wk2 ?_ ?_<;>intro _)|fail)
    all_goals try (refine Qx (bs.av (sx := sx3) Zer ?_))
    repeat'(first|refine wk1 ?_|(refine wk2 ?_ ?_<;>intro _)|fail)
    all_goals (clear e1 ha e3)
    all_goals first
      | (have e:R0=((k:Int), 4, ns) := (by rw [<-hh]; clear hR hK hh; simp_all [Yf]; done)
         subst e; rw [hR (by simp)]; exact Ze rfl rfl)
      | (have e:R0=((k:Int), 5, ns) := (by rw [<-hh]; clear hR hK hh; simp_all [Yf]; done)
         subst e; rw [hR (by simp)]; exact Ze rfl rfl)
      | (have e:R0=((k:Int), Zbm h.ms[k], addK h.ms[k].nm ns) := (by rw [<-hh]; clear hR hK hh; simp_all [Yf]; done)
         subst e; rw [hR (by clear hR hK hh; simp_all; done)]; exact Ze rfl rfl)
      | exact Ql ⟨(k+1, _, addK h.ms[k].nm ns), [], rfl, kps, kps, ⟨Zg (by have := hf.1; omega), hlt, by rw [<-hh]; clear hR hK hh; simp_all [Yf]; done⟩, by dsimp only; omega⟩
      | (exfalso; clear hR hK hh; simp_all; done)
  · rw [Qk (by omega)] at hh
    repeat'(first|refine wk1 ?_|(refine wk2 ?_ ?_<;>intro _)|fail)
    subst hh;exact ⟨hK rfl _ _ (Wt [] rfl (kps) (kps))⟩
theorem Zq2 (l:List (Int × Int)):(l.map pt).length=l.length:=by simp
theorem Yjy {l:List (Int × Int)} {k:Nat} (h:k<l.length):(l.map pt)[((k:Nat):Int).toNat]?=some [I l[k].1,I l[k].2]:=by simp [h]
def Zin:Nat->List (Int × Int)->Int × Int
 | _,[]=>(0,0)
 | i,p::l=>if Zim p.1 p.2 then Zin (i+1) l else (i,2)
abbrev sx7:FuncId->Bool:=fun f=>Qp f 225||Qp f 218||Qp f 226
theorem it7 {h:Hal} (hf:h.few) {s:Set7} {ms su se:List ByteArray} {res:PRes} {K:Env->St->Prop} (hR:(Zin 0 h.cs).2≠0->res=⟨chkV (2,(Zin 0 h.cs).1,(Zin 0 h.cs).2),[]⟩)
  (hK:(Zin 0 h.cs).2=0->∀ e σ,Ren 98 e σ (Zat 8) ⟨Zt h s ms su se,98⟩->K e σ):It63 sx7 (kG7 h kG6) res 7 (Zt h s ms su se) K:=by
 unfold It63 Pc
 repeat'(first|refine wk0 ?_|(refine wk2 ?_ ?_<;>intro _)|fail)
 refine bs.sv (sx:=sx7) Vo Tryz.func225 (by kernel_rfl) (by kernel_rfl) ?_
 repeat'(first|refine wk0 ?_|(refine wk2 ?_ ?_<;>intro _)|fail)
 refine bs.sv (sx:=sx7) Vo Tryz.func218 (by kernel_rfl) (by kernel_rfl) ?_
 refine Zr (S:=Nat × Int) (fun t=>h.cs.length-t.1) (fun t=>[(1,.func 226 [] [.ptr 0 0 0]),(8,I (h.cs.map pt).length),(9,I t.2)]) (fun t=>(98,.row 2 [[I 2,.func 225 [] [.ptr 0 0 0]]] true false)::Zt h s ms su se) 99 99
  (fun t=>t.2=t.1/\t.1<=h.cs.length/\Zin t.1 (h.cs.drop t.1)=Zin 0 h.cs) (0,0) ⟨rfl,Qn _,rfl⟩ (Qd _) [] rfl (kps) (kps) ?_
 rintro ⟨k,i⟩ ⟨hi,hk,hh⟩
 dsimp only at hi hk hh ⊢
 subst hi
 generalize Zin 0 h.cs=R0 at *
 refine bs.av (sx:=sx7) Vo ?_
 have e3:=Zq2 h.cs
 by_cases hlt:k<h.cs.length
 ·have e1:=Yjy hlt
  rw [Qi hlt,Zin] at hh
  repeat'(first|refine wk1 ?_|(refine wk2 ?_ ?_<;>intro _)|fail)
  refine bs.sv (sx:=sx7) Vo Tryz.func226 (by kernel_rfl) (by kernel_rfl) ?_
  cases hcor:Zim h.cs[k].1 h.cs[k].2 with
  | false =>
   rw [hcor,if_neg (by simp)] at hh;subst hh
   repeat'(first|refine wk1 ?_|(refine wk2 ?_ ?_<;>intro _)|fail)
   ·rw [hR (by simp),hcor]; exact Ze rfl rfl
   all_goals (exfalso; clear hR hK; simp_all [unl]; done)
  | true =>
   rw [hcor,if_pos rfl] at hh
   repeat'(first|refine wk1 ?_|(refine wk2 ?_ ?_<;>intro _)|fail)
   ·exfalso; clear hR hK hh; simp_all [unl]; done
   ·exfalso; clear hR hK hh; simp_all [unl]; done
   ·exact Ql ⟨(k+1,_),[],rfl,kps,kps,⟨Zg (by have:=hf.2.1; omega),hlt,hh⟩,by dsimp only; omega⟩
 ·rw [Qk (by omega)] at hh
  repeat'(first|refine wk1 ?_|(refine wk2 ?_ ?_<;>intro _)|fail)
  subst hh
  exact ⟨hK rfl _ _ (Wt [] rfl (kps) (kps))⟩
theorem Yhh {h:Hal} (hf:h.few) {k:Nat} (hk:k<h.cs.length):PCall Tryz.prog 230 [h.av,I k] ⟨(wlOf h.cs k).av,[]⟩:=by
 have e1:=Zfx hk
 have e2:=Zfx (ps:=h.cs) (i:=(k+1)%h.cs.length) (Pn _ (by omega))
 have e3:(h.cs.map pt).length=h.cs.length:=by simp
 exact c145 (by rw [e3]; exact hf.2.1) e1 (by rw [e3]; exact e2)
theorem Yh (l:List Wal):(l.map Wal.av).length=l.length:=by simp
theorem Zis {l:List Wal} {k:Nat} (h:k<l.length):(l.map Wal.av)[((k:Nat):Int).toNat]?=some (Wal.av l[k]):=by simp [h]
def Zeo (w:Wl):Int:=if decide (w.fx=w.tx)&&decide (w.fy=w.ty) then 11 else if w.straight then 0 else 15
def Zw6 (L:Wl) (ms:List ByteArray) (w:Wal):Int:=if Ug w.mt ms&&((w.cu==⟨#[]⟩)||Ug w.cu ms) then Zeo L else 6
def wErr (cs:List (Int × Int)) (ms:List ByteArray) (i:Nat) (w:Wal):Int:=Zw6 (wlOf cs i) ms w
theorem Zxr {l k E:Int} {R0:Int × Int × List ByteArray} {res:PRes} {σ:St} (hR:R0.2.1≠0->res=⟨chkV (l,R0.1,R0.2.1),[]⟩) (h1:R0.1=k) (h2:R0.2.1=E) (h3:E≠0):Ret res (.tup [.agg [I l,I k],I E]) σ:=by
 rw [hR (by rw [h2]; exact h3),h1,h2]; exact Ze rfl rfl
def Zd4 (cs:List (Int × Int)) (ms:List ByteArray):Nat->List ByteArray->List Wal->Int × Int × List ByteArray
 | _,ns,[]=>(0,0,ns)
 | i,ns,w::l=>if Yf w.nm ns=0 then (if wErr cs ms i w=0 then Zd4 cs ms (i+1) (addK w.nm ns) l else (i,wErr cs ms i w,addK w.nm ns)) else (i,Yf w.nm ns,ns)
abbrev sx8:FuncId->Bool:=fun f=>Qp f 228||Qp f 218||Qp f 229||Qp f 221
theorem it8 {h:Hal} (hf:h.few) (hnm:∀ m∈h.ws,m.nm.data.toList.length<100000) (hwc:h.ws.length<=h.cs.length) {s:Set7} {ms su se:List ByteArray} {res:PRes} {K:Env->St->Prop} (hR:(Zd4 h.cs ms 0 su h.ws).2.1≠0->res=⟨chkV (3,(Zd4 h.cs ms 0 su h.ws).1,(Zd4 h.cs ms 0 su h.ws).2.1),[]⟩)
  (hK:(Zd4 h.cs ms 0 su h.ws).2.1=0->∀ e σ,Ren 98 e σ (Zat 9) ⟨Zt h s ms (Zd4 h.cs ms 0 su h.ws).2.2 se,98⟩->K e σ):It63 sx8 (kG7 h kG6) res 8 (Zt h s ms su se) K:=by
 unfold It63 Pc
 repeat'(first|refine wk0 ?_|(refine wk2 ?_ ?_<;>intro _)|fail)
 refine bs.sv (sx:=sx8) Vo Tryz.func228 (by kernel_rfl) (by kernel_rfl) ?_
 repeat'(first|refine wk0 ?_|(refine wk2 ?_ ?_<;>intro _)|fail)
 refine bs.sv (sx:=sx8) Vo Tryz.func218 (by kernel_rfl) (by kernel_rfl) ?_
 refine Zr (S:=Nat × Int × List ByteArray) (fun t=>h.ws.length-t.1) (fun t=>[(1,.func 229 [] [.ptr 0 0 0,.ptr 2 0 0,.ptr 7 0 0,.ptr 6 0 0]),(8,I (h.ws.map Wal.av).length),(9,I t.2.1)]) (fun t=>(98,.row 2 [[I 3,.func 228 [] [.ptr 0 0 0,.ptr 2 0 0,.ptr 7 0 0,.ptr 6 0 0]]] true false)::Zt h s ms t.2.2 se) 99 99
  (fun t=>t.2.1=t.1/\t.1<=h.ws.length/\Zd4 h.cs ms t.1 t.2.2 (h.ws.drop t.1)=Zd4 h.cs ms 0 su h.ws) (0,0,su) ⟨rfl,Qn _,rfl⟩ (Qd _) [] rfl (kps) (kps) ?_
 rintro ⟨k,i,ns⟩ ⟨hi,hk,hh⟩
 dsimp only at hi hk hh ⊢
 subst hi
 generalize Zd4 h.cs ms 0 su h.ws=R0 at *
 have e3:=Yh h.ws
 by_cases hlt:k<h.ws.length
 ·have e1:=Zis hlt
  have hs:=hnm _ (Qr hlt)
  have ha:=Yn (res:=⟨Bo (Un h.ws[k].nm),[]⟩) hs
  have hk2:=Zd (Yhh hf (show k<h.cs.length by omega)) Vo
  rw [Qi hlt,Zd4] at hh
  unfold wErr at hh
  generalize wlOf h.cs k=L at *
  obtain ⟨ln,la,lb,lc,ld⟩:=L
  refine bs.av (sx:=sx8) hk2 ?_
  repeat'(first|refine wk1 ?_|(refine wk2 ?_ ?_<;>intro _)|fail)
  refine bs.sv (sx:=sx8) hk2 Tryz.func229 (by kernel_rfl) (by kernel_rfl) ?_
  repeat'(first|refine wk1 ?_|(refine wk2 ?_ ?_<;>intro _)|fail)
  refine bs.sv (sx:=sx8) hk2 Tryz.func221 (by kernel_rfl) (by kernel_rfl) ?_
  repeat'(first|refine wk1 ?_|(refine wk2 ?_ ?_<;>intro _)|fail)
  all_goals (clear e1 ha e3 hk2)
  all_goals first
   | exact Zxr hR (by rw [<-hh]; clear hR hK hh; by_cases hla:la=lc<;>by_cases hlb:lb=ld<;>simp_all [Yf,Zw6,Zeo]; done) (by rw [<-hh]; clear hR hK hh; by_cases hla:la=lc<;>by_cases hlb:lb=ld<;>simp_all [Yf,Zw6,Zeo]; done) (by decide)
   | exact Ql ⟨(k+1,_,addK h.ws[k].nm ns),[],rfl,kps,kps,⟨Zg (by have:=hf.2.2.1; omega),hlt,by rw [<-hh]; clear hR hK hh; by_cases hla:la=lc<;>by_cases hlb:lb=ld<;>simp_all [Yf,Zw6,Zeo]; done⟩,by dsimp only; omega⟩
   | (exfalso; clear hR hK hh; simp_all; done)
 ·rw [Qk (by omega)] at hh
  refine bs.av (sx:=sx8) Vo ?_
  repeat'(first|refine wk1 ?_|(refine wk2 ?_ ?_<;>intro _)|fail)
  subst hh
  exact ⟨hK rfl _ _ (Wt [] rfl (kps) (kps))⟩
theorem Xd (l:List Can):(l.map Can.av).length=l.length:=by simp
theorem Zbu {l:List Can} {k:Nat} (h:k<l.length):(l.map Can.av)[((k:Nat):Int).toNat]?=some (Can.av l[k]):=by simp [h]
def cErr (h:Hal) (ms:List ByteArray) (c:Can):Int:=if Ug c.mt ms then Zht h c else 6
def Zhs (h:Hal) (ms:List ByteArray):Nat->List ByteArray->List Can->Int × Int × List ByteArray
 | _,ns,[]=>(0,0,ns)
 | i,ns,c::l=>if Yf c.nm ns=0 then (if cErr h ms c=0 then Zhs h ms (i+1) (addK c.nm ns) l else (i,cErr h ms c,addK c.nm ns)) else (i,Yf c.nm ns,ns)
abbrev sx12:FuncId->Bool:=fun f=>Qp f 235||Qp f 218||Qp f 236||Qp f 163||Qp f 237||Qp f 221||Qp f 238||Qp f 239
theorem Zdb {l k E:Int} {R0:Int × Int × List ByteArray} {res:PRes} {σ:St} (hR:R0.2.1≠0->res=⟨chkV (l,R0.1,R0.2.1),[]⟩) (h1:R0.1=k/\R0.2.1=E) (h3:E≠0):Ret res (.tup [.agg [I l,I k],I E]) σ:=Zxr hR h1.1 h1.2 h3
theorem it12 {h:Hal} (hf:h.few) (hnm:∀ m∈h.ks,m.nm.data.toList.length<100000) {s:Set7} {ms su se:List ByteArray} {res:PRes} {K:Env->St->Prop} (hR:(Zhs h ms 0 su h.ks).2.1≠0->res=⟨chkV (4,(Zhs h ms 0 su h.ks).1,(Zhs h ms 0 su h.ks).2.1),[]⟩)
  (hK:(Zhs h ms 0 su h.ks).2.1=0->∀ e σ,Ren 98 e σ (Zat 13) ⟨Zt h s ms (Zhs h ms 0 su h.ks).2.2 se,98⟩->K e σ):It63 sx12 (kG7 h kG6) res 12 (Zt h s ms su se) K:=by
 unfold It63 Pc
 repeat'(first|refine wk0 ?_|(refine wk2 ?_ ?_<;>intro _)|fail)
 refine bs.sv (sx:=sx12) Vo Tryz.func235 (by kernel_rfl) (by kernel_rfl) ?_
 repeat'(first|refine wk0 ?_|(refine wk2 ?_ ?_<;>intro _)|fail)
 refine bs.sv (sx:=sx12) Vo Tryz.func218 (by kernel_rfl) (by kernel_rfl) ?_
 refine Zr (S:=Nat × Int × List ByteArray) (fun t=>h.ks.length-t.1) (fun t=>[(1,.func 236 [] [.ptr 0 0 0,.ptr 7 0 0,.ptr 6 0 0,.ptr 2 0 0]),(8,I (h.ks.map Can.av).length),(9,I t.2.1)]) (fun t=>(98,.row 2 [[I 4,.func 235 [] [.ptr 0 0 0,.ptr 7 0 0,.ptr 6 0 0,.ptr 2 0 0]]] true false)::Zt h s ms t.2.2 se) 99 99
  (fun t=>t.2.1=t.1/\t.1<=h.ks.length/\Zhs h ms t.1 t.2.2 (h.ks.drop t.1)=Zhs h ms 0 su h.ks) (0,0,su) ⟨rfl,Qn _,rfl⟩ (Qd _) [] rfl (kps) (kps) ?_
 rintro ⟨k,i,ns⟩ ⟨hi,hk,hh⟩
 dsimp only at hi hk hh ⊢
 subst hi
 generalize Zhs h ms 0 su h.ks=R0 at *
 have e3:=Xd h.ks
 by_cases hlt:k<h.ks.length
 ·have e1:=Zbu hlt
  have hs:=hnm _ (Qr hlt)
  have ha:=Yn (res:=⟨Bo (Un h.ks[k].nm),[]⟩) hs
  have hk2:=Zd (c155 hf h.ks[k] (hf.2.2.2.2.2 _ (Qr hlt))) Vo
  rw [Qi hlt,Zhs] at hh
  generalize hce:Zht h h.ks[k]=ce at *
  refine bs.av (sx:=sx12) hk2 ?_
  repeat'(first|refine wk1 ?_|(refine wk2 ?_ ?_<;>intro _)|fail)
  refine bs.sv (sx:=sx12) hk2 Tryz.func236 (by kernel_rfl) (by kernel_rfl) ?_
  repeat'(first|refine wk1 ?_|(refine wk2 ?_ ?_<;>intro _)|fail)
  refine bs.sv (sx:=sx12) hk2 Tryz.func163 (by kernel_rfl) (by kernel_rfl) ?_
  refine Su 4 ?_
  refine Qx (bs.av (sx:=sx12) hk2 ?_)
  repeat'(first|refine wk1 ?_|(refine wk2 ?_ ?_<;>intro _)|fail)
  refine bs.sv (sx:=sx12) hk2 Tryz.func237 (by kernel_rfl) (by kernel_rfl) ?_
  repeat'(first|refine wk1 ?_|(refine wk2 ?_ ?_<;>intro _)|fail)
  refine bs.sv (sx:=sx12) hk2 Tryz.func221 (by kernel_rfl) (by kernel_rfl) ?_
  repeat'(first|refine wk1 ?_|(refine wk2 ?_ ?_<;>intro _)|fail)
  ·exact Zdb hR (by rw [<-hh]; clear hR hK hh hk2 ha e1 e3; simp_all [Yf]; done) (by decide)
  ·exact Zdb hR (by rw [<-hh]; clear hR hK hh hk2 ha e1 e3; simp_all [Yf]; done) (by decide)
  refine Qx (bs.av (sx:=sx12) hk2 ?_)
  repeat'(first|refine wk1 ?_|(refine wk2 ?_ ?_<;>intro _)|fail)
  refine bs.sv (sx:=sx12) hk2 Tryz.func238 (by kernel_rfl) (by kernel_rfl) ?_
  have hadd:Yf h.ks[k].nm ns=0:=by clear hR hK hh hk2 ha e1 e3; simp_all [Yf]; done
  rw [hadd,if_pos rfl,cErr,hce] at hh
  cases hel:Ug h.ks[k].mt ms with
  | false =>
   rw [hel,if_neg (by simp),if_neg (by decide)] at hh;subst hh
   repeat'(first|refine wk1 ?_|(refine wk2 ?_ ?_<;>intro _)|fail)
   ·rw [hel]; exact Zdb hR ⟨rfl,rfl⟩ (by decide)
   all_goals (exfalso; clear hR hK hk2 ha e1 e3; simp_all [unl]; done)
  | true =>
   rw [hel,if_pos rfl] at hh
   repeat'(first|refine wk1 ?_|(refine wk2 ?_ ?_<;>intro _)|fail)
   all_goals try (exfalso; clear hR hK hh hk2 ha e1 e3; simp_all [unl]; done)
   refine Qx (bs.av (sx:=sx12) hk2 ?_)
   repeat'(first|refine wk1 ?_|(refine wk2 ?_ ?_<;>intro _)|fail)
   refine bs.sv (sx:=sx12) hk2 Tryz.func239 (by kernel_rfl) (by kernel_rfl) ?_
   by_cases hz:ce=0
   ·subst hz
    rw [if_pos rfl] at hh
    repeat'(first|refine wk1 ?_|(refine wk2 ?_ ?_<;>intro _)|fail)
    all_goals try (refine Qx (bs.av (sx:=sx12) hk2 ?_))
    repeat'(first|refine wk1 ?_|(refine wk2 ?_ ?_<;>intro _)|fail)
    exact Ql ⟨(k+1,_,addK h.ks[k].nm ns),[],rfl,kps,kps,⟨Zg (by have:=hf.2.2.2.1; omega),hlt,hh⟩,by dsimp only; omega⟩
   ·rw [if_neg hz] at hh
    subst hh
    repeat'(first|refine wk1 ?_|(refine wk2 ?_ ?_<;>intro _)|fail)
    ·exact Zdb hR ⟨rfl,rfl⟩ hz
    all_goals (exfalso; clear hR hK hk2 ha e1 e3; simp_all; done)
 ·rw [Qk (by omega)] at hh
  refine bs.av (sx:=sx12) Vo ?_
  repeat'(first|refine wk1 ?_|(refine wk2 ?_ ?_<;>intro _)|fail)
  subst hh
  exact ⟨hK rfl _ _ (Wt [] rfl (kps) (kps))⟩
theorem Zef (l:List Sea):(l.map Sea.av).length=l.length:=by simp
theorem Ztr {l:List Sea} {k:Nat} (h:k<l.length):(l.map Sea.av)[((k:Nat):Int).toNat]?=some (Sea.av l[k]):=by simp [h]
def Zf2 (h:Hal):Nat->List ByteArray->List Sea->Int × Int × List ByteArray
 | _,ns,[]=>(0,0,ns)
 | i,ns,c::l=>if Yf c.nm ns=0 then (if Znv h c.x c.y c.z=0 then Zf2 h (i+1) (addK c.nm ns) l else (i,Znv h c.x c.y c.z,addK c.nm ns)) else (i,Yf c.nm ns,ns)
abbrev sx14:FuncId->Bool:=fun f=>Qp f 241||Qp f 218||Qp f 242||Qp f 163||Qp f 243||Qp f 221||Qp f 244
theorem it14 {h:Hal} (hf:h.few) (hnm:∀ m∈h.ss,m.nm.data.toList.length<100000) {s:Set7} {ms su se:List ByteArray} {res:PRes} {K:Env->St->Prop} (hR:(Zf2 h 0 se h.ss).2.1≠0->res=⟨chkV (5,(Zf2 h 0 se h.ss).1,(Zf2 h 0 se h.ss).2.1),[]⟩)
  (hK:(Zf2 h 0 se h.ss).2.1=0->∀ e σ,Ren 98 e σ (Zat 15) ⟨Zt h s ms su (Zf2 h 0 se h.ss).2.2,98⟩->K e σ):It63 sx14 (kG7 h kG6) res 14 (Zt h s ms su se) K:=by
 unfold It63 Pc
 repeat'(first|refine wk0 ?_|(refine wk2 ?_ ?_<;>intro _)|fail)
 refine bs.sv (sx:=sx14) Vo Tryz.func241 (by kernel_rfl) (by kernel_rfl) ?_
 repeat'(first|refine wk0 ?_|(refine wk2 ?_ ?_<;>intro _)|fail)
 refine bs.sv (sx:=sx14) Vo Tryz.func218 (by kernel_rfl) (by kernel_rfl) ?_
 refine Zr (S:=Nat × Int × List ByteArray) (fun t=>h.ss.length-t.1) (fun t=>[(1,.func 242 [] [.ptr 0 0 0,.ptr 8 0 0,.ptr 2 0 0]),(8,I (h.ss.map Sea.av).length),(9,I t.2.1)]) (fun t=>(98,.row 2 [[I 5,.func 241 [] [.ptr 0 0 0,.ptr 8 0 0,.ptr 2 0 0]]] true false)::Zt h s ms su t.2.2) 99 99
  (fun t=>t.2.1=t.1/\t.1<=h.ss.length/\Zf2 h t.1 t.2.2 (h.ss.drop t.1)=Zf2 h 0 se h.ss) (0,0,se) ⟨rfl,Qn _,rfl⟩ (Qd _) [] rfl (kps) (kps) ?_
 rintro ⟨k,i,ns⟩ ⟨hi,hk,hh⟩
 dsimp only at hi hk hh ⊢
 subst hi
 generalize Zf2 h 0 se h.ss=R0 at *
 have e3:=Zef h.ss
 by_cases hlt:k<h.ss.length
 ·have e1:=Ztr hlt
  have hs:=hnm _ (Qr hlt)
  have ha:=Yn (res:=⟨Bo (Un h.ss[k].nm),[]⟩) hs
  have hk2:=Zd (c160 hf h.ss[k].x h.ss[k].y h.ss[k].z) Vo
  rw [Qi hlt,Zf2] at hh
  generalize hce:Znv h h.ss[k].x h.ss[k].y h.ss[k].z=ce at *
  refine bs.av (sx:=sx14) hk2 ?_
  repeat'(first|refine wk1 ?_|(refine wk2 ?_ ?_<;>intro _)|fail)
  refine bs.sv (sx:=sx14) hk2 Tryz.func242 (by kernel_rfl) (by kernel_rfl) ?_
  repeat'(first|refine wk1 ?_|(refine wk2 ?_ ?_<;>intro _)|fail)
  refine bs.sv (sx:=sx14) hk2 Tryz.func163 (by kernel_rfl) (by kernel_rfl) ?_
  refine Su 3 ?_
  refine Qx (bs.av (sx:=sx14) hk2 ?_)
  repeat'(first|refine wk1 ?_|(refine wk2 ?_ ?_<;>intro _)|fail)
  refine bs.sv (sx:=sx14) hk2 Tryz.func243 (by kernel_rfl) (by kernel_rfl) ?_
  repeat'(first|refine wk1 ?_|(refine wk2 ?_ ?_<;>intro _)|fail)
  refine bs.sv (sx:=sx14) hk2 Tryz.func221 (by kernel_rfl) (by kernel_rfl) ?_
  repeat'(first|refine wk1 ?_|(refine wk2 ?_ ?_<;>intro _)|fail)
  ·exact Zdb hR (by rw [<-hh]; clear hR hK hh hk2 ha e1 e3; simp_all [Yf]; done) (by decide)
  ·exact Zdb hR (by rw [<-hh]; clear hR hK hh hk2 ha e1 e3; simp_all [Yf]; done) (by decide)
  refine Qx (bs.av (sx:=sx14) hk2 ?_)
  repeat'(first|refine wk1 ?_|(refine wk2 ?_ ?_<;>intro _)|fail)
  refine bs.sv (sx:=sx14) hk2 Tryz.func244 (by kernel_rfl) (by kernel_rfl) ?_
  have hadd:Yf h.ss[k].nm ns=0:=by clear hR hK hh hk2 ha e1 e3; simp_all [Yf]; done
  rw [hadd,if_pos rfl] at hh
  by_cases hz:ce=0
  ·subst hz
   rw [if_pos rfl] at hh
   repeat'(first|refine wk1 ?_|(refine wk2 ?_ ?_<;>intro _)|fail)
   all_goals try (refine Qx (bs.av (sx:=sx14) hk2 ?_))
   repeat'(first|refine wk1 ?_|(refine wk2 ?_ ?_<;>intro _)|fail)
   exact Ql ⟨(k+1,_,addK h.ss[k].nm ns),[],rfl,kps,kps,⟨Zg (by have:=hf.2.2.2.2.1; omega),hlt,hh⟩,by dsimp only; omega⟩
  ·rw [if_neg hz] at hh
   subst hh
   repeat'(first|refine wk1 ?_|(refine wk2 ?_ ?_<;>intro _)|fail)
   ·exact Zdb hR ⟨rfl,rfl⟩ hz
   all_goals (exfalso; clear hR hK hk2 ha e1 e3; simp_all; done)
 ·rw [Qk (by omega)] at hh
  refine bs.av (sx:=sx14) Vo ?_
  repeat'(first|refine wk1 ?_|(refine wk2 ?_ ?_<;>intro _)|fail)
  subst hh
  exact ⟨hK rfl _ _ (Wt [] rfl (kps) (kps))⟩
end Go.Proofs.YtfkdpbklbegnlaaGreat
