/- A part of the proof: lemmas. -/
import Derived.Test.YtdmidbkelinnjaaGreatA3
import Derived.Test.YtdmidbkelinnjaaGreatA6
import Derived.IntWalk
import Derived.KernelRfl
import Derived.Test.YtdmidbkelinnjaaGreatProg
set_option linter.unusedVariables false
set_option linter.unusedSimpArgs false
set_option maxRecDepth 100000
set_option maxHeartbeats 16000000
open And renaming intro->Jd
open Bool renaming and_eq_true->Qc
open Go.IntKind renaming i64->Qb,wrap->Qa
open Go.IntWalk renaming i64_in->Mi
open Go.Sx.Base renaming vcode->Wk
open Go.Sx.Br renaming intro->Tj
open Go.Sx.Done renaming mk->Qo
open Go.Sx.Dr renaming intro->Dm
open Go.Sx.Got renaming intro->Sk
open Go.Sx.LpM renaming start->Wp,succ->Rp
open Go.Sx.Ren renaming of->Ty
open Go.Sx.Rg renaming ren->Gg
open Int renaming not_lt->Mr
open List renaming drop_eq_getElem_cons->Qi,drop_of_length_le->Qj,getElem_mem->Qs,map_cons->Sz,range->Tg
open List.cons renaming injEq->Rb
open Nat renaming beq->Ql,blt->Wf,blt_eq->Sd,eq_of_beq_eq_true->Qf,le_refl->Qd,mod_lt->Pz,zero_le->Qm
open Option.some renaming injEq->Qe
namespace Go.Proofs.YtdmidbkelinnjaaGreat
open Go Go.Sx
noncomputable def tbl:List (Nat × TI) :=
  [(2, ⟨.int .i64, 1, 8, false, [.int .i64 0]⟩),
   (3, ⟨.int .i64, 1, 8, false, [.int .i64 0]⟩),
   (4, ⟨.bool, 1, 1, false, [.bool false]⟩),
   (5, ⟨.int .u8, 1, 1, false, [.int .u8 0]⟩),
   (6, ⟨.int .u8, 1, 1, false, [.int .u8 0]⟩),
   (8, ⟨.struct #[⟨ "x", 2, 0, false, "", "runtime", 0⟩, ⟨ "y", 3, 1, false, "", "runtime", 8⟩, ⟨ "signed", 4, 2, false, "", "runtime", 16⟩, ⟨ "code", 6, 3, false, "", "runtime", 17⟩], 4, 24, true, [.int .i64 0, .int .i64 0, .bool false, .int .u8 0]⟩),
   (9, ⟨.string, 1, 16, false, [.str ⟨#[]⟩]⟩),
   (10, ⟨.string, 1, 16, false, [.str ⟨#[]⟩]⟩),
   (11, ⟨.string, 1, 16, false, [.str ⟨#[]⟩]⟩),
   (12, ⟨.int .u64, 1, 8, false, [.int .u64 0]⟩),
   (14, ⟨.struct #[⟨ "msg", 9, 0, false, "", "runtime", 0⟩, ⟨ "addr", 12, 1, false, "", "runtime", 16⟩], 2, 24, true, [.str ⟨#[]⟩, .int .u64 0]⟩),
   (15, ⟨.pointer 264, 1, 8, false, [.nilp]⟩),
   (16, ⟨.pointer 267, 1, 8, false, [.nilp]⟩),
   (17, ⟨.pointer 275, 1, 8, false, [.nilp]⟩),
   (19, ⟨.struct #[⟨ "typ", 17, 0, false, "", "internal/runtime/maps", 0⟩], 1, 8, true, [.nilp]⟩),
   (22, ⟨.slice 101, 1, 24, false, [.nils]⟩),
   (23, ⟨.slice 62, 1, 24, false, [.nils]⟩),
   (24, ⟨.slice 103, 1, 24, false, [.nils]⟩),
   (25, ⟨.slice 84, 1, 24, false, [.nils]⟩),
   (26, ⟨.slice 45, 1, 24, false, [.nils]⟩),
   (28, ⟨.struct #[⟨ "Name", 9, 0, false, "", "", 0⟩, ⟨ "Height", 3, 1, false, "", "", 16⟩, ⟨ "Floor", 9, 2, false, "", "", 24⟩, ⟨ "Ceiling", 9, 3, false, "", "", 40⟩, ⟨ "Materials", 22, 4, false, "", "", 56⟩, ⟨ "Corners", 23, 5, false, "", "", 80⟩, ⟨ "Walls", 24, 6, false, "", "", 104⟩, ⟨ "Canopies", 25, 7, false, "", "", 128⟩, ⟨ "Seats", 26, 8, false, "", "", 152⟩], 9, 176, true, [.str ⟨#[]⟩, .int .i64 0, .str ⟨#[]⟩, .str ⟨#[]⟩, .nils, .nils, .nils, .nils, .nils]⟩),
   (29, ⟨.slice 3, 1, 24, false, [.nils]⟩),
   (31, ⟨.struct #[⟨ "Heights", 29, 0, false, "", "", 0⟩, ⟨ "Drawn", 29, 1, false, "", "", 24⟩], 2, 48, true, [.nils, .nils]⟩),
   (33, ⟨.struct #[⟨ "Hall", 28, 0, false, "", "", 0⟩, ⟨ "Setting", 31, 9, false, "", "", 176⟩], 11, 224, true, [.str ⟨#[]⟩, .int .i64 0, .str ⟨#[]⟩, .str ⟨#[]⟩, .nils, .nils, .nils, .nils, .nils, .nils, .nils]⟩),
   (35, ⟨.struct #[⟨ "X", 3, 0, false, "", "", 0⟩, ⟨ "Y", 3, 1, false, "", "", 8⟩, ⟨ "Z", 3, 2, false, "", "", 16⟩], 3, 24, true, [.int .i64 0, .int .i64 0, .int .i64 0]⟩),
   (36, ⟨.func #[] #[4] false, 1, 8, false, [.any]⟩),
   (39, ⟨.int .i64, 1, 8, false, [.int .i64 0]⟩),
   (45, ⟨.struct #[⟨ "Name", 9, 0, false, "", "", 0⟩, ⟨ "At", 35, 1, false, "", "", 16⟩], 4, 40, true, [.str ⟨#[]⟩, .int .i64 0, .int .i64 0, .int .i64 0]⟩),
   (47, ⟨.slice 54, 1, 24, false, [.nils]⟩),
   (51, ⟨.struct #[⟨ "From", 35, 0, false, "", "", 0⟩, ⟨ "To", 35, 3, false, "", "", 24⟩, ⟨ "Order", 3, 6, false, "", "", 48⟩], 7, 56, true, [.int .i64 0, .int .i64 0, .int .i64 0, .int .i64 0, .int .i64 0, .int .i64 0, .int .i64 0]⟩),
   (52, ⟨.slice 71, 1, 24, false, [.nils]⟩),
   (54, ⟨.struct #[⟨ "Surfaces", 29, 0, false, "", "", 0⟩, ⟨ "Points", 52, 1, false, "", "", 24⟩, ⟨ "Square", 3, 2, false, "", "", 48⟩], 3, 56, true, [.nils, .nils, .int .i64 0]⟩),
   (62, ⟨.struct #[⟨ "X", 3, 0, false, "", "", 0⟩, ⟨ "Y", 3, 1, false, "", "", 8⟩], 2, 16, true, [.int .i64 0, .int .i64 0]⟩),
   (63, ⟨.struct #[⟨ "X", 3, 0, false, "", "", 0⟩, ⟨ "Y", 3, 1, false, "", "", 8⟩], 2, 16, true, [.int .i64 0, .int .i64 0]⟩),
   (71, ⟨.struct #[⟨ "X", 3, 0, false, "", "", 0⟩, ⟨ "Y", 3, 1, false, "", "", 8⟩, ⟨ "Z", 3, 2, false, "", "", 16⟩, ⟨ "Den", 3, 3, false, "", "", 24⟩], 4, 32, true, [.int .i64 0, .int .i64 0, .int .i64 0, .int .i64 0]⟩),
   (74, ⟨.struct #[⟨ "Hall", 28, 0, true, "", "", 0⟩], 9, 176, true, [.str ⟨#[]⟩, .int .i64 0, .str ⟨#[]⟩, .str ⟨#[]⟩, .nils, .nils, .nils, .nils, .nils]⟩),
   (76, ⟨.struct #[⟨ "room", 74, 0, true, "", "shoebox/hall", 0⟩, ⟨ "HallSetting", 31, 9, true, "", "", 176⟩], 11, 224, true, [.str ⟨#[]⟩, .int .i64 0, .str ⟨#[]⟩, .str ⟨#[]⟩, .nils, .nils, .nils, .nils, .nils, .nils, .nils]⟩),
   (82, ⟨.struct #[⟨ "From", 71, 0, false, "", "", 0⟩, ⟨ "To", 71, 4, false, "", "", 32⟩], 8, 64, true, [.int .i64 0, .int .i64 0, .int .i64 0, .int .i64 0, .int .i64 0, .int .i64 0, .int .i64 0, .int .i64 0]⟩),
   (84, ⟨.struct #[⟨ "Name", 9, 0, false, "", "", 0⟩, ⟨ "Material", 9, 1, false, "", "", 16⟩, ⟨ "From", 62, 2, false, "", "", 32⟩, ⟨ "To", 62, 4, false, "", "", 48⟩, ⟨ "Heights", 29, 6, false, "", "", 64⟩], 7, 88, true, [.str ⟨#[]⟩, .str ⟨#[]⟩, .int .i64 0, .int .i64 0, .int .i64 0, .int .i64 0, .nils]⟩),
   (87, ⟨.slice 9, 1, 24, false, [.nils]⟩),
   (91, ⟨.struct #[⟨ "Hall", 28, 0, true, "", "", 0⟩, ⟨ "setting", 31, 9, false, "", "shoebox/image", 176⟩], 11, 224, true, [.str ⟨#[]⟩, .int .i64 0, .str ⟨#[]⟩, .str ⟨#[]⟩, .nils, .nils, .nils, .nils, .nils, .nils, .nils]⟩),
   (92, ⟨.func #[144] #[] false, 1, 8, false, [.any]⟩),
   (97, ⟨.func #[54, 54] #[3] false, 1, 8, false, [.any]⟩),
   (99, ⟨.array 4 3, 4, 32, true, [.int .i64 0, .int .i64 0, .int .i64 0, .int .i64 0]⟩),
   (101, ⟨.struct #[⟨ "Name", 9, 0, false, "", "", 0⟩, ⟨ "Absorbed", 99, 1, false, "", "", 16⟩, ⟨ "Scattered", 3, 5, false, "", "", 48⟩], 6, 56, true, [.str ⟨#[]⟩, .int .i64 0, .int .i64 0, .int .i64 0, .int .i64 0, .int .i64 0]⟩),
   (103, ⟨.struct #[⟨ "Name", 9, 0, false, "", "", 0⟩, ⟨ "Material", 9, 1, false, "", "", 16⟩, ⟨ "Curtain", 9, 2, false, "", "", 32⟩], 3, 48, true, [.str ⟨#[]⟩, .str ⟨#[]⟩, .str ⟨#[]⟩]⟩),
   (108, ⟨.func #[3] #[39] false, 1, 8, false, [.any]⟩),
   (109, ⟨.struct #[⟨ "Hall", 28, 0, true, "", "", 0⟩], 9, 176, true, [.str ⟨#[]⟩, .int .i64 0, .str ⟨#[]⟩, .str ⟨#[]⟩, .nils, .nils, .nils, .nils, .nils]⟩),
   (111, ⟨.struct #[⟨ "x", 3, 0, false, "", "shoebox/image", 0⟩, ⟨ "y", 3, 1, false, "", "shoebox/image", 8⟩], 2, 16, true, [.int .i64 0, .int .i64 0]⟩),
   (114, ⟨.struct #[⟨ "at", 62, 0, false, "", "shoebox/image", 0⟩, ⟨ "way", 111, 2, false, "", "shoebox/image", 16⟩, ⟨ "last", 3, 4, false, "", "shoebox/image", 32⟩], 5, 40, true, [.int .i64 0, .int .i64 0, .int .i64 0, .int .i64 0, .int .i64 0]⟩),
   (116, ⟨.struct #[⟨ "num", 3, 0, false, "", "shoebox/image", 0⟩, ⟨ "den", 3, 1, false, "", "shoebox/image", 8⟩], 2, 16, true, [.int .i64 0, .int .i64 0]⟩),
   (118, ⟨.struct #[⟨ "share", 116, 0, true, "", "shoebox/image", 0⟩, ⟨ "wall", 3, 2, false, "", "shoebox/image", 16⟩, ⟨ "well", 4, 3, false, "", "shoebox/image", 24⟩], 4, 32, true, [.int .i64 0, .int .i64 0, .int .i64 0, .bool false]⟩),
   (123, ⟨.struct #[⟨ "List", 3, 0, false, "", "", 0⟩, ⟨ "Number", 3, 1, false, "", "", 8⟩], 2, 16, true, [.int .i64 0, .int .i64 0]⟩),
   (133, ⟨.struct #[⟨ "from", 71, 0, false, "", "shoebox/hall", 0⟩, ⟨ "to", 71, 4, false, "", "shoebox/hall", 32⟩], 8, 64, true, [.int .i64 0, .int .i64 0, .int .i64 0, .int .i64 0, .int .i64 0, .int .i64 0, .int .i64 0, .int .i64 0]⟩),
   (136, ⟨.struct #[⟨ "number", 3, 0, false, "", "shoebox/hall", 0⟩, ⟨ "from", 62, 1, false, "", "shoebox/hall", 8⟩, ⟨ "to", 62, 3, false, "", "shoebox/hall", 24⟩], 5, 40, true, [.int .i64 0, .int .i64 0, .int .i64 0, .int .i64 0, .int .i64 0]⟩),
   (137, ⟨.func #[136] #[4] false, 1, 8, false, [.any]⟩),
   (144, ⟨.func #[29] #[4] false, 1, 8, false, [.any]⟩),
   (145, ⟨.slice 35, 1, 24, false, [.nils]⟩),
   (150, ⟨.struct #[⟨ "Surface", 3, 0, false, "", "", 0⟩, ⟨ "From", 35, 1, false, "", "", 8⟩, ⟨ "To", 71, 4, false, "", "", 32⟩], 8, 64, true, [.int .i64 0, .int .i64 0, .int .i64 0, .int .i64 0, .int .i64 0, .int .i64 0, .int .i64 0, .int .i64 0]⟩),
   (157, ⟨.int .u64, 1, 8, false, [.int .u64 0]⟩),
   (163, ⟨.slice 39, 1, 24, false, [.nils]⟩),
   (173, ⟨.struct #[⟨ "X", 3, 0, false, "", "", 0⟩, ⟨ "Y", 3, 1, false, "", "", 8⟩, ⟨ "DX", 3, 2, false, "", "", 16⟩, ⟨ "DY", 3, 3, false, "", "", 24⟩], 4, 32, true, [.int .i64 0, .int .i64 0, .int .i64 0, .int .i64 0]⟩),
   (183, ⟨.struct #[⟨ "Lo", 3, 0, false, "", "", 0⟩, ⟨ "Hi", 3, 1, false, "", "", 8⟩], 2, 16, true, [.int .i64 0, .int .i64 0]⟩),
   (185, ⟨.struct #[⟨ "x", 183, 0, false, "", "shoebox/hall", 0⟩, ⟨ "y", 183, 2, false, "", "shoebox/hall", 16⟩], 4, 32, true, [.int .i64 0, .int .i64 0, .int .i64 0, .int .i64 0]⟩),
   (193, ⟨.struct #[⟨ "Kind", 3, 0, false, "", "", 0⟩, ⟨ "At", 3, 1, false, "", "", 8⟩], 2, 16, true, [.int .i64 0, .int .i64 0]⟩),
   (201, ⟨.func #[] #[39] false, 1, 8, false, [.any]⟩),
   (207, ⟨.int .i64, 1, 8, false, [.int .i64 0]⟩),
   (215, ⟨.int .u32, 1, 4, false, [.int .u32 0]⟩),
   (217, ⟨.int .u64, 1, 8, false, [.int .u64 0]⟩),
   (219, ⟨.map 9 4, 1, 8, false, [.any]⟩),
   (220, ⟨.func #[] #[3, 39] false, 1, 8, false, [.any]⟩),
   (222, ⟨.struct #[⟨ "list", 3, 0, false, "", "shoebox/hall", 0⟩, ⟨ "check", 220, 1, false, "", "shoebox/hall", 8⟩], 2, 16, true, [.int .i64 0, .any]⟩),
   (230, ⟨.array 15 222, 30, 240, true, [.int .i64 0, .any, .int .i64 0, .any, .int .i64 0, .any, .int .i64 0, .any, .int .i64 0, .any, .int .i64 0, .any, .int .i64 0, .any, .int .i64 0, .any, .int .i64 0, .any, .int .i64 0, .any, .int .i64 0, .any, .int .i64 0, .any, .int .i64 0, .any, .int .i64 0, .any, .int .i64 0, .any]⟩),
   (241, ⟨.array 4 173, 16, 128, true, [.int .i64 0, .int .i64 0, .int .i64 0, .int .i64 0, .int .i64 0, .int .i64 0, .int .i64 0, .int .i64 0, .int .i64 0, .int .i64 0, .int .i64 0, .int .i64 0, .int .i64 0, .int .i64 0, .int .i64 0, .int .i64 0]⟩),
   (246, ⟨.array 4 62, 8, 64, true, [.int .i64 0, .int .i64 0, .int .i64 0, .int .i64 0, .int .i64 0, .int .i64 0, .int .i64 0, .int .i64 0]⟩),
   (247, ⟨.slice 201, 1, 24, false, [.nils]⟩),
   (250, ⟨.int .u64, 1, 8, false, [.int .u64 0]⟩),
   (254, ⟨.pointer 3, 1, 8, false, [.nilp]⟩),
   (256, ⟨.slice 5, 1, 24, false, [.nils]⟩),
   (260, ⟨.pointer 250, 1, 8, false, [.nilp]⟩),
   (269, ⟨.int .u8, 1, 1, false, [.int .u8 0]⟩),
   (279, ⟨.struct #[⟨ "Walls", 29, 0, false, "", "", 0⟩, ⟨ "At", 62, 1, false, "", "", 24⟩, ⟨ "From", 63, 3, false, "", "", 40⟩, ⟨ "To", 63, 5, false, "", "", 56⟩, ⟨ "Next", 3, 7, false, "", "", 72⟩], 8, 80, true, [.nils, .int .i64 0, .int .i64 0, .int .i64 0, .int .i64 0, .int .i64 0, .int .i64 0, .int .i64 0]⟩),
   (280, ⟨.slice 279, 1, 24, false, [.nils]⟩)]
def eqs:List Nat:=[35,62,71]
theorem Ye5:(tbl.map fun p=>mkTI Tryz.prog p.1)=tbl.map fun p=>some p.2:=by kernel_rfl
theorem Zxf:TabOK Tryz.prog (tget tbl):=Zxe Ye5
theorem Yff:(eqs.all fun t=>!Tryz.prog.stoodInHeld t && !Tryz.prog.eqGuardType Tryz.prog.depth t)=true:=by kernel_rfl
theorem eqOK:EqOK Tryz.prog (memN eqs):=Yck Yff
abbrev I (n:Int):AV:=.int .i64 n
def pt0:PC:=fun _ _=>none
theorem Zd:PCOK Tryz.prog pt0:=fun _ _ _ h=>by cases h
theorem mixed:Tryz.prog.follows .mixedOrders=true:=by kernel_rfl
noncomputable def bs:Base Tryz.prog:=⟨tget tbl,memN eqs,Zxf,eqOK,mixed⟩
def nos:FuncId->Bool:=fun _=>false
def sgn (n:Int):Int:=if n>0 then 1 else if n<0 then -1 else 0
theorem c115 (n:Int):PCall Tryz.prog 116 [I n] ⟨I (sgn n),[]⟩:=by
 refine bs.pcall (sx:=nos) Zd Tryz.func116 (by kernel_rfl) (by kernel_rfl) rfl ?_
 refine Tj (fun h1=>?_) (fun h1=>?_)
 ·exact Zcg (by simp at h1; simp [sgn,h1])
 ·refine Tj (fun h2=>?_) (fun h2=>?_)
  ·exact Zcg (by simp at h1 h2; simp [sgn,h2,Mr.2 h1])
  ·exact Zcg (by simp at h1 h2; simp [sgn,Mr.2 h2,Mr.2 h1])
theorem c145 {nm ht fl ce ms wa ca se:AV} {es:List (List AV)} {i:Nat} {x y u v:Int} (hn:es.length<1000) (h1:es[i]?=some [I x,I y]) (h2:es[(i+1)%es.length]?=some [I u,I v]) :
  PCall Tryz.prog 93 [.agg [nm,ht,fl,ce,ms,.isl 2 es,wa,ca,se],I i] ⟨.agg [I i,I x,I y,I u,I v],[]⟩:=by
 have hi:i<es.length:=(List.getElem?_eq_some_iff.1 h1).1
 have hw:Qa Qb ((i:Int)+1)=((i+1:Nat):Int):=Mi _ ⟨by omega,by omega⟩
 have hm:(Qa Qb ((i:Int)+1)).tmod (es.length:Int)=(((i+1)%es.length:Nat):Int):=by rw [hw]; rfl
 refine bs.pcall (sx:=nos) Zd Tryz.func93 (by kernel_rfl) (by kernel_rfl) rfl ?_
 refine Sk h1 ?_
 have hp:0<es.length:=by omega
 refine As.np (by omega) ?_
 refine As.p (by rw [hm]; exact Int.natCast_nonneg _) ?_
 refine Sk (x:=[I u,I v]) (by rw [hm]; exact h2) ?_
 refine Dm (by kernel_rfl) ?_
 refine Sk rfl ?_
 exact Zbp rfl rfl
abbrev pt (p:Int × Int):List AV:=[I p.1,I p.2]
def cor (ps:List (Int × Int)) (i:Nat):Int × Int:=ps.getD i (0,0)
def Zw7 (ps:List (Int × Int)) (i:Nat):AV:=.agg [I i,I (cor ps i).1,I (cor ps i).2,I (cor ps ((i+1)%ps.length)).1,I (cor ps ((i+1)%ps.length)).2]
def Zed (ps:List (Int × Int)):List (List AV):=(Tg ps.length).map fun i=>[Zw7 ps i]
theorem Zeq {ps:List (Int × Int)} {i:Nat} (h:i<ps.length):(ps.map pt)[i]?=some [I (cor ps i).1,I (cor ps i).2]:=by
 simp [cor,h]
def r145:List AV->Option PRes
 | [.agg [_,_,_,_,_,.isl 2 es,_,_,_],.int .i64 (.ofNat i)]=>match es[i]?,es[(i+1)%es.length]? with
  | some [.int .i64 x,.int .i64 y],some [.int .i64 u,.int .i64 v]=>cond (Wf es.length 1000) (some ⟨.agg [I i,I x,I y,I u,I v],[]⟩) none
  | _,_=>none
 | _=>none
def pcW:PC:=fun f a=>cond (Ql f 93) (r145 a) none
theorem Zzw:PCOK Tryz.prog pcW:=by
 intro f a res h
 unfold pcW at h
 cases hb:Ql f 93 with
 | false=>rw [hb] at h; cases h
 | true =>
  rw [hb] at h
  rw [Qf hb]
  simp only [cond_true] at h
  unfold r145 at h
  split at h
  ·split at h
   ·rename_i h1 h2
    obtain ⟨h3,h4⟩:=Zb h
    cases h4
    exact c145 (by simpa [Sd] using h3) h1 h2
   ·cases h
  ·cases h
theorem Yeb {nm ht fl ce ms wa ca se:AV} {ps:List (Int × Int)} (hp:Yc [nm,ht,fl,ce,ms,wa,ca,se]=true) (hn:ps.length<1000) :
  ItOK Tryz.prog 50 [.agg [nm,ht,fl,ce,ms,.isl 2 (ps.map pt),wa,ca,se]] [] (Zed ps):=by
 refine bs.iter Zzw Tryz.func50 (by kernel_rfl) rfl (by kernel_rfl) fun B Ig l JX hI=>?_
 refine Zu1 (S:=Nat) (fun k=>ps.length-k) (fun k=>[(1,.yld l),(2,.ptr 0 0 0),(8,I ps.length),(9,I k)]) (fun _=>⟨[(0,.row 9 [[nm,ht,fl,ce,ms,.isl 2 (ps.map pt),wa,ca,se]] true false)],1⟩) (fun k=>some ((Zed ps).drop k)) [1,2,8,9] [0] (fun k=>k<=ps.length) ?_ 0 (Qm _) ?_ rfl rfl
 ·intro k hk
  refine bs.awpi Zzw hI ?_
  refine Br.dec (fun hlt=>?_) (fun hge=>?_)
  ·have hlt:k<ps.length:=by omega
   have hx:(Zed ps).drop k=[Zw7 ps k]::(Zed ps).drop (k+1):=by
    rw [Qi (by simp [Zed,hlt])]; simp [Zed]
   rw [hx]
   have hpu:Yc [.agg [nm,ht,fl,ce,ms,.isl 2 (ps.map pt),wa,ca,se],I k]=true:=by
    simp only [Yc,Zw,Qc,Bool.and_true] at hp ⊢; simp [hp]
   have hr:r145 [.agg [nm,ht,fl,ce,ms,.isl 2 (ps.map pt),wa,ca,se],I k]=some ⟨Zw7 ps k,[]⟩:=by
    have e1:=Zeq hlt
    have e2:=Zeq (ps:=ps) (i:=(k+1)%ps.length) (Pz _ (by omega))
    have hl:(ps.map pt).length=ps.length:=by simp
    show (match (ps.map pt)[k]?,(ps.map pt)[(k+1)%(ps.map pt).length]? with
     | some [.int .i64 x,.int .i64 y],some [.int .i64 u,.int .i64 v]=>cond (Wf (ps.map pt).length 1000) (some (PRes.mk (.agg [I k,I x,I y,I u,I v]) [])) none
     | _,_=>none)=_
    rw [hl,e1,e2]
    have:Wf ps.length 1000=true:=by simpa [Sd] using hn
    simp only [this]; rfl
   refine Sk (Zru _ hpu) ?_
   refine Sk hr ?_
   refine ⟨rfl,rfl,rfl,rfl,?_,?_⟩
   ·refine ⟨k+1,by omega,by omega,?_,rfl,rfl⟩
    have hw:Qa Qb ((k:Int)+1)=((k+1:Nat):Int):=Mi _ ⟨by omega,by omega⟩
    exact congrArg (fun x=>[(1,AV.yld l),(2,.ptr 0 0 0),(8,I ps.length),(9,I x)]) hw
   ·refine ⟨.inr rfl,.inr rfl,?_⟩
    exact ⟨[],rfl⟩
  ·have:k=ps.length:=by omega
   subst this
   refine ⟨.inl rfl,.inl ?_,[],rfl⟩
   simp [Zed]
 ·exact congrArg (fun x:Nat=>[(1,AV.yld l),(2,.ptr 0 0 0),(8,I x),(9,I 0)]) (by simp)
def hd1 (e:List AV):AV:=e.headD .any
def Zip:List (List AV)->Option (List (Int × Int))
 | []=>some []
 | [.int .i64 x,.int .i64 y]::l=>match Zip l with
  | some ps=>some ((x,y)::ps)
  | none=>none
 | _=>none
theorem Zr5:∀ {es:List (List AV)} {ps:List (Int × Int)},Zip es=some ps->es=ps.map pt:=by
 intro es
 induction es with
 | nil=>intro ps h; simp only [Zip,Qe] at h; subst h; rfl
 | cons e l ih =>
  intro ps h
  unfold Zip at h
  split at h
  ·rename_i h0; cases h0
  ·rename_i x y l' h0
   cases h0
   split at h
   ·rename_i qs hq
    cases h
    rw [ih hq]; rfl
   ·cases h
  ·cases h
def Zzh (c0 c1:List AV):Option (List (List AV)):=match c0,c1 with
 | [.agg [nm,ht,fl,ce,ms,.isl 2 es,wa,ca,se]],[]=>match Zip es with
  | some ps=>cond (Yc [nm,ht,fl,ce,ms,wa,ca,se]&&Wf ps.length 1000) (some (Zed ps)) none
  | none=>none
 | _,_=>none
def itT:ITab:=fun g c0 c1=>cond (Ql g 50) (Zzh c0 c1) none
theorem Yab:∀ g c0 c1 xs,itT g c0 c1=some xs->ItOK Tryz.prog g c0 c1 xs:=by
 intro g c0 c1 xs h
 unfold itT at h
 obtain ⟨h1,h⟩:=Zb h
 rw [Qf h1]
 unfold Zzh at h
 split at h
 ·split at h
  ·rename_i ps hps
   obtain ⟨h2,h⟩:=Zb h
   cases h
   simp only [Qc,Sd] at h2
   rw [Zr5 hps]
   exact Yeb h2.1 h2.2
  ·cases h
 ·cases h
noncomputable def exT (xs:List Nat) (pt:PC):CF:=exG Tryz.prog (tget tbl) (memN eqs) itT (memN xs) pt 1000 40
theorem Yen {xs:List Nat} {pt:PC} (hpt:PCOK Tryz.prog pt):CFOK Tryz.prog (exT xs pt):=Zjd Zxf eqOK Yab mixed hpt 40
def isR (v0:AV):Option PRes->Bool
 | some ⟨v,[]⟩=>eqA v v0
 | _=>false
theorem Yac {v0:AV} {o:Option PRes} (h:isR v0 o=true):o=some ⟨v0,[]⟩:=by
 unfold isR at h
 split at h
 ·rw [Zvz _ _ h]
 ·cases h
theorem Zxm {xs:List Nat} {pt:PC} (hpt:PCOK Tryz.prog pt) {f:FuncId} {a:List AV} {v:AV} (h:isR v (pcF (exT xs pt) f a)=true):PCall Tryz.prog f a ⟨v,[]⟩:=Zll (Yen hpt) (Yac h)
def Zet (f0:FuncId) (a0:List AV) (v0:AV) (pt:PC):PC:=fun f a=>cond (Ql f f0&&eqL a a0) (some ⟨v0,[]⟩) (pt f a)
theorem Xo {f0:FuncId} {a0:List AV} {v0:AV} {pt:PC} (h0:PCall Tryz.prog f0 a0 ⟨v0,[]⟩) (h:PCOK Tryz.prog pt):PCOK Tryz.prog (Zet f0 a0 v0 pt):=by
 intro f a res hr
 unfold Zet at hr
 cases hb:(Ql f f0&&eqL a a0) with
 | true =>
  rw [hb] at hr
  cases hr
  simp only [Qc] at hb
  rw [Qf hb.1,Zhl _ _ hb.2]
  exact h0
 | false=>rw [hb] at hr; exact h f a res hr
def ins (f0:FuncId) (r:List AV->Option PRes) (pt:PC):PC:=fun f a=>cond (Ql f f0) (r a) (pt f a)
theorem Zj {f0:FuncId} {r:List AV->Option PRes} {pt:PC} (h0:∀ a res,r a=some res->PCall Tryz.prog f0 a res) (h:PCOK Tryz.prog pt):PCOK Tryz.prog (ins f0 r pt):=by
 intro f a res hr
 unfold ins at hr
 cases hb:Ql f f0 with
 | true=>rw [hb] at hr; rw [Qf hb]; exact h0 a res hr
 | false=>rw [hb] at hr; exact h f a res hr
abbrev Bo (b:Bool):AV:=.bool b
abbrev P2 (x y:Int):AV:=.agg [I x,I y]
abbrev P3 (x y z:Int):AV:=.agg [I x,I y,I z]
abbrev P4 (x y z d:Int):AV:=.agg [I x,I y,I z,I d]
def within (n lo hi:Int):Bool:=decide (lo<=n)&&decide (n<=hi)
theorem c78 (n lo hi:Int):PCall Tryz.prog 92 [I n,I lo,I hi] ⟨Bo (within n lo hi),[]⟩:=by
 refine bs.pcall (sx:=nos) Zd Tryz.func92 (by kernel_rfl) (by kernel_rfl) rfl ?_
 refine Tj (fun h=>?_) (fun h=>?_)
 ·exact Yo (by simp [within,h])
 ·exact Yo (by simp [within,h])
theorem c30 (n lo hi:Int):PCall Tryz.prog 44 [I n,I lo,I hi] ⟨Bo (within n lo hi),[]⟩:=by
 refine bs.pcall (sx:=nos) Zd Tryz.func44 (by kernel_rfl) (by kernel_rfl) rfl ?_
 refine Tj (fun h=>?_) (fun h=>?_)
 ·exact Yo (by simp [within,h])
 ·exact Yo (by simp [within,h])
def r78:List AV->Option PRes
 | [.int .i64 n,.int .i64 lo,.int .i64 hi]=>some ⟨Bo (within n lo hi),[]⟩
 | _=>none
def k78:PC:=ins 44 r78 (ins 92 r78 pt0)
theorem Yaa:PCOK Tryz.prog k78:=Zj (fun a res h=>by unfold r78 at h; split at h<;>cases h; exact c30 _ _ _) (Zj (fun a res h=>by unfold r78 at h; split at h<;>cases h; exact c78 _ _ _) Zd)
def small (n most:Int):Bool:=within n (Qa Qb (0-most)) most
theorem c92 (n m:Int):PCall Tryz.prog 48 [I n,I m] ⟨Bo (small n m),[]⟩:=by
 refine bs.pcall (sx:=nos) Yaa Tryz.func48 (by kernel_rfl) (by kernel_rfl) rfl ?_
 exact Sk rfl (Yo rfl)
def r92:List AV->Option PRes
 | [.int .i64 n,.int .i64 m]=>some ⟨Bo (small n m),[]⟩
 | _=>none
def k92:PC:=ins 48 r92 k78
theorem Zz9:PCOK Tryz.prog k92:=Zj (fun a res h=>by unfold r92 at h; split at h<;>cases h; exact c92 _ _) Yaa
def Xm (x y z:Int):Bool:=small x 45000&&small y 45000&&small z 45000
theorem c93 (x y z:Int):PCall Tryz.prog 111 [P3 x y z] ⟨Bo (Xm x y z),[]⟩:=by
 refine bs.pcall (sx:=nos) Zz9 Tryz.func111 (by kernel_rfl) (by kernel_rfl) rfl ?_
 refine Tj (fun h=>?_) (fun h=>?_)
 ·refine Tj (fun h2=>?_) (fun h2=>?_)
  ·exact Yo (by simp_all [Xm])
  ·exact Yo (by simp_all [Xm])
 ·exact Yo (by simp_all [Xm])
def r93:List AV->Option PRes
 | [.agg [.int .i64 x,.int .i64 y,.int .i64 z]]=>some ⟨Bo (Xm x y z),[]⟩
 | _=>none
def k93:PC:=ins 111 r93 k92
theorem Zbb:PCOK Tryz.prog k93:=Zj (fun a res h=>by unfold r93 at h; split at h<;>cases h; exact c93 _ _ _) Zz9
def mir (k a x y z:Int):Int × Int × Int :=
 if k=0 then (Qa Qb (Qa Qb (2*a)-x),y,z) else if k=1 then (x,Qa Qb (Qa Qb (2*a)-y),z) else if k=2 then (x,y,Qa Qb (Qa Qb (2*a)-z)) else if k=3 then (Qa Qb (a-y),Qa Qb (a-x),z) else if k=4 then (Qa Qb (y+a),Qa Qb (x-a),z) else (x,y,z)
def Vg (k a x y z:Int):Int :=
 if within k 0 4=false then 15 else if small a 10000=false\/Xm x y z=false then 2 else if Xm (mir k a x y z).1 (mir k a x y z).2.1 (mir k a x y z).2.2=false then 8 else 0
def mirP (k a x y z:Int):Int × Int × Int:=if Vg k a x y z=0 then mir k a x y z else (0,0,0)
abbrev mirV (k a x y z:Int):AV:=.tup [P3 (mirP k a x y z).1 (mirP k a x y z).2.1 (mirP k a x y z).2.2,I (Vg k a x y z)]
theorem Zr {x y z e x' y' z' e' : Int} {σ:St} (h:(x,y,z)=(x',y',z')/\e=e'):Zcm ⟨.tup [P3 x' y' z',I e'],[]⟩ (.tup [P3 x y z,I e]) σ:=by
 obtain ⟨h1,h2⟩:=h
 simp only [Prod.mk.injEq] at h1
 obtain ⟨rfl,rfl,rfl⟩:=h1
 subst h2
 exact Zbp rfl rfl
theorem c32 (k a x y z:Int):PCall Tryz.prog 106 [P2 k a,P3 x y z] ⟨mirV k a x y z,[]⟩:=by
 refine bs.pcall (sx:=nos) Zbb Tryz.func106 (by kernel_rfl) (by kernel_rfl) rfl ?_
 refine Tj (fun h1=>?_) (fun h1=>?_)
 ·exact Sk rfl (Zr (by simp_all [mirP,Vg,mir]))
 ·refine Tj (fun h2=>?_) (fun h2=>?_)
  ·exact Sk rfl (Zr (by simp_all [mirP,Vg,mir]))
  ·refine Tj (fun h3=>?_) (fun h3=>?_)
   ·exact Sk rfl (Zr (by simp_all [mirP,Vg,mir]))
   ·refine Tj (fun h4=>?_) (fun h4=>?_)
    ·refine Tj (fun h5=>?_) (fun h5=>?_)
     ·exact Sk rfl (Zr (by simp_all [mirP,Vg,mir]))
     ·exact Sk rfl (Zr (by simp_all [mirP,Vg,mir]))
    ·refine Tj (fun h6=>?_) (fun h6=>?_)
     ·refine Tj (fun h7=>?_) (fun h7=>?_)
      ·exact Sk rfl (Zr (by simp_all [mirP,Vg,mir]))
      ·exact Sk rfl (Zr (by simp_all [mirP,Vg,mir]))
     ·refine Tj (fun h8=>?_) (fun h8=>?_)
      ·refine Tj (fun h9=>?_) (fun h9=>?_)
       ·exact Sk rfl (Zr (by simp_all [mirP,Vg,mir]))
       ·exact Sk rfl (Zr (by simp_all [mirP,Vg,mir]))
      ·refine Tj (fun h10=>?_) (fun h10=>?_)
       ·refine Dm (by kernel_rfl) ?_
        refine Tj (fun h11=>?_) (fun h11=>?_)
        ·exact Sk rfl (Zr (by simp_all [mirP,Vg,mir]))
        ·exact Sk rfl (Zr (by simp_all [mirP,Vg,mir]))
       ·refine Tj (fun h12=>?_) (fun h12=>?_)
        ·refine Dm (by kernel_rfl) ?_
         refine Tj (fun h13=>?_) (fun h13=>?_)
         ·exact Sk rfl (Zr (by simp_all [mirP,Vg,mir]))
         ·exact Sk rfl (Zr (by simp_all [mirP,Vg,mir]))
        ·refine Tj (fun h14=>?_) (fun h14=>?_)
         ·exact Sk rfl (Zr (by simp_all [mirP,Vg,mir]))
         ·exact Sk rfl (Zr (by simp_all [mirP,Vg,mir]))
def Zdx (k a:Int):Int:=if within k 0 4=false then 15 else if within a (-10000) 10000=false then 2 else 0
def img (n:Int):Bool:=within n (-45000) 45000
def Vo (x y z:Int):Int:=if img x&&img y&&img z then 0 else 2
def rmir (k a x y z:Int):Int × Int × Int :=
 if k=0 then (Qa Qb (Qa Qb (2*a)-x),y,z) else if k=1 then (x,Qa Qb (Qa Qb (2*a)-y),z) else if k=2 then (x,y,Qa Qb (Qa Qb (2*a)-z)) else if k=3 then (Qa Qb (a-y),Qa Qb (a-x),z) else (Qa Qb (y+a),Qa Qb (x-a),z)
def r94:List AV->Option PRes
 | [.agg [.int .i64 k,.int .i64 a]]=>some ⟨I (Zdx k a),[]⟩
 | _=>none
def r96:List AV->Option PRes
 | [.agg [.int .i64 k,.int .i64 a],.agg [.int .i64 x,.int .i64 y,.int .i64 z]]=>some ⟨P3 (rmir k a x y z).1 (rmir k a x y z).2.1 (rmir k a x y z).2.2,[]⟩
 | _=>none
def r32:List AV->Option PRes
 | [.agg [.int .i64 k,.int .i64 a],.agg [.int .i64 x,.int .i64 y,.int .i64 z]]=>some ⟨mirV k a x y z,[]⟩
 | _=>none
def k96:PC:=ins 106 r32 k93
theorem Yea:PCOK Tryz.prog k96:=by
 refine Zj (fun a res h=>?_) Zbb
 unfold r32 at h; split at h<;>cases h; exact c32 _ _ _ _ _
def Zez (k a x y z:Int):Int :=
 if Zdx k a=0 then (if Vo x y z=0 then (if Vo (rmir k a x y z).1 (rmir k a x y z).2.1 (rmir k a x y z).2.2=0 then 0 else 8) else Vo x y z) else Zdx k a
def Ya9 (k a x y z:Int):Int × Int × Int:=if Zez k a x y z=0 then rmir k a x y z else (0,0,0)
def offN (k x y z:Int):Int:=if k=0 then x else if k=1 then y else if k=2 then z else if k=3 then Qa Qb (x+y) else Qa Qb (x-y)
theorem c36 (x y z:Int):PCall Tryz.prog 22 [P3 x y z] ⟨P4 x y z 1,[]⟩:=by
 refine bs.pv (sx:=nos) Yea Tryz.func22 (by kernel_rfl) (by kernel_rfl) rfl ?_
 repeat' ((conv=>whnf); (fail_if_success with_reducible refine Ret.mk ?_); first|with_reducible refine Jd (by kernel_rfl) ?_|refine Tj (fun _=>?_) (fun _=>?_))
 all_goals exact Zf rfl rfl
theorem W_eq {n:Int} (h1 : -9223372036854775808<=n) (h2:n<=9223372036854775807):Qa Qb n=n:=Mi _ ⟨h1,by omega⟩
theorem within_iff {n lo hi:Int}:within n lo hi=true↔lo<=n/\n<=hi:=by simp [within]
theorem Zgu (x y z:Int):Xm x y z=(img x&&img y&&img z):=by
 have:Qa Qb (0-45000) = -45000:=by decide
 simp only [Xm,small,img,this]
theorem Zm4 (k a x y z:Int):Vg k a x y z=Zez k a x y z:=by
 have e1:Qa Qb (0-10000) = -10000:=by decide
 unfold Vg Zez Zdx Vo
 rw [Zgu,Zgu]
 simp only [small,e1]
 by_cases hk:within k 0 4=true
 ·have hm:mir k a x y z=rmir k a x y z:=by
   have:=within_iff.1 hk
   have:k=0\/k=1\/k=2\/k=3\/k=4:=by omega
   rcases this with rfl|rfl|rfl|rfl|rfl<;>rfl
  rw [hm]
  cases h1:within a (-10000) 10000<;>cases h2:(img x&&img y&&img z)<;>cases h3:(img (rmir k a x y z).1&&img (rmir k a x y z).2.1&&img (rmir k a x y z).2.2)<;>simp_all
 ·simp at hk; simp [hk]
theorem Ybr (k a x y z:Int):mirP k a x y z=Ya9 k a x y z:=by
 unfold mirP Ya9
 rw [Zm4]
 by_cases h:Zez k a x y z=0
 ·rw [if_pos h,if_pos h]
  have hk:within k 0 4=true:=by
   cases hk:within k 0 4 with
   | true=>rfl
   | false=>simp [Zez,Zdx,hk] at h
  have:=within_iff.1 hk
  have:k=0\/k=1\/k=2\/k=3\/k=4:=by omega
  rcases this with rfl|rfl|rfl|rfl|rfl<;>rfl
 ·rw [if_neg h,if_neg h]
theorem Zr2 {k a x y z:Int} (hk:0<=k/\k<=4) (ha : -10000<=a/\a<=10000) (hx : -45000<=x/\x<=45000) (hy : -45000<=y/\y<=45000) (hz : -45000<=z/\z<=45000) {u v w:Int} (e:rmir k a x y z=(u,v,w)) (hu : -45000<=u/\u<=45000) (hv : -45000<=v/\v<=45000) (hw : -45000<=w/\w<=45000):Zez k a x y z=0:=by
 have i1:∀ {n:Int},-45000<=n/\n<=45000->img n=true:=fun h=>within_iff.2 h
 simp [Zez,Zdx,Vo,within_iff.2 hk,within_iff.2 ha,i1 hx,i1 hy,i1 hz,e,i1 hu,i1 hv,i1 hw]
def nl (ns:List Int):List (List AV):=ns.map fun n=>[I n]
theorem Zl (ns:List Int):(nl ns).length=ns.length:=by simp [nl]
theorem Uo {ns:List Int} {k:Nat} (h:k<ns.length):(nl ns)[((k:Nat):Int).toNat]?=some [I ns[k]]:=by simp [nl,h]
theorem Zi {k:Nat} (h:k<9000000000):Qa Qb ((k:Int)+1)=((k+1:Nat):Int):=W_eq (by omega) (by omega)
def hasN (ns:List Int) (n:Int):Bool:=ns.any fun m=>decide (m=n)
theorem Zu8 (m:Int) (ns:List Int) (n:Int):hasN (m::ns) n=(decide (m=n)||hasN ns n):=rfl
theorem c26 {ns:List Int} (hl:ns.length<1000000) (n:Int):PCall Tryz.prog 10 [.isl 1 (nl ns),I n] ⟨Bo (hasN ns n),[]⟩:=by
 refine bs.pv (sx:=nos) Zd Tryz.func10 (by kernel_rfl) (by kernel_rfl) rfl ?_
 conv=>whnf
 refine Zz (S:=Nat × Int) (fun s=>ns.length-s.1) (fun s=>[(0,.isl 1 (nl ns)),(1,I n),(5,I s.2)]) (fun _=>[]) 0 0 (fun s=>s.2=s.1/\s.1<=ns.length/\hasN (ns.drop s.1) n=hasN ns n) (0,0) ?_ (Qd _) [] rfl ?_ ?_ ?_
 ·exact ⟨rfl,Qm _,rfl⟩
 ·repeat' (first|exact trivial|refine Jd ?_ ?_|exact rfl)
 ·repeat' (first|exact trivial|refine Jd ?_ ?_|exact rfl)
 ·rintro ⟨k,i⟩ ⟨hi,hk,hh⟩
  dsimp only at hi hk hh ⊢
  subst hi
  refine bs.av (sx:=nos) Zd ?_
  have e3:=Zl ns
  by_cases hlt:k<ns.length
  ·have e1:=Uo hlt
   rw [Qi hlt,Zu8] at hh
   repeat' ((conv=>whnf); (fail_if_success with_reducible refine Ret.mk ?_); (fail_if_success with_reducible refine Qo ?_); first|with_reducible refine Jd (by kernel_rfl) ?_|refine Br.yes (decide_eq_true (by omega)) ?_|refine Br.no (decide_eq_false (by omega)) ?_|refine Tj (fun hb=>?_) (fun hb=>?_)|refine Sk (by assumption) ?_)
   ·refine Zc ?_
    rw [hb] at hh; exact hh
   ·exact Qo ⟨(k+1,_),[],rfl,kps,trivial,⟨Zi (by omega),hlt,by rw [hb] at hh; exact hh⟩,by dsimp only; omega⟩
  ·repeat' ((conv=>whnf); (fail_if_success with_reducible refine Ret.mk ?_); (fail_if_success with_reducible refine Qo ?_); first|with_reducible refine Jd (by kernel_rfl) ?_|refine Br.yes (decide_eq_true (by omega)) ?_|refine Br.no (decide_eq_false (by omega)) ?_|refine Tj (fun hb=>?_) (fun hb=>?_)|refine Sk (by assumption) ?_)
   refine Zc ?_
   rw [<-hh,Qj (by omega)]; rfl
def size (n:Int):Int:=imax n (Qa Qb (0-n))
theorem c116 (n:Int):PCall Tryz.prog 117 [I n] ⟨I (size n),[]⟩:=by
 refine bs.pv (sx:=nos) Zd Tryz.func117 (by kernel_rfl) (by kernel_rfl) rfl ?_
 repeat'(first|refine wk0 ?_|(refine wk2 ?_ ?_<;>intro _)|refine wk4 ?_|fail);all_goals(conv=>whnf)
 all_goals exact Za rfl
structure Wl where
 n:Int
 fx:Int
 fy:Int
 tx:Int
 ty:Int
abbrev Wl.av (w:Wl):AV:=.agg [I w.n,I w.fx,I w.fy,I w.tx,I w.ty]
def Wl.dx (w:Wl):Int:=Qa Qb (w.tx-w.fx)
def Wl.dy (w:Wl):Int:=Qa Qb (w.ty-w.fy)
theorem c174 (w:Wl):PCall Tryz.prog 179 [w.av] ⟨.tup [I w.dx,I w.dy],[]⟩:=by
 refine bs.pv (sx:=nos) Zd Tryz.func179 (by kernel_rfl) (by kernel_rfl) rfl ?_
 repeat'(first|refine wk0 ?_|(refine wk2 ?_ ?_<;>intro _)|refine wk4 ?_|fail);all_goals(conv=>whnf)
 all_goals exact Zf rfl rfl
def r115:List AV->Option PRes
 | [.int .i64 n]=>some ⟨I (sgn n),[]⟩
 | _=>none
def r116:List AV->Option PRes
 | [.int .i64 n]=>some ⟨I (size n),[]⟩
 | _=>none
def r174:List AV->Option PRes
 | [.agg [.int .i64 n,.int .i64 fx,.int .i64 fy,.int .i64 tx,.int .i64 ty]]=>some ⟨.tup [I (Wl.dx ⟨n,fx,fy,tx,ty⟩),I (Wl.dy ⟨n,fx,fy,tx,ty⟩)],[]⟩
 | _=>none
def kG1:PC:=ins 116 r115 (ins 117 r116 (ins 179 r174 k93))
theorem Zkq:PCOK Tryz.prog kG1:=by
 refine Zj (fun a res h=>?_) (Zj (fun a res h=>?_) (Zj (fun a res h=>?_) Zbb))
 ·unfold r115 at h; split at h<;>cases h; exact c115 _
 ·unfold r116 at h; split at h<;>cases h; exact c116 _
 ·unfold r174 at h; split at h<;>cases h; exact c174 ⟨_,_,_,_,_⟩
def Wl.straight (w:Wl):Bool:=decide (w.dx=0)||decide (w.dy=0)||decide (size w.dx=size w.dy)
theorem c146 (w:Wl):PCall Tryz.prog 150 [w.av] ⟨Bo w.straight,[]⟩:=by
 refine bs.pv (sx:=nos) Zkq Tryz.func150 (by kernel_rfl) (by kernel_rfl) rfl ?_
 repeat'(first|refine wk0 ?_|(refine wk2 ?_ ?_<;>intro _)|refine wk4 ?_|fail);all_goals(conv=>whnf)
 all_goals exact Zc (by simp_all [Wl.straight]<;>omega)
def Wl.side (w:Wl) (x y d:Int):Int:=sgn (Qa Qb (Qa Qb (w.dx*Qa Qb (y-Qa Qb (w.fy*d)))-Qa Qb (w.dy*Qa Qb (x-Qa Qb (w.fx*d)))))
theorem c206 (w:Wl) (x y d:Int):PCall Tryz.prog 96 [w.av,I x,I y,I d] ⟨I (w.side x y d),[]⟩:=by
 refine bs.pv (sx:=nos) Zkq Tryz.func96 (by kernel_rfl) (by kernel_rfl) rfl ?_
 repeat'(first|refine wk0 ?_|(refine wk2 ?_ ?_<;>intro _)|refine wk4 ?_|fail);all_goals(conv=>whnf)
 all_goals exact Za rfl
def r146:List AV->Option PRes
 | [.agg [.int .i64 n,.int .i64 fx,.int .i64 fy,.int .i64 tx,.int .i64 ty]]=>some ⟨Bo (Wl.straight ⟨n,fx,fy,tx,ty⟩),[]⟩
 | _=>none
def r206:List AV->Option PRes
 | [.agg [.int .i64 n,.int .i64 fx,.int .i64 fy,.int .i64 tx,.int .i64 ty],.int .i64 x,.int .i64 y,.int .i64 d]=>some ⟨I (Wl.side ⟨n,fx,fy,tx,ty⟩ x y d),[]⟩
 | _=>none
def kG2:PC:=ins 150 r146 (ins 96 r206 kG1)
theorem Zz6:PCOK Tryz.prog kG2:=by
 refine Zj (fun a res h=>?_) (Zj (fun a res h=>?_) Zkq)
 ·unfold r146 at h; split at h<;>cases h; exact c146 ⟨_,_,_,_,_⟩
 ·unfold r206 at h; split at h<;>cases h; exact c206 ⟨_,_,_,_,_⟩ _ _ _
def Wl.has (w:Wl) (x y d:Int):Bool:=decide (w.side x y d=0)&&within x (Qa Qb (imin w.fx w.tx*d)) (Qa Qb (imax w.fx w.tx*d))&&within y (Qa Qb (imin w.fy w.ty*d)) (Qa Qb (imax w.fy w.ty*d))
theorem c205 (w:Wl) (x y d:Int):PCall Tryz.prog 95 [w.av,I x,I y,I d] ⟨Bo (w.has x y d),[]⟩:=by
 refine bs.pv (sx:=nos) Zz6 Tryz.func95 (by kernel_rfl) (by kernel_rfl) rfl ?_
 repeat'(first|refine wk0 ?_|(refine wk2 ?_ ?_<;>intro _)|refine wk4 ?_|fail);all_goals(conv=>whnf)
 all_goals exact Zc (by simp_all [Wl.has]<;>omega)
def r205:List AV->Option PRes
 | [.agg [.int .i64 n,.int .i64 fx,.int .i64 fy,.int .i64 tx,.int .i64 ty],.int .i64 x,.int .i64 y,.int .i64 d]=>some ⟨Bo (Wl.has ⟨n,fx,fy,tx,ty⟩ x y d),[]⟩
 | _=>none
def kG3:PC:=ins 95 r205 kG2
theorem Xx:PCOK Tryz.prog kG3:=by
 refine Zj (fun a res h=>?_) Zz6
 unfold r205 at h; split at h<;>cases h; exact c205 ⟨_,_,_,_,_⟩ _ _ _
def Wl.touches (w o:Wl):Bool :=
 (decide (Qa Qb (w.side o.fx o.fy 1*w.side o.tx o.ty 1)<0)&&decide (Qa Qb (o.side w.fx w.fy 1*o.side w.tx w.ty 1)<0))||(w.has o.fx o.fy 1||w.has o.tx o.ty 1||o.has w.fx w.fy 1||o.has w.tx w.ty 1)
theorem c196 (w o:Wl):PCall Tryz.prog 192 [w.av,o.av] ⟨Bo (w.touches o),[]⟩:=by
 obtain ⟨n,a,b,c,d⟩:=w
 obtain ⟨m,e,f,g,i⟩:=o
 refine bs.pv (sx:=nos) Xx Tryz.func192 (by kernel_rfl) (by kernel_rfl) rfl ?_
 repeat'(first|refine wk0 ?_|(refine wk2 ?_ ?_<;>intro _)|refine wk4 ?_|fail);all_goals(conv=>whnf)
 all_goals exact Zc (by simp_all [Wl.touches]<;>omega)
def Wl.turnsBack (w o:Wl):Bool:=decide (Qa Qb (w.dx*o.dy)=Qa Qb (w.dy*o.dx))&&decide (Qa Qb (Qa Qb (w.dx*o.dx)+Qa Qb (w.dy*o.dy))<0)
theorem c195 (w o:Wl):PCall Tryz.prog 191 [w.av,o.av] ⟨Bo (w.turnsBack o),[]⟩:=by
 refine bs.pv (sx:=nos) Xx Tryz.func191 (by kernel_rfl) (by kernel_rfl) rfl ?_
 repeat'(first|refine wk0 ?_|(refine wk2 ?_ ?_<;>intro _)|refine wk4 ?_|fail);all_goals(conv=>whnf)
 all_goals exact Zc (by simp_all [Wl.turnsBack]<;>omega)
structure Rc where
 xl:Int
 xh:Int
 yl:Int
 yh:Int
abbrev Rc.av (q:Rc):AV:=.agg [I q.xl,I q.xh,I q.yl,I q.yh]
def rcOf (fx fy tx ty:Int):Rc:=⟨imin fx tx,imax fx tx,imin fy ty,imax fy ty⟩
theorem c170 (nm mt hs:AV) (fx fy tx ty:Int):PCall Tryz.prog 99 [.agg [nm,mt,I fx,I fy,I tx,I ty,hs]] ⟨(rcOf fx fy tx ty).av,[]⟩:=by
 refine bs.pv (sx:=nos) Xx Tryz.func99 (by kernel_rfl) (by kernel_rfl) rfl ?_
 repeat'(first|refine wk0 ?_|(refine wk2 ?_ ?_<;>intro _)|refine wk4 ?_|fail);all_goals(conv=>whnf)
 all_goals exact Zf rfl rfl
def Rc.has (q:Rc) (x y d:Int):Bool:=within x (Qa Qb (q.xl*d)) (Qa Qb (q.xh*d))&&within y (Qa Qb (q.yl*d)) (Qa Qb (q.yh*d))
theorem c211 (q:Rc) (x y d:Int):PCall Tryz.prog 103 [q.av,I x,I y,I d] ⟨Bo (q.has x y d),[]⟩:=by
 refine bs.pv (sx:=nos) Xx Tryz.func103 (by kernel_rfl) (by kernel_rfl) rfl ?_
 repeat'(first|refine wk0 ?_|(refine wk2 ?_ ?_<;>intro _)|refine wk4 ?_|fail);all_goals(conv=>whnf)
 all_goals exact Zc (by simp_all [Rc.has]<;>omega)
def Rc.holds (q:Rc) (x y d:Int):Bool:=decide (Qa Qb (q.xl*d)<x)&&decide (x<Qa Qb (q.xh*d))&&decide (Qa Qb (q.yl*d)<y)&&decide (y<Qa Qb (q.yh*d))
theorem c193 (q:Rc) (x y d:Int):PCall Tryz.prog 181 [q.av,I x,I y,I d] ⟨Bo (q.holds x y d),[]⟩:=by
 refine bs.pv (sx:=nos) Xx Tryz.func181 (by kernel_rfl) (by kernel_rfl) rfl ?_
 repeat'(first|refine wk0 ?_|(refine wk2 ?_ ?_<;>intro _)|refine wk4 ?_|fail);all_goals(conv=>whnf)
 all_goals exact Zc (by simp_all [Rc.holds]<;>omega)
def Zg2 (x y:Int):Bool:=small x 5000&&small y 5000
theorem c142 (x y:Int):PCall Tryz.prog 147 [P2 x y] ⟨Bo (Zg2 x y),[]⟩:=by
 refine bs.pv (sx:=nos) Xx Tryz.func147 (by kernel_rfl) (by kernel_rfl) rfl ?_
 repeat'(first|refine wk0 ?_|(refine wk2 ?_ ?_<;>intro _)|refine wk4 ?_|fail);all_goals(conv=>whnf)
 all_goals exact Zc (by simp_all [Zg2]<;>omega)
theorem c114 (x y z:Int):PCall Tryz.prog 26 [P3 x y z] ⟨P4 x y z 1,[]⟩:=by
 refine bs.pv (sx:=nos) Xx Tryz.func26 (by kernel_rfl) (by kernel_rfl) rfl ?_
 repeat'(first|refine wk0 ?_|(refine wk2 ?_ ?_<;>intro _)|refine wk4 ?_|fail);all_goals(conv=>whnf)
 all_goals exact Zf rfl rfl
def unl (b:Bool) (e:Int):Int:=cond b 0 e
theorem c102 (b:Bool) (e:Int):PCall Tryz.prog 110 [Bo b,I e] ⟨I (unl b e),[]⟩:=by
 refine bs.pv (sx:=nos) Xx Tryz.func110 (by kernel_rfl) (by kernel_rfl) rfl ?_
 repeat'(first|refine wk0 ?_|(refine wk2 ?_ ?_<;>intro _)|refine wk4 ?_|fail);all_goals(conv=>whnf)
 all_goals exact Za (by simp_all [unl])
structure Mat where
 nm:ByteArray
 a:Int
 b:Int
 c:Int
 d:Int
 sc:Int
structure Wal where
 nm:ByteArray
 mt:ByteArray
 cu:ByteArray
structure Can where
 nm:ByteArray
 mt:ByteArray
 fx:Int
 fy:Int
 tx:Int
 ty:Int
 hs:List Int
structure Sea where
 nm:ByteArray
 x:Int
 y:Int
 z:Int
structure Hal where
 nm:ByteArray
 ht:Int
 fl:ByteArray
 ce:ByteArray
 ms:List Mat
 cs:List (Int × Int)
 ws:List Wal
 ks:List Can
 ss:List Sea
abbrev Mat.av (m:Mat):List AV:=[.str m.nm,I m.a,I m.b,I m.c,I m.d,I m.sc]
abbrev Wal.av (w:Wal):List AV:=[.str w.nm,.str w.mt,.str w.cu]
abbrev Can.av (c:Can):List AV:=[.str c.nm,.str c.mt,I c.fx,I c.fy,I c.tx,I c.ty,.isl 1 (nl c.hs)]
abbrev Sea.av (s:Sea):List AV:=[.str s.nm,I s.x,I s.y,I s.z]
abbrev Hal.cells (h:Hal):List AV:=[.str h.nm,I h.ht,.str h.fl,.str h.ce,.isl 6 (h.ms.map Mat.av),.isl 2 (h.cs.map pt),.isl 3 (h.ws.map Wal.av),.isl 7 (h.ks.map Can.av),.isl 4 (h.ss.map Sea.av)]
abbrev Hal.av (h:Hal):AV:=.agg [.str h.nm,I h.ht,.str h.fl,.str h.ce,.isl 6 (h.ms.map Mat.av),.isl 2 (h.cs.map pt),.isl 3 (h.ws.map Wal.av),.isl 7 (h.ks.map Can.av),.isl 4 (h.ss.map Sea.av)]
def wlOf (cs:List (Int × Int)) (i:Nat):Wl:=⟨i,(cor cs i).1,(cor cs i).2,(cor cs ((i+1)%cs.length)).1,(cor cs ((i+1)%cs.length)).2⟩
def wls (cs:List (Int × Int)):List Wl:=(Tg cs.length).map (wlOf cs)
theorem Zs7 (cs:List (Int × Int)):Zed cs=(wls cs).map fun w=>[w.av]:=by simp [Zed,wls,wlOf,Zw7]
def Hal.few (h:Hal):Prop:=h.ms.length<1000/\h.cs.length<1000/\h.ws.length<1000/\h.ks.length<1000/\h.ss.length<1000/\∀ c∈h.ks,c.hs.length<1000
theorem itW {h:Hal} (hf:h.few):ItOK Tryz.prog 50 [h.av] [] ((wls h.cs).map fun w=>[w.av]):=by
 rw [<-Zs7]; exact Yeb (by rfl) hf.2.1
def Zws (n:Int) (w:Wl):Int:=Qa Qb (n+Qa Qb (Qa Qb (w.fx*w.ty)-Qa Qb (w.tx*w.fy)))
def Zcz (h:Hal):Int:=(wls h.cs).foldl Zws 0
theorem c122 {h:Hal} (hf:h.few):PCall Tryz.prog 154 [h.av] ⟨I (Zcz h),[]⟩:=by
 refine bs.pv (sx:=nos) Xx Tryz.func154 (by kernel_rfl) (by kernel_rfl) rfl ?_
 repeat'(first|refine wk0 ?_|(refine wk2 ?_ ?_<;>intro _)|refine wk4 ?_|fail);all_goals(conv=>whnf)
 refine Gg (env2:=[(1,.ptr 0 0 0),(3,.ptr 1 0 0),(6,.func 50 [h.av] [])]) (σ2:=⟨[(1,.row 1 [[I 0]] true false),(0,.row 9 [h.cells] true false)],2⟩) (Ty [] rfl (kps) (kps)) ?_
 refine rngV (itW hf) rfl rfl rfl rfl (Zey (S:=Int) (fun s=>[(1,.row 1 [[I s]] true false),(0,.row 9 [h.cells] true false)]) 2 2 (fun xs s=>∃ l:List Wl,xs=l.map (fun w=>[w.av])/\l.foldl Zws s=Zcz h) ?_ ?_ _ 0 ⟨_,rfl,rfl⟩)
 ·rintro x xs s ⟨l,h1,h2⟩
  cases l with
  | nil=>simp at h1
  | cons w l =>
   simp only [Sz,Rb] at h1
   obtain ⟨rfl,rfl⟩:=h1
   refine ⟨rfl,bs.av (sx:=nos) Xx ?_⟩
   repeat'(first|refine wk0 ?_|(refine wk2 ?_ ?_<;>intro _)|refine wk4 ?_|fail);all_goals(conv=>whnf)
   refine Bd.mk (bs.av (sx:=nos) Xx ?_)
   repeat'(first|refine wk0 ?_|(refine wk2 ?_ ?_<;>intro _)|refine wk4 ?_|fail);all_goals(conv=>whnf)
   exact Qo ⟨_,[],rfl,kps,l,rfl,h2⟩
 ·rintro s ⟨l,h1,h2⟩
  cases l with
  | cons w l=>simp at h1
  | nil =>
   repeat'(first|refine wk0 ?_|(refine wk2 ?_ ?_<;>intro _)|refine wk4 ?_|fail);all_goals(conv=>whnf)
   exact Za h2
def Rc.meets (q:Rc) (w:Wl):Bool :=
 if decide (imax w.fx w.tx<q.xl)||decide (q.xh<imin w.fx w.tx)||decide (imax w.fy w.ty<q.yl)||decide (q.yh<imin w.fy w.ty) then false
 else decide (imin (imin (imin (imin 1 (w.side q.xl q.yl 1)) (w.side q.xl q.yh 1)) (w.side q.xh q.yl 1)) (w.side q.xh q.yh 1)<=0)&&decide (0<=imax (imax (imax (imax (-1) (w.side q.xl q.yl 1)) (w.side q.xl q.yh 1)) (w.side q.xh q.yl 1)) (w.side q.xh q.yh 1))
theorem c213 (q:Rc) (w:Wl):PCall Tryz.prog 197 [q.av,w.av] ⟨Bo (q.meets w),[]⟩:=by
 obtain ⟨wn,wa,wb,wc,wd⟩:=w
 refine bs.pv (sx:=nos) Xx Tryz.func197 (by kernel_rfl) (by kernel_rfl) rfl ?_
 repeat'(first|refine wk0 ?_|(refine wk2 ?_ ?_<;>intro _)|refine wk4 ?_|fail);all_goals(conv=>whnf)
 all_goals try exact Zc (by simp_all [Rc.meets])
 refine Wp 5 ?_
 refine Rp (bs.av (sx:=nos) Xx ?_)
 repeat'(first|refine wk0 ?_|(refine wk2 ?_ ?_<;>intro _)|refine wk4 ?_|fail);all_goals(conv=>whnf)
 refine Rp (bs.av (sx:=nos) Xx ?_)
 repeat'(first|refine wk0 ?_|(refine wk2 ?_ ?_<;>intro _)|refine wk4 ?_|fail);all_goals(conv=>whnf)
 refine Rp (bs.av (sx:=nos) Xx ?_)
 repeat'(first|refine wk0 ?_|(refine wk2 ?_ ?_<;>intro _)|refine wk4 ?_|fail);all_goals(conv=>whnf)
 refine Rp (bs.av (sx:=nos) Xx ?_)
 repeat'(first|refine wk0 ?_|(refine wk2 ?_ ?_<;>intro _)|refine wk4 ?_|fail);all_goals(conv=>whnf)
 refine Rp (bs.av (sx:=nos) Xx ?_)
 repeat'(first|refine wk0 ?_|(refine wk2 ?_ ?_<;>intro _)|refine wk4 ?_|fail);all_goals(conv=>whnf)
 all_goals exact Zc (by simp_all [Rc.meets]<;>omega)
def r213:List AV->Option PRes
 | [.agg [.int .i64 a,.int .i64 b,.int .i64 c,.int .i64 d],.agg [.int .i64 n,.int .i64 fx,.int .i64 fy,.int .i64 tx,.int .i64 ty]]=>some ⟨Bo (Rc.meets ⟨a,b,c,d⟩ ⟨n,fx,fy,tx,ty⟩),[]⟩
 | _=>none
def r195:List AV->Option PRes
 | [.agg [.int .i64 m,.int .i64 a,.int .i64 b,.int .i64 c,.int .i64 d],.agg [.int .i64 n,.int .i64 fx,.int .i64 fy,.int .i64 tx,.int .i64 ty]]=>some ⟨Bo (Wl.turnsBack ⟨m,a,b,c,d⟩ ⟨n,fx,fy,tx,ty⟩),[]⟩
 | _=>none
def r196:List AV->Option PRes
 | [.agg [.int .i64 m,.int .i64 a,.int .i64 b,.int .i64 c,.int .i64 d],.agg [.int .i64 n,.int .i64 fx,.int .i64 fy,.int .i64 tx,.int .i64 ty]]=>some ⟨Bo (Wl.touches ⟨m,a,b,c,d⟩ ⟨n,fx,fy,tx,ty⟩),[]⟩
 | _=>none
def r142:List AV->Option PRes
 | [.agg [.int .i64 x,.int .i64 y]]=>some ⟨Bo (Zg2 x y),[]⟩
 | _=>none
def r114:List AV->Option PRes
 | [.agg [.int .i64 x,.int .i64 y,.int .i64 z]]=>some ⟨P4 x y z 1,[]⟩
 | _=>none
def r102:List AV->Option PRes
 | [.bool b,.int .i64 e]=>some ⟨I (unl b e),[]⟩
 | _=>none
def r170:List AV->Option PRes
 | [.agg [nm,mt,.int .i64 a,.int .i64 b,.int .i64 c,.int .i64 d,hs]]=>some ⟨(rcOf a b c d).av,[]⟩
 | _=>none
def kG4:PC:=ins 197 r213 (ins 191 r195 (ins 192 r196 (ins 147 r142 (ins 26 r114 (ins 110 r102 (ins 99 r170 kG3))))))
theorem Ua:PCOK Tryz.prog kG4:=by
 refine Zj (fun a res h=>?_) (Zj (fun a res h=>?_) (Zj (fun a res h=>?_) (Zj (fun a res h=>?_) (Zj (fun a res h=>?_) (Zj (fun a res h=>?_) (Zj (fun a res h=>?_) Xx))))))
 ·unfold r213 at h; split at h<;>cases h; exact c213 ⟨_,_,_,_⟩ ⟨_,_,_,_,_⟩
 ·unfold r195 at h; split at h<;>cases h; exact c195 ⟨_,_,_,_,_⟩ ⟨_,_,_,_,_⟩
 ·unfold r196 at h; split at h<;>cases h; exact c196 ⟨_,_,_,_,_⟩ ⟨_,_,_,_,_⟩
 ·unfold r142 at h; split at h<;>cases h; exact c142 _ _
 ·unfold r114 at h; split at h<;>cases h; exact c114 _ _ _
 ·unfold r102 at h; split at h<;>cases h; exact c102 _ _
 ·unfold r170 at h; split at h<;>cases h; exact c170 _ _ _ _ _ _ _
def flips (x y d:Int) (w:Wl):Bool :=
 ((decide (Qa Qb (w.fy*d)<=y)&&decide (y<Qa Qb (w.ty*d)))&&decide (0<w.side x y d))||((decide (Qa Qb (w.ty*d)<=y)&&decide (y<Qa Qb (w.fy*d)))&&decide (w.side x y d<0))
def inPl (x y d:Int):Bool->List Wl->Bool
 | b,[]=>b
 | b,w::l=>if w.has x y d then false else inPl x y d (b ^^ flips x y d w) l
theorem Znf {x y d:Int} {b:Bool} {w:Wl} {l:List Wl} (h:w.has x y d=false):inPl x y d b (w::l)=inPl x y d (b ^^ flips x y d w) l:=by rw [inPl,if_neg (by simp [h])]
def Ya (h:Hal) (x y d:Int):Bool:=inPl x y d false (wls h.cs)
theorem c183 {h:Hal} (hf:h.few) (x y d:Int):PCall Tryz.prog 53 [h.av,I x,I y,I d] ⟨Bo (Ya h x y d),[]⟩:=by
 refine bs.pv (sx:=nos) Ua Tryz.func53 (by kernel_rfl) (by kernel_rfl) rfl ?_
 repeat'(first|refine wk0 ?_|(refine wk2 ?_ ?_<;>intro _)|refine wk4 ?_|fail);all_goals(conv=>whnf)
 refine Gg (env2:=[(4,.ptr 0 0 0),(5,.ptr 1 0 0),(6,.ptr 2 0 0),(7,.ptr 3 0 0),(8,.ptr 4 0 0),(9,.ptr 5 0 0),(15,.func 50 [h.av] [])])
  (σ2:=⟨[(5,.row 1 [[Bo false]] true false),(4,.row 1 [[Bo false]] true false),(3,.row 1 [[I d]] true false),(2,.row 1 [[I y]] true false),(1,.row 1 [[I x]] true false),(0,.row 9 [h.cells] true false)],6⟩) (Ty [] rfl (kps) (kps)) ?_
 refine rngV (itW hf) rfl rfl rfl rfl (Zey (S:=Bool) (fun s=>[(5,.row 1 [[Bo s]] true false),(4,.row 1 [[Bo false]] true false),(3,.row 1 [[I d]] true false),(2,.row 1 [[I y]] true false),(1,.row 1 [[I x]] true false),(0,.row 9 [h.cells] true false)]) 6 6 (fun xs s=>∃ l:List Wl,xs=l.map (fun w=>[w.av])/\inPl x y d s l=Ya h x y d) ?_ ?_ _ false ⟨_,rfl,rfl⟩)
 ·rintro u us s ⟨l,h1,h2⟩
  cases l with
  | nil=>simp at h1
  | cons w l =>
   simp only [Sz,Rb] at h1
   obtain ⟨rfl,rfl⟩:=h1
   obtain ⟨wn,wa,wb,wc,wd⟩:=w
   refine ⟨rfl,bs.av (sx:=nos) Ua ?_⟩
   repeat'(first|refine wk0 ?_|(refine wk2 ?_ ?_<;>intro _)|refine wk4 ?_|fail);all_goals(conv=>whnf)
   refine Bd.mk (bs.av (sx:=nos) Ua ?_)
   repeat'(first|refine wk0 ?_|(refine wk2 ?_ ?_<;>intro _)|refine wk4 ?_|fail);all_goals(conv=>whnf)
   all_goals first
    | exact Zc (by rw [<-h2]; simp_all [inPl])
    | exact Qo ⟨_,[],rfl,kps,l,rfl,by rw [<-h2,Znf (by assumption)]; congr 1; clear h2; cases s<;>simp_all [flips]<;>omega⟩
 ·rintro s ⟨l,h1,h2⟩
  cases l with
  | cons w l=>simp at h1
  | nil =>
   repeat'(first|refine wk0 ?_|(refine wk2 ?_ ?_<;>intro _)|refine wk4 ?_|fail);all_goals(conv=>whnf)
   exact Zc h2
def Ze6 (h:Hal) (q:Rc):Bool:=(wls h.cs).all (fun w=>!q.meets w)&&Ya h q.xl q.yl 1
theorem c197 {h:Hal} (hf:h.few) (q:Rc):PCall Tryz.prog 193 [h.av,q.av] ⟨Bo (Ze6 h q),[]⟩:=by
 have hc:=c183 hf q.xl q.yl 1
 refine bs.pv (sx:=fun f=>Ql f 53) Ua Tryz.func193 (by kernel_rfl) (by kernel_rfl) rfl ?_
 repeat'(first|refine wk0 ?_|(refine wk2 ?_ ?_<;>intro _)|refine wk4 ?_|fail);all_goals(conv=>whnf)
 refine Gg (env2:=[(2,.ptr 0 0 0),(3,.ptr 1 0 0),(4,.ptr 2 0 0),(7,.func 50 [h.av] [])])
  (σ2:=⟨[(2,.row 1 [[Bo false]] true false),(1,.row 4 [[I q.xl,I q.xh,I q.yl,I q.yh]] true false),(0,.row 9 [h.cells] true false)],3⟩) (Ty [] rfl (kps) (kps)) ?_
 refine rngV (itW hf) rfl rfl rfl rfl (Zey (S:=Unit) (fun _=>[(2,.row 1 [[Bo false]] true false),(1,.row 4 [[I q.xl,I q.xh,I q.yl,I q.yh]] true false),(0,.row 9 [h.cells] true false)]) 3 3 (fun xs _=>∃ l:List Wl,xs=l.map (fun w=>[w.av])/\(l.all (fun w=>!q.meets w)&&Ya h q.xl q.yl 1)=Ze6 h q) ?_ ?_ _ () ⟨_,rfl,rfl⟩)
 ·rintro u us s ⟨l,h1,h2⟩
  cases l with
  | nil=>simp at h1
  | cons w l =>
   simp only [Sz,Rb] at h1
   obtain ⟨rfl,rfl⟩:=h1
   obtain ⟨wn,wa,wb,wc,wd⟩:=w
   refine ⟨rfl,bs.av (sx:=nos) Ua ?_⟩
   repeat'(first|refine wk0 ?_|(refine wk2 ?_ ?_<;>intro _)|refine wk4 ?_|fail);all_goals(conv=>whnf)
   refine Bd.mk (bs.av (sx:=nos) Ua ?_)
   repeat'(first|refine wk0 ?_|(refine wk2 ?_ ?_<;>intro _)|refine wk4 ?_|fail);all_goals(conv=>whnf)
   all_goals first
    | exact Zc (by rw [<-h2]; simp_all)
    | exact Qo ⟨(),[],rfl,kps,l,rfl,by rw [<-h2]; simp_all⟩
 ·rintro s ⟨l,h1,h2⟩
  cases l with
  | cons w l=>simp at h1
  | nil =>
   repeat'(first|refine wk0 ?_|(refine wk2 ?_ ?_<;>intro _)|refine wk4 ?_|fail);all_goals(conv=>whnf)
   refine SCt.pc hc rfl ?_
   repeat'(first|refine wk0 ?_|(refine wk2 ?_ ?_<;>intro _)|refine wk4 ?_|fail);all_goals(conv=>whnf)
   exact Zc (by rw [<-h2]; rfl)
def Zek (n:Int) (a b:Wl):Bool :=
 decide (b.n<=a.n)||(!((decide (b.n=Qa Qb (a.n+1))&&a.turnsBack b)||((decide (a.n=0)&&decide (b.n=Qa Qb (n-1)))&&b.turnsBack a))&&((decide (b.n=Qa Qb (a.n+1))||(decide (a.n=0)&&decide (b.n=Qa Qb (n-1)))) || !a.touches b))
def Xr (h:Hal):Bool:=(wls h.cs).all fun a=>(wls h.cs).all fun b=>Zek h.cs.length a b
theorem c148 {h:Hal} (hf:h.few):PCall Tryz.prog 152 [h.av] ⟨Bo (Xr h),[]⟩:=by
 refine bs.pv (sx:=nos) Ua Tryz.func152 (by kernel_rfl) (by kernel_rfl) rfl ?_
 repeat'(first|refine wk0 ?_|(refine wk2 ?_ ?_<;>intro _)|refine wk4 ?_|fail);all_goals(conv=>whnf)
 have hlen:(h.cs.map pt).length=h.cs.length:=by simp
 refine Gg (env2:=[(1,.ptr 0 0 0),(2,.ptr 1 0 0),(3,.ptr 2 0 0),(11,.func 50 [h.av] [])])
  (σ2:=⟨[(2,.row 1 [[I (h.cs.map pt).length]] true false),(1,.row 1 [[Bo false]] true false),(0,.row 9 [h.cells] true false)],3⟩) (Ty [] rfl (kps) (kps)) ?_
 refine rngV (itW hf) rfl rfl rfl rfl (Zey (S:=Unit) (fun _=>[(2,.row 1 [[I (h.cs.map pt).length]] true false),(1,.row 1 [[Bo false]] true false),(0,.row 9 [h.cells] true false)]) 3 3 (fun xs _=>∃ l:List Wl,xs=l.map (fun w=>[w.av])/\(l.all fun a=>(wls h.cs).all fun b=>Zek h.cs.length a b)=Xr h) ?_ ?_ _ () ⟨_,rfl,rfl⟩)
 ·rintro u us s ⟨l,h1,h2⟩
  cases l with
  | nil=>simp at h1
  | cons a l =>
   simp only [Sz,Rb] at h1
   obtain ⟨rfl,rfl⟩:=h1
   obtain ⟨wn,wa,wb,wc,wd⟩:=a
   refine ⟨rfl,bs.av (sx:=nos) Ua ?_⟩
   repeat'(first|refine wk0 ?_|(refine wk2 ?_ ?_<;>intro _)|refine wk4 ?_|fail);all_goals(conv=>whnf)
   refine Bd.mk (bs.av (sx:=nos) Ua ?_)
   repeat'(first|refine wk0 ?_|(refine wk2 ?_ ?_<;>intro _)|refine wk4 ?_|fail);all_goals(conv=>whnf)
   refine Gg (env2:=[(1,.ptr 0 0 0),(2,.ptr 1 0 0),(3,.ptr 2 0 0),(4,.ptr 3 0 0),(14,.func 50 [h.av] [])])
    (σ2:=⟨[(3,.row 5 [[I wn,I wa,I wb,I wc,I wd]] true false),(2,.row 1 [[I (h.cs.map pt).length]] true false),(1,.row 1 [[Bo false]] true false),(0,.row 9 [h.cells] true false)],4⟩) (Ty [] rfl (kps) (kps)) ?_
   refine rngV (itW hf) rfl rfl rfl rfl (Zey (S:=Unit) (fun _=>[(3,.row 5 [[I wn,I wa,I wb,I wc,I wd]] true false),(2,.row 1 [[I (h.cs.map pt).length]] true false),(1,.row 1 [[Bo false]] true false),(0,.row 9 [h.cells] true false)]) 4 4
    (fun xs _=>∃ m:List Wl,xs=m.map (fun w=>[w.av])/\(m.all (fun b=>Zek h.cs.length ⟨wn,wa,wb,wc,wd⟩ b)&&(l.all fun a=>(wls h.cs).all fun b=>Zek h.cs.length a b))=Xr h) ?_ ?_ _ () ⟨_,rfl,h2⟩)
   ·rintro u us s ⟨m,h1,h3⟩
    cases m with
    | nil=>simp at h1
    | cons b m =>
     simp only [Sz,Rb] at h1
     obtain ⟨rfl,rfl⟩:=h1
     obtain ⟨vn,va,vb,vc,vd⟩:=b
     refine ⟨rfl,bs.av (sx:=nos) Ua ?_⟩
     repeat'(first|refine wk0 ?_|(refine wk2 ?_ ?_<;>intro _)|refine wk4 ?_|fail);all_goals(conv=>whnf)
     refine Bd.mk (bs.av (sx:=nos) Ua ?_)
     repeat'(first|refine wk0 ?_|(refine wk2 ?_ ?_<;>intro _)|refine wk4 ?_|fail);all_goals(conv=>whnf)
     all_goals (clear h2)
     all_goals first
      | exact Zc (by rw [<-h3]; simp_all [Zek]<;>omega)
      | exact Qo ⟨(),[],rfl,kps,m,rfl,by rw [<-h3]; simp_all [Zek]<;>omega⟩
   ·rintro s ⟨m,h1,h3⟩
    cases m with
    | cons w l=>simp at h1
    | nil =>
     repeat'(first|refine wk0 ?_|(refine wk2 ?_ ?_<;>intro _)|refine wk4 ?_|fail);all_goals(conv=>whnf)
     exact Qo ⟨(),[],rfl,kps,l,rfl,h3⟩
 ·rintro s ⟨l,h1,h2⟩
  cases l with
  | cons w l=>simp at h1
  | nil =>
   repeat'(first|refine wk0 ?_|(refine wk2 ?_ ?_<;>intro _)|refine wk4 ?_|fail);all_goals(conv=>whnf)
   exact Zc h2
def Zi2 (n:Int):Bool:=(decide (97<=n)&&decide (n<=122))||(decide (65<=n)&&decide (n<=90))
def Zj0 (first:Bool) (n:Int):Bool:=Zi2 n||(!first&&(decide (n=45)||(decide (48<=n)&&decide (n<=57))))
def Zcp:Bool->List UInt8->Bool
 | _,[]=>true
 | b,c::l=>Zj0 b c.toNat&&Zcp false l
def Vp (s:ByteArray):Bool:=Zcp true s.data.toList&&(!(s==⟨#[]⟩)&&decide ((s.size:Int)<=12))
theorem Zwm (s:ByteArray):(Vx s).length=s.data.toList.length:=by simp [Vx]
theorem Yey {s:ByteArray} {k:Nat} (h:k<s.data.toList.length):(Vx s)[((k:Nat):Int).toNat]?=some [.int .u8 (s.data.toList[k]).toNat]:=by
 simp only [Vx,Int.toNat_natCast,List.getElem?_map]
 rw [List.getElem?_eq_getElem h]; rfl
theorem Zit (b:Bool) (c:UInt8) (l:List UInt8):Zcp b (c::l)=(Zj0 b c.toNat&&Zcp false l):=rfl
theorem c131 {s:ByteArray} (hs:s.data.toList.length<100000):PCall Tryz.prog 136 [.str s] ⟨Bo (Vp s),[]⟩:=by
 refine bs.pv (sx:=nos) Zd Tryz.func136 (by kernel_rfl) (by kernel_rfl) rfl ?_
 refine Zz (S:=Nat × Int) (fun t=>s.data.toList.length-t.1) (fun t=>[(0,.str s),(7,.isl 1 (Vx s)),(8,I (Vx s).length),(9,I t.2)]) (fun _=>[]) 0 0 (fun t=>t.2=t.1/\t.1<=s.data.toList.length/\Zcp (decide (t.1=0)) (s.data.toList.drop t.1)=Zcp true s.data.toList) (0,0) ⟨rfl,Qm _,rfl⟩ (Qd _) [] rfl (kps) (kps) ?_
 rintro ⟨k,i⟩ ⟨hi,hk,hh⟩
 dsimp only at hi hk hh ⊢
 subst hi
 refine bs.av (sx:=nos) Zd ?_
 have e3:=Zwm s
 by_cases hlt:k<s.data.toList.length
 ·have e1:=Yey hlt
  rw [Qi hlt,Zit] at hh
  generalize (s.data.toList[k]).toNat=c at *
  repeat'(first|refine wk1 ?_|(refine wk2 ?_ ?_<;>intro _)|refine wk4 ?_|fail);all_goals(conv=>whnf)
  all_goals (clear e1 e3)
  all_goals first
   | exact Zc (by
     have hg:Zj0 (decide (k=0)) c=false:=by clear hh; simp_all [Zj0,Zi2]<;>omega
     rw [hg,Bool.false_and] at hh
     rw [Vp,<-hh]; rfl)
   | exact Qo ⟨(k+1,_),[],rfl,kps,trivial,⟨Zi (by omega),hlt,by
     have hg:Zj0 (decide (k=0)) c=true:=by clear hh; simp_all [Zj0,Zi2]<;>omega
     rw [hg,Bool.true_and] at hh
     exact hh⟩,by dsimp only; omega⟩
 ·rw [Qj (by omega)] at hh
  have hn:Zcp true s.data.toList=true:=hh.symm
  clear hh
  repeat'(first|refine wk1 ?_|(refine wk2 ?_ ?_<;>intro _)|refine wk4 ?_|fail);all_goals(conv=>whnf)
  all_goals exact Zc (by simp_all [Vp])
def Zy (s:ByteArray) (ns:List ByteArray):Int:=if Vp s then (if Vl s ns then 5 else 0) else 4
def r131:List AV->Option PRes
 | [.str s]=>asr (decide (s.data.toList.length<100000)) ⟨Bo (Vp s),[]⟩
 | _=>none
def kG5:PC:=ins 136 r131 kG4
theorem Zcr:PCOK Tryz.prog kG5:=by
 refine Zj (fun a res h=>?_) Ua
 unfold r131 at h; split at h
 ·obtain ⟨h1,rfl⟩:=Zaa h
  exact c131 (of_decide_eq_true h1)
 ·cases h
noncomputable def one (a0:List AV) (r:PRes) (a:List AV):Option PRes:=by
 classical exact if a=a0 then some r else none
theorem Ybl (a:List AV) (r:PRes):one a r a=some r:=by unfold one; simp
theorem Ze {f0:FuncId} {a0:List AV} {r:PRes} {pt:PC} (h0:PCall Tryz.prog f0 a0 r) (h:PCOK Tryz.prog pt):PCOK Tryz.prog (ins f0 (one a0 r) pt):=by
 refine Zj (fun a res hr=>?_) h
 unfold one at hr
 split at hr
 ·rename_i e; cases hr; rw [e]; exact h0
 ·cases hr
def thou (n:Int):Bool:=within n 0 1000
def Zbk (m:Mat):Int:=if thou m.a&&thou m.b&&thou m.c&&thou m.d&&thou m.sc then 0 else 2
theorem c138 (m:Mat):PCall Tryz.prog 143 [.agg m.av] ⟨I (Zbk m),[]⟩:=by
 refine bs.pv (sx:=nos) Zcr Tryz.func143 (by kernel_rfl) (by kernel_rfl) rfl ?_
 repeat'(first|refine wk0 ?_|(refine wk2 ?_ ?_<;>intro _)|refine wk4 ?_|fail);all_goals(conv=>whnf)
 refine Wp 6 ?_
 iterate 6
  all_goals try (refine Rp (bs.av (sx:=nos) Zcr ?_))
  repeat'(first|refine wk0 ?_|(refine wk2 ?_ ?_<;>intro _)|refine wk4 ?_|fail);all_goals(conv=>whnf)
 all_goals exact Za (by simp_all [Zbk,thou])
def Zcd (ht:Int):Option Int->List Int->Int
 | _,[]=>0
 | p,n::l=>if within n 1 (Qa Qb (ht-1)) then (if (match p with
  | some q=>decide (n<=q)
  | none=>false) then 9 else Zcd ht (some n) l) else 2
def Yi (hs:List Int):Nat->Option Int
 | 0=>none
 | k+1=>hs[k]?
def Zf6 (h:Hal) (c:Can):Int :=
 if within c.hs.length 1 4 then (if Zcd h.ht none c.hs=0 then (if Zg2 c.fx c.fy&&Zg2 c.tx c.ty then (if decide (c.fx=c.tx)||decide (c.fy=c.ty) then 11 else unl (Ze6 h (rcOf c.fx c.fy c.tx c.ty)) 24) else 2) else Zcd h.ht none c.hs) else 10
theorem Zgx (ht:Int) (p:Option Int) (n:Int) (l:List Int):Zcd ht p (n::l)=if within n 1 (Qa Qb (ht-1)) then (if (match p with
  | some q=>decide (n<=q)
  | none=>false) then 9 else Zcd ht (some n) l) else 2:=rfl
theorem c155 {h:Hal} (hf:h.few) (c:Can) (hl:c.hs.length<1000):PCall Tryz.prog 160 [h.av,.agg c.av] ⟨I (Zf6 h c),[]⟩:=by
 have hc:=c197 hf (rcOf c.fx c.fy c.tx c.ty)
 have hk:=Ze hc Zcr
 have e3:=Zl c.hs
 refine bs.pv (sx:=nos) hk Tryz.func160 (by kernel_rfl) (by kernel_rfl) rfl ?_
 repeat'(first|refine wk0 ?_|(refine wk2 ?_ ?_<;>intro _)|refine wk4 ?_|fail);all_goals(conv=>whnf)
 ·exact Za (by simp_all [Zf6])
 ·rename_i hw1
  have hw:within c.hs.length 1 4=true:=by rw [e3] at hw1; simpa using hw1
  refine Zz (S:=Nat × Int) (fun t=>c.hs.length-t.1) (fun t=>[(2,.ptr 0 0 0),(3,.ptr 1 0 0),(13,.isl 1 (nl c.hs)),(14,I (nl c.hs).length),(15,I t.2)]) (fun _=>[(1,.row 7 [c.av] true false),(0,.row 9 [h.cells] true false)]) 2 2
   (fun t=>t.2=t.1/\t.1<=c.hs.length/\Zcd h.ht (Yi c.hs t.1) (c.hs.drop t.1)=Zcd h.ht none c.hs) (0,0) ⟨rfl,Qm _,rfl⟩ (Qd _) [] rfl (kps) (kps) ?_
  rintro ⟨k,i⟩ ⟨hi,hk',hh⟩
  dsimp only at hi hk' hh ⊢
  subst hi
  refine bs.av (sx:=nos) hk ?_
  by_cases hlt:k<c.hs.length
  ·have e1:=Uo hlt
   rw [Qi hlt,Zgx] at hh
   have e4:Qa Qb ((k:Int)-1)=(k:Int)-1:=W_eq (by omega) (by omega)
   have hh:=hh.symm
   cases k with
   | zero =>
    repeat'(first|refine wk1 ?_|(refine wk2 ?_ ?_<;>intro _)|refine wk4 ?_|fail);all_goals(conv=>whnf)
    all_goals first
     | exact Za (by simp_all [Zf6,Yi])
     | exact Qo ⟨(1,_),[],rfl,kps,kps,⟨by exact Zi (k:=0) (by omega),hlt,by simp_all [Yi]⟩,by dsimp only; omega⟩
   | succ k =>
    have e5:(nl c.hs)[(Qa Qb (((k+1:Nat):Int)-1)).toNat]?=some [I c.hs[k]]:=by
     rw [e4,show ((k+1:Nat):Int)-1=(k:Int) by omega]; exact Uo (by omega)
    have e6:Yi c.hs (k+1)=some c.hs[k]:=by simp [Yi,show k<c.hs.length by omega]
    rw [e6] at hh
    repeat'(first|refine wk1 ?_|(refine wk2 ?_ ?_<;>intro _)|refine wk4 ?_|fail);all_goals(conv=>whnf)
    all_goals (clear e1 e5)
    all_goals first
     | exact Za (by simp_all [Zf6])
     | exact Qo ⟨(k+2,_),[],rfl,kps,kps,⟨by exact Zi (k:=k+1) (by omega),hlt,by rw [hh,if_pos (by clear hh; simp_all),if_neg (by clear hh; simp_all)]; simp [Yi,hlt]⟩,by dsimp only; omega⟩
  ·rw [Qj (by omega)] at hh
   have hh:Zcd h.ht none c.hs=0:=by rw [<-hh]; cases Yi c.hs k<;>rfl
   repeat'(first|refine wk1 ?_|(refine wk2 ?_ ?_<;>intro _)|refine wk4 ?_|fail);all_goals(conv=>whnf)
   all_goals (clear hc hk)
   all_goals exact Za (by simp_all [Zf6])
def Znl (h:Hal) (x y z d:Int):Bool:=(decide (0<z)&&decide (z<Qa Qb (h.ht*d)))&&Ya h x y d
theorem c124 {h:Hal} (hf:h.few) (x y z d:Int):PCall Tryz.prog 49 [h.av,P4 x y z d] ⟨Bo (Znl h x y z d),[]⟩:=by
 have hk:=Ze (c183 hf x y d) Zcr
 refine bs.pv (sx:=nos) hk Tryz.func49 (by kernel_rfl) (by kernel_rfl) rfl ?_
 repeat'(first|refine wk0 ?_|(refine wk2 ?_ ?_<;>intro _)|refine wk4 ?_|fail);all_goals(conv=>whnf)
 all_goals (clear hk)
 all_goals exact Zc (by simp_all [Znl]<;>omega)
def Zgp (h:Hal) (x y z:Int):Int:=if small x 5000&&small y 5000&&small z 5000 then (if Znl h x y z 1 then 0 else 24) else 2
theorem c160 {h:Hal} (hf:h.few) (x y z:Int):PCall Tryz.prog 24 [h.av,P3 x y z] ⟨I (Zgp h x y z),[]⟩:=by
 have hk:=Ze (c124 hf x y z 1) Zcr
 refine bs.pv (sx:=nos) hk Tryz.func24 (by kernel_rfl) (by kernel_rfl) rfl ?_
 repeat'(first|refine wk0 ?_|(refine wk2 ?_ ?_<;>intro _)|refine wk4 ?_|fail);all_goals(conv=>whnf)
 all_goals (clear hk)
 all_goals exact Za (by simp_all [Zgp]<;>omega)
theorem c129 (b:Bool) (e:Int):PCall Tryz.prog 134 [Bo b,I e] ⟨.func 135 [] [.ptr 0 0 0,.ptr 1 0 0],[(1,[[Bo b]]),(1,[[I e]])]⟩:=by
 refine bs.pv (sx:=nos) Zcr Tryz.func134 (by kernel_rfl) (by kernel_rfl) rfl ?_
 repeat'(first|refine wk0 ?_|(refine wk2 ?_ ?_<;>intro _)|refine wk4 ?_|fail);all_goals(conv=>whnf)
 exact Xg [0,1] rfl rfl rfl
theorem c130 (b:Bool) (e:Int):PCall Tryz.prog 135 [.ipt [Bo b],.ipt [I e]] ⟨.tup [I 0,I (unl b e)],[]⟩:=by
 refine bs.pv (sx:=nos) Zcr Tryz.func135 (by kernel_rfl) (by kernel_rfl) rfl ?_
 repeat'(first|refine wk0 ?_|(refine wk2 ?_ ?_<;>intro _)|refine wk4 ?_|fail);all_goals(conv=>whnf)
 exact Zf rfl rfl
theorem c147 {h:Hal} (hf:h.few):PCall Tryz.prog 151 [.ipt h.cells] ⟨.tup [I 0,I (unl (Xr h) 24)],[]⟩:=by
 have hk:=Ze (c148 hf) Zcr
 refine bs.pv (sx:=nos) hk Tryz.func151 (by kernel_rfl) (by kernel_rfl) rfl ?_
 repeat'(first|refine wk0 ?_|(refine wk2 ?_ ?_<;>intro _)|refine wk4 ?_|fail);all_goals(conv=>whnf)
 exact Zf rfl rfl
theorem c149 {h:Hal} (hf:h.few):PCall Tryz.prog 153 [.ipt h.cells] ⟨.tup [I 0,I (unl (decide (0<Zcz h)) 9)],[]⟩:=by
 have hk:=Ze (c122 hf) Zcr
 refine bs.pv (sx:=nos) hk Tryz.func153 (by kernel_rfl) (by kernel_rfl) rfl ?_
 repeat'(first|refine wk0 ?_|(refine wk2 ?_ ?_<;>intro _)|refine wk4 ?_|fail);all_goals(conv=>whnf)
 exact Zf rfl rfl
def r129:List AV->Option PRes
 | [.bool b,.int .i64 e]=>some ⟨.func 135 [] [.ptr 0 0 0,.ptr 1 0 0],[(1,[[Bo b]]),(1,[[I e]])]⟩
 | _=>none
def kG6:PC:=ins 134 r129 kG5
theorem Xw:PCOK Tryz.prog kG6:=by
 refine Zj (fun a res h=>?_) Zcr
 unfold r129 at h; split at h<;>cases h; exact c129 _ _
def Yex:List AV:=[I 0,.func 135 [] [.ptr 13 0 0,.ptr 14 0 0],I 0,.func 135 [] [.ptr 21 0 0,.ptr 22 0 0],I 0,.func 135 [] [.ptr 30 0 0,.ptr 31 0 0],I 1,.func 137 [] [.ptr 0 0 0,.ptr 6 0 0],I 0,.func 144 [] [.ptr 6 0 0,.ptr 0 0 0],
 I 0,.func 135 [] [.ptr 52 0 0,.ptr 53 0 0],I 0,.func 135 [] [.ptr 61 0 0,.ptr 62 0 0],I 2,.func 145 [] [.ptr 0 0 0],I 3,.func 148 [] [.ptr 0 0 0,.ptr 2 0 0,.ptr 7 0 0,.ptr 6 0 0],I 0,.func 151 [] [.ptr 2 0 0],I 0,.func 153 [] [.ptr 2 0 0],
 I 0,.func 135 [] [.ptr 78 0 0,.ptr 79 0 0],I 4,.func 155 [] [.ptr 0 0 0,.ptr 7 0 0,.ptr 6 0 0,.ptr 2 0 0],I 0,.func 135 [] [.ptr 89 0 0,.ptr 90 0 0],I 5,.func 161 [] [.ptr 0 0 0,.ptr 8 0 0,.ptr 2 0 0]]
abbrev b1 (v:AV):ABlk:=.row 1 [[v]] true false
abbrev bp (v:AV):ABlk:=.row 1 [[v]] true true
structure Set7 where
 a:Bool
 b:Bool
 c:Bool
 d:Bool
 e:Bool
 f:Bool
 g:Bool
abbrev Zn (h:Hal) (s:Set7) (ms su se:List ByteArray):List (Nat × ABlk) :=
  [(90, bp (I 8)), (89, bp (Bo s.g)), (79, bp (I 8)), (78, bp (Bo s.f)), (62, bp (I 8)), (61, bp (Bo s.e)), (53, bp (I 10)), (52, bp (Bo s.d)), (31, bp (I 8)), (30, bp (Bo s.c)), (22, bp (I 2)), (21, bp (Bo s.b)), (14, bp (I 4)), (13, bp (Bo s.a)),
   (8, b1 (.amap 5)), (7, b1 (.amap 4)), (6, b1 (.amap 3)), (5, .set se), (4, .set su), (3, .set ms), (2, .row 9 [h.cells] true false), (1, .row 2 [[I 0, I 0]] true false), (0, .row 9 [h.cells] true false)]
abbrev Ut (k:Nat):Env:=[(2,.ptr 1 0 0),(93,.agg Yex),(94,I k)]
def set7 (h:Hal):Set7:=⟨Vp h.nm,within h.ht 2 5000,decide ((h.ms.length:Int)<=10),decide (3<=(h.cs.length:Int))&&decide ((h.ws.length:Int)=h.cs.length),decide ((h.ws.length:Int)<=12),decide ((h.ks.length:Int)<=4),decide ((h.ss.length:Int)<=40)⟩
def Vi:ByteArray:=⟨#[102,108,111,111,114]⟩
def Zbt:ByteArray:=⟨#[99,101,105,108,105,110,103]⟩
def su0:List ByteArray:=addK Zbt (addK Vi [])
def Zpw:Nat->Code->Code
 | n+1,.seq _ y=>Zpw n y
 | _,c=>c
def Zz2:Code->Code
 | .seq (.seq _ b) y=>.seq b y
 | .seq _ y=>y
 | c=>c
noncomputable def Yap:Code:=match Tryz.f73.body with
 | some c=>c
 | none=>.skip
def r130:List AV->Option PRes
 | [.ipt [.bool b],.ipt [.int .i64 e]]=>some ⟨.tup [I 0,I (unl b e)],[]⟩
 | _=>none
def kG7 (h:Hal) (pt:PC):PC:=ins 135 r130 pt
theorem Yd4 (h:Hal) {pt:PC} (hp:PCOK Tryz.prog pt):PCOK Tryz.prog (kG7 h pt):=by
 refine Zj (fun a res h=>?_) hp
 unfold r130 at h; split at h<;>cases h; exact c130 _ _
noncomputable def lc63:Code:=match Zz2 (Zpw 5 Yap) with
 | .seq (.block _ (.loop c)) _=>c
 | _=>.skip
noncomputable def tc63:Code:=match Zz2 (Zpw 5 Yap) with
 | .seq _ y=>y
 | _=>.skip
abbrev R63 (res:PRes):Exit->Env->St->Prop:=retQ (tget tbl) Tryz.f73.results.toList fun v σ=>fA v fun v=>Ret res v σ
abbrev Q63 (res:PRes):Exit->Env->St->Prop:=Zdp 0 (seqQ (fun env' σ'=>bs.vcode nos kG6 Tryz.f73.ntmps tc63 env' σ' (R63 res)) (R63 res))
abbrev chkV (p:Int × Int × Int):AV:=.tup [P2 p.1 p.2.1,I p.2.2]
abbrev It63 (sx:FuncId->Bool) (pt:PC) (res:PRes) (k:Nat) (H:List (Nat × ABlk)) (K:Env->St->Prop):Prop :=
 bs.vcode sx pt Tryz.f73.ntmps lc63 (Ut k) ⟨H,98⟩ (seqQ (fun e s=>Done (K e s)) (Q63 res))
theorem it0 {h:Hal} {s:Set7} {ms su se:List ByteArray} {res:PRes} {K:Env->St->Prop} (hR:unl s.a 4≠0->res=⟨chkV (0,0,unl s.a 4),[]⟩)
  (hK:unl s.a 4=0->∀ e σ,Ren 98 e σ (Ut 1) ⟨Zn h s ms su se,98⟩->K e σ):It63 nos (kG7 h kG6) res 0 (Zn h s ms su se) K:=by
 unfold It63 Wk
 repeat'(first|refine wk0 ?_|(refine wk2 ?_ ?_<;>intro _)|refine wk4 ?_|fail);all_goals(conv=>whnf)
 ·rw [hR (by simp_all)]; exact Zf rfl rfl
 ·exact ⟨hK (by simp_all) _ _ (Ty [] rfl (kps) (kps))⟩
theorem it1 {h:Hal} {s:Set7} {ms su se:List ByteArray} {res:PRes} {K:Env->St->Prop} (hR:unl s.b 2≠0->res=⟨chkV (0,0,unl s.b 2),[]⟩)
  (hK:unl s.b 2=0->∀ e σ,Ren 98 e σ (Ut 2) ⟨Zn h s ms su se,98⟩->K e σ):It63 nos (kG7 h kG6) res 1 (Zn h s ms su se) K:=by
 unfold It63 Wk
 repeat'(first|refine wk0 ?_|(refine wk2 ?_ ?_<;>intro _)|refine wk4 ?_|fail);all_goals(conv=>whnf)
 ·rw [hR (by simp_all)]; exact Zf rfl rfl
 ·exact ⟨hK (by simp_all) _ _ (Ty [] rfl (kps) (kps))⟩
theorem it2 {h:Hal} {s:Set7} {ms su se:List ByteArray} {res:PRes} {K:Env->St->Prop} (hR:unl s.c 8≠0->res=⟨chkV (0,0,unl s.c 8),[]⟩)
  (hK:unl s.c 8=0->∀ e σ,Ren 98 e σ (Ut 3) ⟨Zn h s ms su se,98⟩->K e σ):It63 nos (kG7 h kG6) res 2 (Zn h s ms su se) K:=by
 unfold It63 Wk
 repeat'(first|refine wk0 ?_|(refine wk2 ?_ ?_<;>intro _)|refine wk4 ?_|fail);all_goals(conv=>whnf)
 ·rw [hR (by simp_all)]; exact Zf rfl rfl
 ·exact ⟨hK (by simp_all) _ _ (Ty [] rfl (kps) (kps))⟩
theorem it5 {h:Hal} {s:Set7} {ms su se:List ByteArray} {res:PRes} {K:Env->St->Prop} (hR:unl s.d 10≠0->res=⟨chkV (0,0,unl s.d 10),[]⟩)
  (hK:unl s.d 10=0->∀ e σ,Ren 98 e σ (Ut 6) ⟨Zn h s ms su se,98⟩->K e σ):It63 nos (kG7 h kG6) res 5 (Zn h s ms su se) K:=by
 unfold It63 Wk
 repeat'(first|refine wk0 ?_|(refine wk2 ?_ ?_<;>intro _)|refine wk4 ?_|fail);all_goals(conv=>whnf)
 ·rw [hR (by simp_all)]; exact Zf rfl rfl
 ·exact ⟨hK (by simp_all) _ _ (Ty [] rfl (kps) (kps))⟩
theorem it6 {h:Hal} {s:Set7} {ms su se:List ByteArray} {res:PRes} {K:Env->St->Prop} (hR:unl s.e 8≠0->res=⟨chkV (0,0,unl s.e 8),[]⟩)
  (hK:unl s.e 8=0->∀ e σ,Ren 98 e σ (Ut 7) ⟨Zn h s ms su se,98⟩->K e σ):It63 nos (kG7 h kG6) res 6 (Zn h s ms su se) K:=by
 unfold It63 Wk
 repeat'(first|refine wk0 ?_|(refine wk2 ?_ ?_<;>intro _)|refine wk4 ?_|fail);all_goals(conv=>whnf)
 ·rw [hR (by simp_all)]; exact Zf rfl rfl
 ·exact ⟨hK (by simp_all) _ _ (Ty [] rfl (kps) (kps))⟩
theorem it11 {h:Hal} {s:Set7} {ms su se:List ByteArray} {res:PRes} {K:Env->St->Prop} (hR:unl s.f 8≠0->res=⟨chkV (0,0,unl s.f 8),[]⟩)
  (hK:unl s.f 8=0->∀ e σ,Ren 98 e σ (Ut 12) ⟨Zn h s ms su se,98⟩->K e σ):It63 nos (kG7 h kG6) res 11 (Zn h s ms su se) K:=by
 unfold It63 Wk
 repeat'(first|refine wk0 ?_|(refine wk2 ?_ ?_<;>intro _)|refine wk4 ?_|fail);all_goals(conv=>whnf)
 ·rw [hR (by simp_all)]; exact Zf rfl rfl
 ·exact ⟨hK (by simp_all) _ _ (Ty [] rfl (kps) (kps))⟩
theorem it13 {h:Hal} {s:Set7} {ms su se:List ByteArray} {res:PRes} {K:Env->St->Prop} (hR:unl s.g 8≠0->res=⟨chkV (0,0,unl s.g 8),[]⟩)
  (hK:unl s.g 8=0->∀ e σ,Ren 98 e σ (Ut 14) ⟨Zn h s ms su se,98⟩->K e σ):It63 nos (kG7 h kG6) res 13 (Zn h s ms su se) K:=by
 unfold It63 Wk
 repeat'(first|refine wk0 ?_|(refine wk2 ?_ ?_<;>intro _)|refine wk4 ?_|fail);all_goals(conv=>whnf)
 ·rw [hR (by simp_all)]; exact Zf rfl rfl
 ·exact ⟨hK (by simp_all) _ _ (Ty [] rfl (kps) (kps))⟩
theorem it9 {h:Hal} {s:Set7} {ms su se:List ByteArray} {res:PRes} {K:Env->St->Prop} (hR:unl (Xr h) 24≠0->res=⟨chkV (0,0,unl (Xr h) 24),[]⟩)
  (hK:unl (Xr h) 24=0->∀ e σ,Ren 98 e σ (Ut 10) ⟨Zn h s ms su se,98⟩->K e σ):It63 nos (ins 151 (one [.ipt h.cells] ⟨.tup [I 0,I (unl (Xr h) 24)],[]⟩) (kG7 h kG6)) res 9 (Zn h s ms su se) K:=by
 unfold It63 Wk
 repeat'(first|refine wk0 ?_|(refine wk2 ?_ ?_<;>intro _)|refine wk4 ?_|fail);all_goals(conv=>whnf)
 ·rw [hR (by simp_all)]; exact Zf rfl rfl
 ·exact ⟨hK (by simp_all) _ _ (Ty [] rfl (kps) (kps))⟩
theorem it10 {h:Hal} {s:Set7} {ms su se:List ByteArray} {res:PRes} {K:Env->St->Prop} (hR:unl (decide (0<Zcz h)) 9≠0->res=⟨chkV (0,0,unl (decide (0<Zcz h)) 9),[]⟩)
  (hK:unl (decide (0<Zcz h)) 9=0->∀ e σ,Ren 98 e σ (Ut 11) ⟨Zn h s ms su se,98⟩->K e σ):It63 nos (ins 153 (one [.ipt h.cells] ⟨.tup [I 0,I (unl (decide (0<Zcz h)) 9)],[]⟩) (kG7 h kG6)) res 10 (Zn h s ms su se) K:=by
 unfold It63 Wk
 repeat'(first|refine wk0 ?_|(refine wk2 ?_ ?_<;>intro _)|refine wk4 ?_|fail);all_goals(conv=>whnf)
 ·rw [hR (by simp_all)]; exact Zf rfl rfl
 ·exact ⟨hK (by simp_all) _ _ (Ty [] rfl (kps) (kps))⟩
def Zj3 (h:Hal) (ms:List ByteArray):Int:=unl (Vl h.fl ms&&Vl h.ce ms) 6
theorem it4 {h:Hal} {s:Set7} {ms su se:List ByteArray} {res:PRes} {K:Env->St->Prop} (hR:Zj3 h ms≠0->res=⟨chkV (0, 0, Zj3 h ms), []⟩)
    (hK:Zj3 h ms=0->∀ e σ, Ren 98 e σ (Ut 5) ⟨Zn h s ms su se, 98⟩->K e σ):It63 (fun f => Ql f 144) (kG7 h kG6) res 4 (Zn h s ms su se) K := by
  unfold It63 Wk
  repeat'(first|refine wk0 ?_|(refine wk2 ?_ ?_<;>intro _)|refine wk4 ?_|fail);all_goals(conv=>whnf)
  refine bs.sv (sx := nos) Xw Tryz.func144 (by kernel_rfl) (by kernel_rfl) ?_
  repeat'(first|refine wk0 ?_|(refine wk2 ?_ ?_<;>intro _)|refine wk4 ?_|fail);all_goals(conv=>whnf)
  all_goals first
    | (have e6:Zj3 h ms=6 := (by clear hR hK; simp_all [Zj3, unl]; done)
       rw [hR (by rw [e6]; decide), e6]; exact Zf rfl rfl)
    | (rw [hR (by clear hR hK; simp_all [Zj3]; done)]; exact Zf (by clear hR hK; simp_all [Zj3]) rfl)
    | exact ⟨hK (by clear hR hK; simp_all [Zj3]) _ _ (Ty [] rfl (kps) (kps))⟩
theorem Zdd (l:List Mat):(l.map Mat.av).length=l.length:=by simp
theorem Zqs {l:List Mat} {k:Nat} (h:k<l.length):(l.map Mat.av)[((k:Nat):Int).toNat]?=some (Mat.av l[k]):=by simp [h]
def Vh:Nat->List ByteArray->List Mat->Int × Int × List ByteArray
 | _,ns,[]=>(0,0,ns)
 | i,ns,m::l=>if Zy m.nm ns=0 then (if Zbk m=0 then Vh (i+1) (addK m.nm ns) l else (i,Zbk m,addK m.nm ns)) else (i,Zy m.nm ns,ns)
abbrev sx3:FuncId->Bool:=fun f=>Ql f 137||Ql f 138||Ql f 139||Ql f 108||Ql f 140||Ql f 141
def r138:List AV->Option PRes
 | [.agg [.str nm,.int .i64 a,.int .i64 b,.int .i64 c,.int .i64 d,.int .i64 sc]]=>some ⟨I (Zbk ⟨nm,a,b,c,d,sc⟩),[]⟩
 | _=>none
def r137:List AV->Option PRes
 | [.ipt [.str nm,.int .i64 a,.int .i64 b,.int .i64 c,.int .i64 d,.int .i64 sc]]=>some ⟨I (Zbk ⟨nm,a,b,c,d,sc⟩),[]⟩
 | _=>none
theorem Yb1:PCOK Tryz.prog (ins 143 r138 kG5):=by
 refine Zj (fun a res h=>?_) Zcr
 unfold r138 at h; split at h<;>cases h; exact c138 ⟨_,_,_,_,_,_⟩
theorem c137 (m:Mat):PCall Tryz.prog 142 [.ipt m.av] ⟨I (Zbk m),[]⟩:=by
 refine bs.pv (sx:=nos) Yb1 Tryz.func142 (by kernel_rfl) (by kernel_rfl) rfl ?_
 repeat'(first|refine wk0 ?_|(refine wk2 ?_ ?_<;>intro _)|refine wk4 ?_|fail);all_goals(conv=>whnf)
 exact Za rfl
theorem Zdj:PCOK Tryz.prog (ins 142 r137 kG5):=by
 refine Zj (fun a res h=>?_) Zcr
 unfold r137 at h; split at h<;>cases h; exact c137 ⟨_,_,_,_,_,_⟩
theorem it3 {h:Hal} (hf:h.few) (hnm:∀ m∈h.ms, m.nm.data.toList.length<100000) {s:Set7} {ms su se:List ByteArray} {res:PRes} {K:Env->St->Prop} (hR:(Vh 0 ms h.ms).2.1≠0->res=⟨chkV (1, (Vh 0 ms h.ms).1, (Vh 0 ms h.ms).2.1), []⟩)
    (hK:(Vh 0 ms h.ms).2.1=0->∀ e σ, Ren 98 e σ (Ut 4) ⟨Zn h s (Vh 0 ms h.ms).2.2 su se, 98⟩->K e σ):It63 sx3 (kG7 h kG6) res 3 (Zn h s ms su se) K := by
  unfold It63 Wk
  repeat'(first|refine wk0 ?_|(refine wk2 ?_ ?_<;>intro _)|refine wk4 ?_|fail);all_goals(conv=>whnf)
  refine bs.sv (sx := sx3) Xw Tryz.func137 (by kernel_rfl) (by kernel_rfl) ?_
  repeat'(first|refine wk0 ?_|(refine wk2 ?_ ?_<;>intro _)|refine wk4 ?_|fail);all_goals(conv=>whnf)
  refine bs.sv (sx := sx3) Xw Tryz.func138 (by kernel_rfl) (by kernel_rfl) ?_
  refine Zz (S := Nat × Int × List ByteArray) (fun t => h.ms.length-t.1) (fun t => [(1, .func 139 [] [.ptr 0 0 0, .ptr 6 0 0]), (8, I (h.ms.map Mat.av).length), (9, I t.2.1)]) (fun t => (98, .row 2 [[I 1, .func 137 [] [.ptr 0 0 0, .ptr 6 0 0]]] true false)::Zn h s t.2.2 su se) 99 99
    (fun t => t.2.1=t.1/\t.1<=h.ms.length/\Vh t.1 t.2.2 (h.ms.drop t.1)=Vh 0 ms h.ms) (0, 0, ms) ⟨rfl, Qm _, rfl⟩ (Qd _) [] rfl (kps) (kps) ?_
  rintro ⟨k, i, ns⟩ ⟨hi, hk, hh⟩
  dsimp only at hi hk hh ⊢
  subst hi
  generalize Vh 0 ms h.ms=R0 at *
  refine bs.av (sx := sx3) Zdj ?_
  have e3 := Zdd h.ms
  by_cases hlt:k<h.ms.length
  · have e1 := Zqs hlt
    have hs := hnm _ (Qs hlt)
    have ha := Zbv (res := ⟨Bo (Vp h.ms[k].nm), []⟩) hs
    rw [Qi hlt, Vh] at hh
    repeat'(first|refine wk1 ?_|(refine wk2 ?_ ?_<;>intro _)|refine wk4 ?_|fail);all_goals(conv=>whnf)
    refine bs.sv (sx := sx3) Zdj Tryz.func139 (by kernel_rfl) (by kernel_rfl) ?_
    repeat'(first|refine wk1 ?_|(refine wk2 ?_ ?_<;>intro _)|refine wk4 ?_|fail);all_goals(conv=>whnf)
    refine bs.sv (sx := sx3) Zdj Tryz.func108 (by kernel_rfl) (by kernel_rfl) ?_
    refine Wp 3 ?_
    refine Rp (bs.av (sx := sx3) Zdj ?_)
    repeat'(first|refine wk1 ?_|(refine wk2 ?_ ?_<;>intro _)|refine wk4 ?_|fail);all_goals(conv=>whnf)
    refine bs.sv (sx := sx3) Zdj Tryz.func140 (by kernel_rfl) (by kernel_rfl) ?_
    repeat'(first|refine wk1 ?_|(refine wk2 ?_ ?_<;>intro _)|refine wk4 ?_|fail);all_goals(conv=>whnf)
    refine bs.sv (sx := sx3) Zdj Tryz.func141 (by kernel_rfl) (by kernel_rfl) ?_
    repeat'(first|refine wk1 ?_|(refine wk2 ?_ ?_<;>intro _)|refine wk4 ?_|fail);all_goals(conv=>whnf)
    all_goals try (refine Rp (bs.av (sx := sx3) Zdj ?_))
    repeat'(first|refine wk1 ?_|(refine wk2 ?_ ?_<;>intro _)|refine wk4 ?_|fail);all_goals(conv=>whnf)
    all_goals try (refine Rp (bs.av (sx := sx3) Zdj ?_))
    repeat'(first|refine wk1 ?_|(refine wk2 ?_ ?_<;>intro _)|refine wk4 ?_|fail);all_goals(conv=>whnf)
    all_goals (clear e1 ha e3)
    all_goals first
      | (have e:R0=((k:Int), 4, ns) := (by rw [<-hh]; clear hR hK hh; simp_all [Zy]; done)
         subst e; rw [hR (by simp)]; exact Zf rfl rfl)
      | (have e:R0=((k:Int), 5, ns) := (by rw [<-hh]; clear hR hK hh; simp_all [Zy]; done)
         subst e; rw [hR (by simp)]; exact Zf rfl rfl)
      | (have e:R0=((k:Int), Zbk h.ms[k], addK h.ms[k].nm ns) := (by rw [<-hh]; clear hR hK hh; simp_all [Zy]; done)
         subst e; rw [hR (by clear hR hK hh; simp_all; done)]; exact Zf rfl rfl)
      | exact Qo ⟨(k+1, _, addK h.ms[k].nm ns), [], rfl, kps, kps, ⟨Zi (by have := hf.1; omega), hlt, by rw [<-hh]; clear hR hK hh; simp_all [Zy]; done⟩, by dsimp only; omega⟩
      | (exfalso; clear hR hK hh; simp_all; done)
  · rw [Qj (by omega)] at hh
    repeat'(first|refine wk1 ?_|(refine wk2 ?_ ?_<;>intro _)|refine wk4 ?_|fail);all_goals(conv=>whnf)
    subst hh
    exact ⟨hK rfl _ _ (Ty [] rfl (kps) (kps))⟩
theorem Zoa (l:List (Int × Int)):(l.map pt).length=l.length:=by simp
theorem Yeu {l:List (Int × Int)} {k:Nat} (h:k<l.length):(l.map pt)[((k:Nat):Int).toNat]?=some [I l[k].1,I l[k].2]:=by simp [h]
def Zg3:Nat->List (Int × Int)->Int × Int
 | _,[]=>(0,0)
 | i,p::l=>if Zg2 p.1 p.2 then Zg3 (i+1) l else (i,2)
abbrev sx7:FuncId->Bool:=fun f=>Ql f 145||Ql f 138||Ql f 146
theorem it7 {h:Hal} (hf:h.few) {s:Set7} {ms su se:List ByteArray} {res:PRes} {K:Env->St->Prop} (hR:(Zg3 0 h.cs).2≠0->res=⟨chkV (2,(Zg3 0 h.cs).1,(Zg3 0 h.cs).2),[]⟩)
  (hK:(Zg3 0 h.cs).2=0->∀ e σ,Ren 98 e σ (Ut 8) ⟨Zn h s ms su se,98⟩->K e σ):It63 sx7 (kG7 h kG6) res 7 (Zn h s ms su se) K:=by
 unfold It63 Wk
 repeat'(first|refine wk0 ?_|(refine wk2 ?_ ?_<;>intro _)|refine wk4 ?_|fail);all_goals(conv=>whnf)
 refine bs.sv (sx:=sx7) Xw Tryz.func145 (by kernel_rfl) (by kernel_rfl) ?_
 repeat'(first|refine wk0 ?_|(refine wk2 ?_ ?_<;>intro _)|refine wk4 ?_|fail);all_goals(conv=>whnf)
 refine bs.sv (sx:=sx7) Xw Tryz.func138 (by kernel_rfl) (by kernel_rfl) ?_
 refine Zz (S:=Nat × Int) (fun t=>h.cs.length-t.1) (fun t=>[(1,.func 146 [] [.ptr 0 0 0]),(8,I (h.cs.map pt).length),(9,I t.2)]) (fun t=>(98,.row 2 [[I 2,.func 145 [] [.ptr 0 0 0]]] true false)::Zn h s ms su se) 99 99
  (fun t=>t.2=t.1/\t.1<=h.cs.length/\Zg3 t.1 (h.cs.drop t.1)=Zg3 0 h.cs) (0,0) ⟨rfl,Qm _,rfl⟩ (Qd _) [] rfl (kps) (kps) ?_
 rintro ⟨k,i⟩ ⟨hi,hk,hh⟩
 dsimp only at hi hk hh ⊢
 subst hi
 generalize Zg3 0 h.cs=R0 at *
 refine bs.av (sx:=sx7) Xw ?_
 have e3:=Zoa h.cs
 by_cases hlt:k<h.cs.length
 ·have e1:=Yeu hlt
  rw [Qi hlt,Zg3] at hh
  repeat'(first|refine wk1 ?_|(refine wk2 ?_ ?_<;>intro _)|refine wk4 ?_|fail);all_goals(conv=>whnf)
  refine bs.sv (sx:=sx7) Xw Tryz.func146 (by kernel_rfl) (by kernel_rfl) ?_
  cases hcor:Zg2 h.cs[k].1 h.cs[k].2 with
  | false =>
   rw [hcor,if_neg (by simp)] at hh
   subst hh
   repeat'(first|refine wk1 ?_|(refine wk2 ?_ ?_<;>intro _)|refine wk4 ?_|fail);all_goals(conv=>whnf)
   ·rw [hR (by simp),hcor]; exact Zf rfl rfl
   all_goals (exfalso; clear hR hK; simp_all [unl]; done)
  | true =>
   rw [hcor,if_pos rfl] at hh
   repeat'(first|refine wk1 ?_|(refine wk2 ?_ ?_<;>intro _)|refine wk4 ?_|fail);all_goals(conv=>whnf)
   ·exfalso; clear hR hK hh; simp_all [unl]; done
   ·exfalso; clear hR hK hh; simp_all [unl]; done
   ·exact Qo ⟨(k+1,_),[],rfl,kps,kps,⟨Zi (by have:=hf.2.1; omega),hlt,hh⟩,by dsimp only; omega⟩
 ·rw [Qj (by omega)] at hh
  repeat'(first|refine wk1 ?_|(refine wk2 ?_ ?_<;>intro _)|refine wk4 ?_|fail);all_goals(conv=>whnf)
  subst hh
  exact ⟨hK rfl _ _ (Ty [] rfl (kps) (kps))⟩
theorem Ycs {h:Hal} (hf:h.few) {k:Nat} (hk:k<h.cs.length):PCall Tryz.prog 93 [h.av,I k] ⟨(wlOf h.cs k).av,[]⟩:=by
 have e1:=Zeq hk
 have e2:=Zeq (ps:=h.cs) (i:=(k+1)%h.cs.length) (Pz _ (by omega))
 have e3:(h.cs.map pt).length=h.cs.length:=by simp
 exact c145 (by rw [e3]; exact hf.2.1) e1 (by rw [e3]; exact e2)
theorem Ym (l:List Wal):(l.map Wal.av).length=l.length:=by simp
theorem Zka {l:List Wal} {k:Nat} (h:k<l.length):(l.map Wal.av)[((k:Nat):Int).toNat]?=some (Wal.av l[k]):=by simp [h]
def Zdh (w:Wl):Int:=if decide (w.fx=w.tx)&&decide (w.fy=w.ty) then 11 else if w.straight then 0 else 15
def Zta (L:Wl) (ms:List ByteArray) (w:Wal):Int:=if Vl w.mt ms&&((w.cu==⟨#[]⟩)||Vl w.cu ms) then Zdh L else 6
def wErr (cs:List (Int × Int)) (ms:List ByteArray) (i:Nat) (w:Wal):Int:=Zta (wlOf cs i) ms w
theorem Ztx {l k E:Int} {R0:Int × Int × List ByteArray} {res:PRes} {σ:St} (hR:R0.2.1≠0->res=⟨chkV (l,R0.1,R0.2.1),[]⟩) (h1:R0.1=k) (h2:R0.2.1=E) (h3:E≠0):Ret res (.tup [.agg [I l,I k],I E]) σ:=by
 rw [hR (by rw [h2]; exact h3),h1,h2]; exact Zf rfl rfl
def Zcu (cs:List (Int × Int)) (ms:List ByteArray):Nat->List ByteArray->List Wal->Int × Int × List ByteArray
 | _,ns,[]=>(0,0,ns)
 | i,ns,w::l=>if Zy w.nm ns=0 then (if wErr cs ms i w=0 then Zcu cs ms (i+1) (addK w.nm ns) l else (i,wErr cs ms i w,addK w.nm ns)) else (i,Zy w.nm ns,ns)
abbrev sx8:FuncId->Bool:=fun f=>Ql f 148||Ql f 138||Ql f 149||Ql f 141
theorem it8 {h:Hal} (hf:h.few) (hnm:∀ m∈h.ws,m.nm.data.toList.length<100000) (hwc:h.ws.length<=h.cs.length) {s:Set7} {ms su se:List ByteArray} {res:PRes} {K:Env->St->Prop} (hR:(Zcu h.cs ms 0 su h.ws).2.1≠0->res=⟨chkV (3,(Zcu h.cs ms 0 su h.ws).1,(Zcu h.cs ms 0 su h.ws).2.1),[]⟩)
  (hK:(Zcu h.cs ms 0 su h.ws).2.1=0->∀ e σ,Ren 98 e σ (Ut 9) ⟨Zn h s ms (Zcu h.cs ms 0 su h.ws).2.2 se,98⟩->K e σ):It63 sx8 (kG7 h kG6) res 8 (Zn h s ms su se) K:=by
 unfold It63 Wk
 repeat'(first|refine wk0 ?_|(refine wk2 ?_ ?_<;>intro _)|refine wk4 ?_|fail);all_goals(conv=>whnf)
 refine bs.sv (sx:=sx8) Xw Tryz.func148 (by kernel_rfl) (by kernel_rfl) ?_
 repeat'(first|refine wk0 ?_|(refine wk2 ?_ ?_<;>intro _)|refine wk4 ?_|fail);all_goals(conv=>whnf)
 refine bs.sv (sx:=sx8) Xw Tryz.func138 (by kernel_rfl) (by kernel_rfl) ?_
 refine Zz (S:=Nat × Int × List ByteArray) (fun t=>h.ws.length-t.1) (fun t=>[(1,.func 149 [] [.ptr 0 0 0,.ptr 2 0 0,.ptr 7 0 0,.ptr 6 0 0]),(8,I (h.ws.map Wal.av).length),(9,I t.2.1)]) (fun t=>(98,.row 2 [[I 3,.func 148 [] [.ptr 0 0 0,.ptr 2 0 0,.ptr 7 0 0,.ptr 6 0 0]]] true false)::Zn h s ms t.2.2 se) 99 99
  (fun t=>t.2.1=t.1/\t.1<=h.ws.length/\Zcu h.cs ms t.1 t.2.2 (h.ws.drop t.1)=Zcu h.cs ms 0 su h.ws) (0,0,su) ⟨rfl,Qm _,rfl⟩ (Qd _) [] rfl (kps) (kps) ?_
 rintro ⟨k,i,ns⟩ ⟨hi,hk,hh⟩
 dsimp only at hi hk hh ⊢
 subst hi
 generalize Zcu h.cs ms 0 su h.ws=R0 at *
 have e3:=Ym h.ws
 by_cases hlt:k<h.ws.length
 ·have e1:=Zka hlt
  have hs:=hnm _ (Qs hlt)
  have ha:=Zbv (res:=⟨Bo (Vp h.ws[k].nm),[]⟩) hs
  have hk2:=Ze (Ycs hf (show k<h.cs.length by omega)) Xw
  rw [Qi hlt,Zcu] at hh
  unfold wErr at hh
  generalize wlOf h.cs k=L at *
  obtain ⟨ln,la,lb,lc,ld⟩:=L
  refine bs.av (sx:=sx8) hk2 ?_
  repeat'(first|refine wk1 ?_|(refine wk2 ?_ ?_<;>intro _)|refine wk4 ?_|fail);all_goals(conv=>whnf)
  refine bs.sv (sx:=sx8) hk2 Tryz.func149 (by kernel_rfl) (by kernel_rfl) ?_
  repeat'(first|refine wk1 ?_|(refine wk2 ?_ ?_<;>intro _)|refine wk4 ?_|fail);all_goals(conv=>whnf)
  refine bs.sv (sx:=sx8) hk2 Tryz.func141 (by kernel_rfl) (by kernel_rfl) ?_
  repeat'(first|refine wk1 ?_|(refine wk2 ?_ ?_<;>intro _)|refine wk4 ?_|fail);all_goals(conv=>whnf)
  all_goals (clear e1 ha e3 hk2)
  all_goals first
   | exact Ztx hR (by rw [<-hh]; clear hR hK hh; by_cases hla:la=lc<;>by_cases hlb:lb=ld<;>simp_all [Zy,Zta,Zdh]; done) (by rw [<-hh]; clear hR hK hh; by_cases hla:la=lc<;>by_cases hlb:lb=ld<;>simp_all [Zy,Zta,Zdh]; done) (by decide)
   | exact Qo ⟨(k+1,_,addK h.ws[k].nm ns),[],rfl,kps,kps,⟨Zi (by have:=hf.2.2.1; omega),hlt,by rw [<-hh]; clear hR hK hh; by_cases hla:la=lc<;>by_cases hlb:lb=ld<;>simp_all [Zy,Zta,Zdh]; done⟩,by dsimp only; omega⟩
   | (exfalso; clear hR hK hh; simp_all; done)
 ·rw [Qj (by omega)] at hh
  refine bs.av (sx:=sx8) Xw ?_
  repeat'(first|refine wk1 ?_|(refine wk2 ?_ ?_<;>intro _)|refine wk4 ?_|fail);all_goals(conv=>whnf)
  subst hh
  exact ⟨hK rfl _ _ (Ty [] rfl (kps) (kps))⟩
theorem Xe (l:List Can):(l.map Can.av).length=l.length:=by simp
theorem Zdo {l:List Can} {k:Nat} (h:k<l.length):(l.map Can.av)[((k:Nat):Int).toNat]?=some (Can.av l[k]):=by simp [h]
def cErr (h:Hal) (ms:List ByteArray) (c:Can):Int:=if Vl c.mt ms then Zf6 h c else 6
def Zf5 (h:Hal) (ms:List ByteArray):Nat->List ByteArray->List Can->Int × Int × List ByteArray
 | _,ns,[]=>(0,0,ns)
 | i,ns,c::l=>if Zy c.nm ns=0 then (if cErr h ms c=0 then Zf5 h ms (i+1) (addK c.nm ns) l else (i,cErr h ms c,addK c.nm ns)) else (i,Zy c.nm ns,ns)
abbrev sx12:FuncId->Bool:=fun f=>Ql f 155||Ql f 138||Ql f 156||Ql f 108||Ql f 157||Ql f 141||Ql f 158||Ql f 159
theorem Zb4 {l k E:Int} {R0:Int × Int × List ByteArray} {res:PRes} {σ:St} (hR:R0.2.1≠0->res=⟨chkV (l,R0.1,R0.2.1),[]⟩) (h1:R0.1=k/\R0.2.1=E) (h3:E≠0):Ret res (.tup [.agg [I l,I k],I E]) σ:=Ztx hR h1.1 h1.2 h3
theorem it12 {h:Hal} (hf:h.few) (hnm:∀ m∈h.ks,m.nm.data.toList.length<100000) {s:Set7} {ms su se:List ByteArray} {res:PRes} {K:Env->St->Prop} (hR:(Zf5 h ms 0 su h.ks).2.1≠0->res=⟨chkV (4,(Zf5 h ms 0 su h.ks).1,(Zf5 h ms 0 su h.ks).2.1),[]⟩)
  (hK:(Zf5 h ms 0 su h.ks).2.1=0->∀ e σ,Ren 98 e σ (Ut 13) ⟨Zn h s ms (Zf5 h ms 0 su h.ks).2.2 se,98⟩->K e σ):It63 sx12 (kG7 h kG6) res 12 (Zn h s ms su se) K:=by
 unfold It63 Wk
 repeat'(first|refine wk0 ?_|(refine wk2 ?_ ?_<;>intro _)|refine wk4 ?_|fail);all_goals(conv=>whnf)
 refine bs.sv (sx:=sx12) Xw Tryz.func155 (by kernel_rfl) (by kernel_rfl) ?_
 repeat'(first|refine wk0 ?_|(refine wk2 ?_ ?_<;>intro _)|refine wk4 ?_|fail);all_goals(conv=>whnf)
 refine bs.sv (sx:=sx12) Xw Tryz.func138 (by kernel_rfl) (by kernel_rfl) ?_
 refine Zz (S:=Nat × Int × List ByteArray) (fun t=>h.ks.length-t.1) (fun t=>[(1,.func 156 [] [.ptr 0 0 0,.ptr 7 0 0,.ptr 6 0 0,.ptr 2 0 0]),(8,I (h.ks.map Can.av).length),(9,I t.2.1)]) (fun t=>(98,.row 2 [[I 4,.func 155 [] [.ptr 0 0 0,.ptr 7 0 0,.ptr 6 0 0,.ptr 2 0 0]]] true false)::Zn h s ms t.2.2 se) 99 99
  (fun t=>t.2.1=t.1/\t.1<=h.ks.length/\Zf5 h ms t.1 t.2.2 (h.ks.drop t.1)=Zf5 h ms 0 su h.ks) (0,0,su) ⟨rfl,Qm _,rfl⟩ (Qd _) [] rfl (kps) (kps) ?_
 rintro ⟨k,i,ns⟩ ⟨hi,hk,hh⟩
 dsimp only at hi hk hh ⊢
 subst hi
 generalize Zf5 h ms 0 su h.ks=R0 at *
 have e3:=Xe h.ks
 by_cases hlt:k<h.ks.length
 ·have e1:=Zdo hlt
  have hs:=hnm _ (Qs hlt)
  have ha:=Zbv (res:=⟨Bo (Vp h.ks[k].nm),[]⟩) hs
  have hk2:=Ze (c155 hf h.ks[k] (hf.2.2.2.2.2 _ (Qs hlt))) Xw
  rw [Qi hlt,Zf5] at hh
  generalize hce:Zf6 h h.ks[k]=ce at *
  refine bs.av (sx:=sx12) hk2 ?_
  repeat'(first|refine wk1 ?_|(refine wk2 ?_ ?_<;>intro _)|refine wk4 ?_|fail);all_goals(conv=>whnf)
  refine bs.sv (sx:=sx12) hk2 Tryz.func156 (by kernel_rfl) (by kernel_rfl) ?_
  repeat'(first|refine wk1 ?_|(refine wk2 ?_ ?_<;>intro _)|refine wk4 ?_|fail);all_goals(conv=>whnf)
  refine bs.sv (sx:=sx12) hk2 Tryz.func108 (by kernel_rfl) (by kernel_rfl) ?_
  refine Wp 4 ?_
  refine Rp (bs.av (sx:=sx12) hk2 ?_)
  repeat'(first|refine wk1 ?_|(refine wk2 ?_ ?_<;>intro _)|refine wk4 ?_|fail);all_goals(conv=>whnf)
  refine bs.sv (sx:=sx12) hk2 Tryz.func157 (by kernel_rfl) (by kernel_rfl) ?_
  repeat'(first|refine wk1 ?_|(refine wk2 ?_ ?_<;>intro _)|refine wk4 ?_|fail);all_goals(conv=>whnf)
  refine bs.sv (sx:=sx12) hk2 Tryz.func141 (by kernel_rfl) (by kernel_rfl) ?_
  repeat'(first|refine wk1 ?_|(refine wk2 ?_ ?_<;>intro _)|refine wk4 ?_|fail);all_goals(conv=>whnf)
  ·exact Zb4 hR (by rw [<-hh]; clear hR hK hh hk2 ha e1 e3; simp_all [Zy]; done) (by decide)
  ·exact Zb4 hR (by rw [<-hh]; clear hR hK hh hk2 ha e1 e3; simp_all [Zy]; done) (by decide)
  refine Rp (bs.av (sx:=sx12) hk2 ?_)
  repeat'(first|refine wk1 ?_|(refine wk2 ?_ ?_<;>intro _)|refine wk4 ?_|fail);all_goals(conv=>whnf)
  refine bs.sv (sx:=sx12) hk2 Tryz.func158 (by kernel_rfl) (by kernel_rfl) ?_
  have hadd:Zy h.ks[k].nm ns=0:=by clear hR hK hh hk2 ha e1 e3; simp_all [Zy]; done
  rw [hadd,if_pos rfl,cErr,hce] at hh
  cases hel:Vl h.ks[k].mt ms with
  | false =>
   rw [hel,if_neg (by simp),if_neg (by decide)] at hh
   subst hh
   repeat'(first|refine wk1 ?_|(refine wk2 ?_ ?_<;>intro _)|refine wk4 ?_|fail);all_goals(conv=>whnf)
   ·rw [hel]; exact Zb4 hR ⟨rfl,rfl⟩ (by decide)
   all_goals (exfalso; clear hR hK hk2 ha e1 e3; simp_all [unl]; done)
  | true =>
   rw [hel,if_pos rfl] at hh
   repeat'(first|refine wk1 ?_|(refine wk2 ?_ ?_<;>intro _)|refine wk4 ?_|fail);all_goals(conv=>whnf)
   all_goals try (exfalso; clear hR hK hh hk2 ha e1 e3; simp_all [unl]; done)
   refine Rp (bs.av (sx:=sx12) hk2 ?_)
   repeat'(first|refine wk1 ?_|(refine wk2 ?_ ?_<;>intro _)|refine wk4 ?_|fail);all_goals(conv=>whnf)
   refine bs.sv (sx:=sx12) hk2 Tryz.func159 (by kernel_rfl) (by kernel_rfl) ?_
   by_cases hz:ce=0
   ·subst hz
    rw [if_pos rfl] at hh
    repeat'(first|refine wk1 ?_|(refine wk2 ?_ ?_<;>intro _)|refine wk4 ?_|fail);all_goals(conv=>whnf)
    all_goals try (refine Rp (bs.av (sx:=sx12) hk2 ?_))
    repeat'(first|refine wk1 ?_|(refine wk2 ?_ ?_<;>intro _)|refine wk4 ?_|fail);all_goals(conv=>whnf)
    exact Qo ⟨(k+1,_,addK h.ks[k].nm ns),[],rfl,kps,kps,⟨Zi (by have:=hf.2.2.2.1; omega),hlt,hh⟩,by dsimp only; omega⟩
   ·rw [if_neg hz] at hh
    subst hh
    repeat'(first|refine wk1 ?_|(refine wk2 ?_ ?_<;>intro _)|refine wk4 ?_|fail);all_goals(conv=>whnf)
    ·exact Zb4 hR ⟨rfl,rfl⟩ hz
    all_goals (exfalso; clear hR hK hk2 ha e1 e3; simp_all; done)
 ·rw [Qj (by omega)] at hh
  refine bs.av (sx:=sx12) Xw ?_
  repeat'(first|refine wk1 ?_|(refine wk2 ?_ ?_<;>intro _)|refine wk4 ?_|fail);all_goals(conv=>whnf)
  subst hh
  exact ⟨hK rfl _ _ (Ty [] rfl (kps) (kps))⟩
theorem Zak (l:List Sea):(l.map Sea.av).length=l.length:=by simp
theorem Zkf {l:List Sea} {k:Nat} (h:k<l.length):(l.map Sea.av)[((k:Nat):Int).toNat]?=some (Sea.av l[k]):=by simp [h]
def Zew (h:Hal):Nat->List ByteArray->List Sea->Int × Int × List ByteArray
 | _,ns,[]=>(0,0,ns)
 | i,ns,c::l=>if Zy c.nm ns=0 then (if Zgp h c.x c.y c.z=0 then Zew h (i+1) (addK c.nm ns) l else (i,Zgp h c.x c.y c.z,addK c.nm ns)) else (i,Zy c.nm ns,ns)
abbrev sx14:FuncId->Bool:=fun f=>Ql f 161||Ql f 138||Ql f 162||Ql f 108||Ql f 163||Ql f 141||Ql f 164
theorem it14 {h:Hal} (hf:h.few) (hnm:∀ m∈h.ss,m.nm.data.toList.length<100000) {s:Set7} {ms su se:List ByteArray} {res:PRes} {K:Env->St->Prop} (hR:(Zew h 0 se h.ss).2.1≠0->res=⟨chkV (5,(Zew h 0 se h.ss).1,(Zew h 0 se h.ss).2.1),[]⟩)
  (hK:(Zew h 0 se h.ss).2.1=0->∀ e σ,Ren 98 e σ (Ut 15) ⟨Zn h s ms su (Zew h 0 se h.ss).2.2,98⟩->K e σ):It63 sx14 (kG7 h kG6) res 14 (Zn h s ms su se) K:=by
 unfold It63 Wk
 repeat'(first|refine wk0 ?_|(refine wk2 ?_ ?_<;>intro _)|refine wk4 ?_|fail);all_goals(conv=>whnf)
 refine bs.sv (sx:=sx14) Xw Tryz.func161 (by kernel_rfl) (by kernel_rfl) ?_
 repeat'(first|refine wk0 ?_|(refine wk2 ?_ ?_<;>intro _)|refine wk4 ?_|fail);all_goals(conv=>whnf)
 refine bs.sv (sx:=sx14) Xw Tryz.func138 (by kernel_rfl) (by kernel_rfl) ?_
 refine Zz (S:=Nat × Int × List ByteArray) (fun t=>h.ss.length-t.1) (fun t=>[(1,.func 162 [] [.ptr 0 0 0,.ptr 8 0 0,.ptr 2 0 0]),(8,I (h.ss.map Sea.av).length),(9,I t.2.1)]) (fun t=>(98,.row 2 [[I 5,.func 161 [] [.ptr 0 0 0,.ptr 8 0 0,.ptr 2 0 0]]] true false)::Zn h s ms su t.2.2) 99 99
  (fun t=>t.2.1=t.1/\t.1<=h.ss.length/\Zew h t.1 t.2.2 (h.ss.drop t.1)=Zew h 0 se h.ss) (0,0,se) ⟨rfl,Qm _,rfl⟩ (Qd _) [] rfl (kps) (kps) ?_
 rintro ⟨k,i,ns⟩ ⟨hi,hk,hh⟩
 dsimp only at hi hk hh ⊢
 subst hi
 generalize Zew h 0 se h.ss=R0 at *
 have e3:=Zak h.ss
 by_cases hlt:k<h.ss.length
 ·have e1:=Zkf hlt
  have hs:=hnm _ (Qs hlt)
  have ha:=Zbv (res:=⟨Bo (Vp h.ss[k].nm),[]⟩) hs
  have hk2:=Ze (c160 hf h.ss[k].x h.ss[k].y h.ss[k].z) Xw
  rw [Qi hlt,Zew] at hh
  generalize hce:Zgp h h.ss[k].x h.ss[k].y h.ss[k].z=ce at *
  refine bs.av (sx:=sx14) hk2 ?_
  repeat'(first|refine wk1 ?_|(refine wk2 ?_ ?_<;>intro _)|refine wk4 ?_|fail);all_goals(conv=>whnf)
  refine bs.sv (sx:=sx14) hk2 Tryz.func162 (by kernel_rfl) (by kernel_rfl) ?_
  repeat'(first|refine wk1 ?_|(refine wk2 ?_ ?_<;>intro _)|refine wk4 ?_|fail);all_goals(conv=>whnf)
  refine bs.sv (sx:=sx14) hk2 Tryz.func108 (by kernel_rfl) (by kernel_rfl) ?_
  refine Wp 3 ?_
  refine Rp (bs.av (sx:=sx14) hk2 ?_)
  repeat'(first|refine wk1 ?_|(refine wk2 ?_ ?_<;>intro _)|refine wk4 ?_|fail);all_goals(conv=>whnf)
  refine bs.sv (sx:=sx14) hk2 Tryz.func163 (by kernel_rfl) (by kernel_rfl) ?_
  repeat'(first|refine wk1 ?_|(refine wk2 ?_ ?_<;>intro _)|refine wk4 ?_|fail);all_goals(conv=>whnf)
  refine bs.sv (sx:=sx14) hk2 Tryz.func141 (by kernel_rfl) (by kernel_rfl) ?_
  repeat'(first|refine wk1 ?_|(refine wk2 ?_ ?_<;>intro _)|refine wk4 ?_|fail);all_goals(conv=>whnf)
  ·exact Zb4 hR (by rw [<-hh]; clear hR hK hh hk2 ha e1 e3; simp_all [Zy]; done) (by decide)
  ·exact Zb4 hR (by rw [<-hh]; clear hR hK hh hk2 ha e1 e3; simp_all [Zy]; done) (by decide)
  refine Rp (bs.av (sx:=sx14) hk2 ?_)
  repeat'(first|refine wk1 ?_|(refine wk2 ?_ ?_<;>intro _)|refine wk4 ?_|fail);all_goals(conv=>whnf)
  refine bs.sv (sx:=sx14) hk2 Tryz.func164 (by kernel_rfl) (by kernel_rfl) ?_
  have hadd:Zy h.ss[k].nm ns=0:=by clear hR hK hh hk2 ha e1 e3; simp_all [Zy]; done
  rw [hadd,if_pos rfl] at hh
  by_cases hz:ce=0
  ·subst hz
   rw [if_pos rfl] at hh
   repeat'(first|refine wk1 ?_|(refine wk2 ?_ ?_<;>intro _)|refine wk4 ?_|fail);all_goals(conv=>whnf)
   all_goals try (refine Rp (bs.av (sx:=sx14) hk2 ?_))
   repeat'(first|refine wk1 ?_|(refine wk2 ?_ ?_<;>intro _)|refine wk4 ?_|fail);all_goals(conv=>whnf)
   exact Qo ⟨(k+1,_,addK h.ss[k].nm ns),[],rfl,kps,kps,⟨Zi (by have:=hf.2.2.2.2.1; omega),hlt,hh⟩,by dsimp only; omega⟩
  ·rw [if_neg hz] at hh
   subst hh
   repeat'(first|refine wk1 ?_|(refine wk2 ?_ ?_<;>intro _)|refine wk4 ?_|fail);all_goals(conv=>whnf)
   ·exact Zb4 hR ⟨rfl,rfl⟩ hz
   all_goals (exfalso; clear hR hK hk2 ha e1 e3; simp_all; done)
 ·rw [Qj (by omega)] at hh
  refine bs.av (sx:=sx14) Xw ?_
  repeat'(first|refine wk1 ?_|(refine wk2 ?_ ?_<;>intro _)|refine wk4 ?_|fail);all_goals(conv=>whnf)
  subst hh
  exact ⟨hK rfl _ _ (Ty [] rfl (kps) (kps))⟩
end Go.Proofs.YtdmidbkelinnjaaGreat
