/- A part of the proof: lemmas. -/
import Derived.Test.YtohjcchcladneaaGreatQ3
import Derived.Test.YtohjcchcladneaaGreatQ6
import Derived.IntWalk
import Derived.KernelRfl
import Derived.Test.YtohjcchcladneaaGreatProg
set_option linter.unusedVariables false
set_option linter.unusedSimpArgs false
set_option maxRecDepth 100000
set_option maxHeartbeats 16000000
open Bool renaming and_eq_true->Qf,eq_iff_iff->Sf
open Classical renaming choose_spec->Nx
open Go.IntKind renaming i64->Qb,wrap->Qa
open Go.IntWalk renaming i64_in->Jo
open Go.Sx.Base renaming vcode->We
open Go.Sx.Bd renaming mk->Ds
open Go.Sx.Br renaming intro->Tv
open Go.Sx.Done renaming mk->Th
open Go.Sx.Dr renaming intro->Fe
open Go.Sx.Got renaming intro->Su
open Go.Sx.LpM renaming start->Tq,succ->Ri
open Go.Sx.Ren renaming of->Sv
open Go.Sx.Rg renaming ren->Hz
open Int renaming not_lt->Ld
open List renaming drop_eq_getElem_cons->Qr,drop_of_length_le->Rb,getElem_mem->Rx,map_cons->Tg,range->Wc,range'->Nq
open List.cons renaming injEq->Rw
open Nat renaming beq->Qp,blt->Wa,blt_eq->Si,eq_of_beq_eq_true->Qh,le_refl->Qm,mod_lt->Ot,zero_le->Rl
open Option.some renaming injEq->Qg
namespace Go.Proofs.YtohjcchcladneaaGreat
open Go Go.Sx
noncomputable def tbl:List (Nat × TI) :=
  [(2, ⟨.int .i64, 1, 8, false, [.int .i64 0]⟩),
   (3, ⟨.int .i64, 1, 8, false, [.int .i64 0]⟩),
   (4, ⟨.bool, 1, 1, false, [.bool false]⟩),
   (5, ⟨.int .u8, 1, 1, false, [.int .u8 0]⟩),
   (6, ⟨.int .u8, 1, 1, false, [.int .u8 0]⟩),
   (8, ⟨.struct #[⟨ "x", 2, 0, false, "", "runtime", 0⟩, ⟨ "y", 3, 1, false, "", "runtime", 8⟩, ⟨ "signed", 4, 2, false, "", "runtime", 16⟩, ⟨ "code", 6, 3, false, "", "runtime", 17⟩], 4, 24, true, [.int .i64 0, .int .i64 0, .bool false, .int .u8 0]⟩),
   (9, ⟨.string, 1, 16, false, [.str ⟨#[]⟩]⟩),
   (10, ⟨.string, 1, 16, false, [.str ⟨#[]⟩]⟩),
   (11, ⟨.string, 1, 16, false, [.str ⟨#[]⟩]⟩),
   (12, ⟨.int .u64, 1, 8, false, [.int .u64 0]⟩),
   (14, ⟨.struct #[⟨ "msg", 9, 0, false, "", "runtime", 0⟩, ⟨ "addr", 12, 1, false, "", "runtime", 16⟩], 2, 24, true, [.str ⟨#[]⟩, .int .u64 0]⟩),
   (15, ⟨.pointer 212, 1, 8, false, [.nilp]⟩),
   (16, ⟨.pointer 215, 1, 8, false, [.nilp]⟩),
   (17, ⟨.pointer 224, 1, 8, false, [.nilp]⟩),
   (19, ⟨.struct #[⟨ "typ", 17, 0, false, "", "internal/runtime/maps", 0⟩], 1, 8, true, [.nilp]⟩),
   (22, ⟨.array 3 3, 3, 24, true, [.int .i64 0, .int .i64 0, .int .i64 0]⟩),
   (24, ⟨.struct #[⟨ "Size", 22, 0, false, "", "", 0⟩, ⟨ "From", 22, 3, false, "", "", 24⟩, ⟨ "To", 22, 6, false, "", "", 48⟩], 9, 72, true, [.int .i64 0, .int .i64 0, .int .i64 0, .int .i64 0, .int .i64 0, .int .i64 0, .int .i64 0, .int .i64 0, .int .i64 0]⟩),
   (29, ⟨.struct #[⟨ "X", 3, 0, false, "", "", 0⟩, ⟨ "Y", 3, 1, false, "", "", 8⟩, ⟨ "Z", 3, 2, false, "", "", 16⟩], 3, 24, true, [.int .i64 0, .int .i64 0, .int .i64 0]⟩),
   (31, ⟨.struct #[⟨ "From", 29, 0, false, "", "", 0⟩, ⟨ "To", 29, 3, false, "", "", 24⟩, ⟨ "Order", 3, 6, false, "", "", 48⟩], 7, 56, true, [.int .i64 0, .int .i64 0, .int .i64 0, .int .i64 0, .int .i64 0, .int .i64 0, .int .i64 0]⟩),
   (34, ⟨.slice 3, 1, 24, false, [.nils]⟩),
   (35, ⟨.slice 103, 1, 24, false, [.nils]⟩),
   (37, ⟨.struct #[⟨ "Surfaces", 34, 0, false, "", "", 0⟩, ⟨ "Points", 35, 1, false, "", "", 24⟩, ⟨ "Square", 3, 2, false, "", "", 48⟩], 3, 56, true, [.nils, .nils, .int .i64 0]⟩),
   (38, ⟨.int .i64, 1, 8, false, [.int .i64 0]⟩),
   (41, ⟨.slice 72, 1, 24, false, [.nils]⟩),
   (42, ⟨.slice 60, 1, 24, false, [.nils]⟩),
   (43, ⟨.slice 74, 1, 24, false, [.nils]⟩),
   (44, ⟨.slice 132, 1, 24, false, [.nils]⟩),
   (45, ⟨.slice 170, 1, 24, false, [.nils]⟩),
   (47, ⟨.struct #[⟨ "Name", 9, 0, false, "", "", 0⟩, ⟨ "Height", 3, 1, false, "", "", 16⟩, ⟨ "Floor", 9, 2, false, "", "", 24⟩, ⟨ "Ceiling", 9, 3, false, "", "", 40⟩, ⟨ "Materials", 41, 4, false, "", "", 56⟩, ⟨ "Corners", 42, 5, false, "", "", 80⟩, ⟨ "Walls", 43, 6, false, "", "", 104⟩, ⟨ "Canopies", 44, 7, false, "", "", 128⟩, ⟨ "Seats", 45, 8, false, "", "", 152⟩], 9, 176, true, [.str ⟨#[]⟩, .int .i64 0, .str ⟨#[]⟩, .str ⟨#[]⟩, .nils, .nils, .nils, .nils, .nils]⟩),
   (50, ⟨.struct #[⟨ "Heights", 34, 0, false, "", "", 0⟩, ⟨ "Drawn", 34, 1, false, "", "", 24⟩], 2, 48, true, [.nils, .nils]⟩),
   (60, ⟨.struct #[⟨ "X", 3, 0, false, "", "", 0⟩, ⟨ "Y", 3, 1, false, "", "", 8⟩], 2, 16, true, [.int .i64 0, .int .i64 0]⟩),
   (61, ⟨.struct #[⟨ "X", 3, 0, false, "", "", 0⟩, ⟨ "Y", 3, 1, false, "", "", 8⟩], 2, 16, true, [.int .i64 0, .int .i64 0]⟩),
   (63, ⟨.array 6 3, 6, 48, true, [.int .i64 0, .int .i64 0, .int .i64 0, .int .i64 0, .int .i64 0, .int .i64 0]⟩),
   (68, ⟨.struct #[⟨ "Hall", 47, 0, true, "", "", 0⟩, ⟨ "setting", 50, 9, false, "", "shoebox/image", 176⟩], 11, 224, true, [.str ⟨#[]⟩, .int .i64 0, .str ⟨#[]⟩, .str ⟨#[]⟩, .nils, .nils, .nils, .nils, .nils, .nils, .nils]⟩),
   (70, ⟨.array 4 3, 4, 32, true, [.int .i64 0, .int .i64 0, .int .i64 0, .int .i64 0]⟩),
   (72, ⟨.struct #[⟨ "Name", 9, 0, false, "", "", 0⟩, ⟨ "Absorbed", 70, 1, false, "", "", 16⟩, ⟨ "Scattered", 3, 5, false, "", "", 48⟩], 6, 56, true, [.str ⟨#[]⟩, .int .i64 0, .int .i64 0, .int .i64 0, .int .i64 0, .int .i64 0]⟩),
   (74, ⟨.struct #[⟨ "Name", 9, 0, false, "", "", 0⟩, ⟨ "Material", 9, 1, false, "", "", 16⟩, ⟨ "Curtain", 9, 2, false, "", "", 32⟩], 3, 48, true, [.str ⟨#[]⟩, .str ⟨#[]⟩, .str ⟨#[]⟩]⟩),
   (79, ⟨.func #[3] #[38] false, 1, 8, false, [.any]⟩),
   (81, ⟨.struct #[⟨ "Hall", 47, 0, true, "", "", 0⟩], 9, 176, true, [.str ⟨#[]⟩, .int .i64 0, .str ⟨#[]⟩, .str ⟨#[]⟩, .nils, .nils, .nils, .nils, .nils]⟩),
   (83, ⟨.struct #[⟨ "x", 3, 0, false, "", "shoebox/image", 0⟩, ⟨ "y", 3, 1, false, "", "shoebox/image", 8⟩], 2, 16, true, [.int .i64 0, .int .i64 0]⟩),
   (86, ⟨.struct #[⟨ "at", 60, 0, false, "", "shoebox/image", 0⟩, ⟨ "way", 83, 2, false, "", "shoebox/image", 16⟩, ⟨ "last", 3, 4, false, "", "shoebox/image", 32⟩], 5, 40, true, [.int .i64 0, .int .i64 0, .int .i64 0, .int .i64 0, .int .i64 0]⟩),
   (88, ⟨.struct #[⟨ "num", 3, 0, false, "", "shoebox/image", 0⟩, ⟨ "den", 3, 1, false, "", "shoebox/image", 8⟩], 2, 16, true, [.int .i64 0, .int .i64 0]⟩),
   (90, ⟨.struct #[⟨ "share", 88, 0, true, "", "shoebox/image", 0⟩, ⟨ "wall", 3, 2, false, "", "shoebox/image", 16⟩, ⟨ "well", 4, 3, false, "", "shoebox/image", 24⟩], 4, 32, true, [.int .i64 0, .int .i64 0, .int .i64 0, .bool false]⟩),
   (97, ⟨.slice 9, 1, 24, false, [.nils]⟩),
   (100, ⟨.slice 29, 1, 24, false, [.nils]⟩),
   (103, ⟨.struct #[⟨ "X", 3, 0, false, "", "", 0⟩, ⟨ "Y", 3, 1, false, "", "", 8⟩, ⟨ "Z", 3, 2, false, "", "", 16⟩, ⟨ "Den", 3, 3, false, "", "", 24⟩], 4, 32, true, [.int .i64 0, .int .i64 0, .int .i64 0, .int .i64 0]⟩),
   (108, ⟨.struct #[⟨ "Surface", 3, 0, false, "", "", 0⟩, ⟨ "From", 29, 1, false, "", "", 8⟩, ⟨ "To", 103, 4, false, "", "", 32⟩], 8, 64, true, [.int .i64 0, .int .i64 0, .int .i64 0, .int .i64 0, .int .i64 0, .int .i64 0, .int .i64 0, .int .i64 0]⟩),
   (112, ⟨.struct #[⟨ "From", 103, 0, false, "", "", 0⟩, ⟨ "To", 103, 4, false, "", "", 32⟩], 8, 64, true, [.int .i64 0, .int .i64 0, .int .i64 0, .int .i64 0, .int .i64 0, .int .i64 0, .int .i64 0, .int .i64 0]⟩),
   (117, ⟨.struct #[⟨ "List", 3, 0, false, "", "", 0⟩, ⟨ "Number", 3, 1, false, "", "", 8⟩], 2, 16, true, [.int .i64 0, .int .i64 0]⟩),
   (120, ⟨.slice 38, 1, 24, false, [.nils]⟩),
   (126, ⟨.struct #[⟨ "Hall", 47, 0, true, "", "", 0⟩], 9, 176, true, [.str ⟨#[]⟩, .int .i64 0, .str ⟨#[]⟩, .str ⟨#[]⟩, .nils, .nils, .nils, .nils, .nils]⟩),
   (132, ⟨.struct #[⟨ "Name", 9, 0, false, "", "", 0⟩, ⟨ "Material", 9, 1, false, "", "", 16⟩, ⟨ "From", 60, 2, false, "", "", 32⟩, ⟨ "To", 60, 4, false, "", "", 48⟩, ⟨ "Heights", 34, 6, false, "", "", 64⟩], 7, 88, true, [.str ⟨#[]⟩, .str ⟨#[]⟩, .int .i64 0, .int .i64 0, .int .i64 0, .int .i64 0, .nils]⟩),
   (134, ⟨.struct #[⟨ "Kind", 3, 0, false, "", "", 0⟩, ⟨ "At", 3, 1, false, "", "", 8⟩], 2, 16, true, [.int .i64 0, .int .i64 0]⟩),
   (140, ⟨.struct #[⟨ "room", 126, 0, true, "", "shoebox/hall", 0⟩, ⟨ "HallSetting", 50, 9, true, "", "", 176⟩], 11, 224, true, [.str ⟨#[]⟩, .int .i64 0, .str ⟨#[]⟩, .str ⟨#[]⟩, .nils, .nils, .nils, .nils, .nils, .nils, .nils]⟩),
   (145, ⟨.func #[] #[38] false, 1, 8, false, [.any]⟩),
   (154, ⟨.map 9 4, 1, 8, false, [.any]⟩),
   (155, ⟨.func #[] #[3, 38] false, 1, 8, false, [.any]⟩),
   (158, ⟨.struct #[⟨ "list", 3, 0, false, "", "shoebox/hall", 0⟩, ⟨ "check", 155, 1, false, "", "shoebox/hall", 8⟩], 2, 16, true, [.int .i64 0, .any]⟩),
   (165, ⟨.struct #[⟨ "number", 3, 0, false, "", "shoebox/hall", 0⟩, ⟨ "from", 60, 1, false, "", "shoebox/hall", 8⟩, ⟨ "to", 60, 3, false, "", "shoebox/hall", 24⟩], 5, 40, true, [.int .i64 0, .int .i64 0, .int .i64 0, .int .i64 0, .int .i64 0]⟩),
   (170, ⟨.struct #[⟨ "Name", 9, 0, false, "", "", 0⟩, ⟨ "At", 29, 1, false, "", "", 16⟩], 4, 40, true, [.str ⟨#[]⟩, .int .i64 0, .int .i64 0, .int .i64 0]⟩),
   (172, ⟨.array 15 158, 30, 240, true, [.int .i64 0, .any, .int .i64 0, .any, .int .i64 0, .any, .int .i64 0, .any, .int .i64 0, .any, .int .i64 0, .any, .int .i64 0, .any, .int .i64 0, .any, .int .i64 0, .any, .int .i64 0, .any, .int .i64 0, .any, .int .i64 0, .any, .int .i64 0, .any, .int .i64 0, .any, .int .i64 0, .any]⟩),
   (181, ⟨.slice 145, 1, 24, false, [.nils]⟩),
   (186, ⟨.struct #[⟨ "Lo", 3, 0, false, "", "", 0⟩, ⟨ "Hi", 3, 1, false, "", "", 8⟩], 2, 16, true, [.int .i64 0, .int .i64 0]⟩),
   (188, ⟨.struct #[⟨ "x", 186, 0, false, "", "shoebox/hall", 0⟩, ⟨ "y", 186, 2, false, "", "shoebox/hall", 16⟩], 4, 32, true, [.int .i64 0, .int .i64 0, .int .i64 0, .int .i64 0]⟩),
   (191, ⟨.struct #[⟨ "from", 103, 0, false, "", "shoebox/hall", 0⟩, ⟨ "to", 103, 4, false, "", "shoebox/hall", 32⟩], 8, 64, true, [.int .i64 0, .int .i64 0, .int .i64 0, .int .i64 0, .int .i64 0, .int .i64 0, .int .i64 0, .int .i64 0]⟩),
   (193, ⟨.func #[165] #[4] false, 1, 8, false, [.any]⟩),
   (197, ⟨.slice 5, 1, 24, false, [.nils]⟩),
   (205, ⟨.array 4 60, 8, 64, true, [.int .i64 0, .int .i64 0, .int .i64 0, .int .i64 0, .int .i64 0, .int .i64 0, .int .i64 0, .int .i64 0]⟩),
   (206, ⟨.int .u64, 1, 8, false, [.int .u64 0]⟩),
   (218, ⟨.int .u8, 1, 1, false, [.int .u8 0]⟩),
   (228, ⟨.struct #[⟨ "Walls", 34, 0, false, "", "", 0⟩, ⟨ "At", 60, 1, false, "", "", 24⟩, ⟨ "From", 61, 3, false, "", "", 40⟩, ⟨ "To", 61, 5, false, "", "", 56⟩, ⟨ "Next", 3, 7, false, "", "", 72⟩], 8, 80, true, [.nils, .int .i64 0, .int .i64 0, .int .i64 0, .int .i64 0, .int .i64 0, .int .i64 0, .int .i64 0]⟩),
   (229, ⟨.slice 228, 1, 24, false, [.nils]⟩)]
def eqs:List Nat:=[22,29,60,103]
theorem Ydt:(tbl.map fun p=>mkTI Tryz.prog p.1)=tbl.map fun p=>some p.2:=by kernel_rfl
theorem Zvi:TabOK Tryz.prog (tget tbl):=Zvh Ydt
theorem Yd4:(eqs.all fun t=>!Tryz.prog.stoodInHeld t && !Tryz.prog.eqGuardType Tryz.prog.depth t)=true:=by kernel_rfl
theorem eqOK:EqOK Tryz.prog (memN eqs):=Yat Yd4
abbrev I (n:Int):AV:=.int .i64 n
def pt0:PC:=fun _ _=>none
theorem Zh:PCOK Tryz.prog pt0:=fun _ _ _ h=>by cases h
theorem mixed:Tryz.prog.follows .mixedOrders=true:=by kernel_rfl
noncomputable def bs:Base Tryz.prog:=⟨tget tbl,memN eqs,Zvi,eqOK,mixed⟩
def nos:FuncId->Bool:=fun _=>false
def sgn (n:Int):Int:=if n>0 then 1 else if n<0 then -1 else 0
theorem c115 (n:Int):PCall Tryz.prog 63 [I n] ⟨I (sgn n),[]⟩:=by
 refine bs.pcall (sx:=nos) Zh Tryz.func63 (by kernel_rfl) (by kernel_rfl) rfl ?_
 refine Tv (fun h1=>?_) (fun h1=>?_)
 ·exact Zbr (by simp at h1; simp [sgn,h1])
 ·refine Tv (fun h2=>?_) (fun h2=>?_)
  ·exact Zbr (by simp at h1 h2; simp [sgn,h2,Ld.2 h1])
  ·exact Zbr (by simp at h1 h2; simp [sgn,Ld.2 h2,Ld.2 h1])
theorem c145 {nm ht fl ce ms wa ca se:AV} {es:List (List AV)} {i:Nat} {x y u v:Int} (hn:es.length<1000) (h1:es[i]?=some [I x,I y]) (h2:es[(i+1)%es.length]?=some [I u,I v]) :
  PCall Tryz.prog 89 [.agg [nm,ht,fl,ce,ms,.isl 2 es,wa,ca,se],I i] ⟨.agg [I i,I x,I y,I u,I v],[]⟩:=by
 have hi:i<es.length:=(List.getElem?_eq_some_iff.1 h1).1
 have hw:Qa Qb ((i:Int)+1)=((i+1:Nat):Int):=Jo _ ⟨by omega,by omega⟩
 have hm:(Qa Qb ((i:Int)+1)).tmod (es.length:Int)=(((i+1)%es.length:Nat):Int):=by rw [hw]; rfl
 refine bs.pcall (sx:=nos) Zh Tryz.func89 (by kernel_rfl) (by kernel_rfl) rfl ?_
 refine Su h1 ?_
 have hp:0<es.length:=by omega
 refine As.np (by omega) ?_
 refine As.p (by rw [hm]; exact Int.natCast_nonneg _) ?_
 refine Su (x:=[I u,I v]) (by rw [hm]; exact h2) ?_
 refine Fe (by kernel_rfl) ?_
 refine Su rfl ?_
 exact Zba rfl rfl
abbrev pt (p:Int × Int):List AV:=[I p.1,I p.2]
def cor (ps:List (Int × Int)) (i:Nat):Int × Int:=ps.getD i (0,0)
def Zu7 (ps:List (Int × Int)) (i:Nat):AV:=.agg [I i,I (cor ps i).1,I (cor ps i).2,I (cor ps ((i+1)%ps.length)).1,I (cor ps ((i+1)%ps.length)).2]
def Zc7 (ps:List (Int × Int)):List (List AV):=(Wc ps.length).map fun i=>[Zu7 ps i]
theorem Zo9 {ps:List (Int × Int)} {i:Nat} (h:i<ps.length):(ps.map pt)[i]?=some [I (cor ps i).1,I (cor ps i).2]:=by
 simp [cor,h]
def r145:List AV->Option PRes
 | [.agg [_,_,_,_,_,.isl 2 es,_,_,_],.int .i64 (.ofNat i)]=>match es[i]?,es[(i+1)%es.length]? with
  | some [.int .i64 x,.int .i64 y],some [.int .i64 u,.int .i64 v]=>cond (Wa es.length 1000) (some ⟨.agg [I i,I x,I y,I u,I v],[]⟩) none
  | _,_=>none
 | _=>none
def pcW:PC:=fun f a=>cond (Qp f 89) (r145 a) none
theorem Zx0:PCOK Tryz.prog pcW:=by
 intro f a res h
 unfold pcW at h
 cases hb:Qp f 89 with
 | false=>rw [hb] at h; cases h
 | true =>
  rw [hb] at h
  rw [Qh hb]
  simp only [cond_true] at h
  unfold r145 at h
  split at h
  ·split at h
   ·rename_i h1 h2
    obtain ⟨h3,h4⟩:=Za h
    cases h4
    exact c145 (by simpa [Si] using h3) h1 h2
   ·cases h
  ·cases h
theorem Ycv {nm ht fl ce ms wa ca se:AV} {ps:List (Int × Int)} (hp:Zx [nm,ht,fl,ce,ms,wa,ca,se]=true) (hn:ps.length<1000) :
  ItOK Tryz.prog 122 [.agg [nm,ht,fl,ce,ms,.isl 2 (ps.map pt),wa,ca,se]] [] (Zc7 ps):=by
 refine bs.iter Zx0 Tryz.func122 (by kernel_rfl) rfl (by kernel_rfl) fun B Ig l JX hI=>?_
 refine Zst (S:=Nat) (fun k=>ps.length-k) (fun k=>[(1,.yld l),(2,.ptr 0 0 0),(8,I ps.length),(9,I k)]) (fun _=>⟨[(0,.row 9 [[nm,ht,fl,ce,ms,.isl 2 (ps.map pt),wa,ca,se]] true false)],1⟩) (fun k=>some ((Zc7 ps).drop k)) [1,2,8,9] [0] (fun k=>k<=ps.length) ?_ 0 (Rl _) ?_ rfl rfl
 ·intro k hk
  refine bs.awpi Zx0 hI ?_
  refine Br.dec (fun hlt=>?_) (fun hge=>?_)
  ·have hlt:k<ps.length:=by omega
   have hx:(Zc7 ps).drop k=[Zu7 ps k]::(Zc7 ps).drop (k+1):=by
    rw [Qr (by simp [Zc7,hlt])]; simp [Zc7]
   rw [hx]
   have hpu:Zx [.agg [nm,ht,fl,ce,ms,.isl 2 (ps.map pt),wa,ca,se],I k]=true:=by
    simp only [Zx,Zr,Qf,Bool.and_true] at hp ⊢; simp [hp]
   have hr:r145 [.agg [nm,ht,fl,ce,ms,.isl 2 (ps.map pt),wa,ca,se],I k]=some ⟨Zu7 ps k,[]⟩:=by
    have e1:=Zo9 hlt
    have e2:=Zo9 (ps:=ps) (i:=(k+1)%ps.length) (Ot _ (by omega))
    have hl:(ps.map pt).length=ps.length:=by simp
    show (match (ps.map pt)[k]?,(ps.map pt)[(k+1)%(ps.map pt).length]? with
     | some [.int .i64 x,.int .i64 y],some [.int .i64 u,.int .i64 v]=>cond (Wa (ps.map pt).length 1000) (some (PRes.mk (.agg [I k,I x,I y,I u,I v]) [])) none
     | _,_=>none)=_
    rw [hl,e1,e2]
    have:Wa ps.length 1000=true:=by simpa [Si] using hn
    simp only [this]; rfl
   refine Su (Zpv _ hpu) ?_
   refine Su hr ?_
   refine ⟨rfl,rfl,rfl,rfl,?_,?_⟩
   ·refine ⟨k+1,by omega,by omega,?_,rfl,rfl⟩
    have hw:Qa Qb ((k:Int)+1)=((k+1:Nat):Int):=Jo _ ⟨by omega,by omega⟩
    exact congrArg (fun x=>[(1,AV.yld l),(2,.ptr 0 0 0),(8,I ps.length),(9,I x)]) hw
   ·refine ⟨.inr rfl,.inr rfl,?_⟩
    exact ⟨[],rfl⟩
  ·have:k=ps.length:=by omega
   subst this
   refine ⟨.inl rfl,.inl ?_,[],rfl⟩
   simp [Zc7]
 ·exact congrArg (fun x:Nat=>[(1,AV.yld l),(2,.ptr 0 0 0),(8,I x),(9,I 0)]) (by simp)
def hd1 (e:List AV):AV:=e.headD .any
def Zgy:List (List AV)->Option (List (Int × Int))
 | []=>some []
 | [.int .i64 x,.int .i64 y]::l=>match Zgy l with
  | some ps=>some ((x,y)::ps)
  | none=>none
 | _=>none
theorem Zp9:∀ {es:List (List AV)} {ps:List (Int × Int)},Zgy es=some ps->es=ps.map pt:=by
 intro es
 induction es with
 | nil=>intro ps h; simp only [Zgy,Qg] at h; subst h; rfl
 | cons e l ih =>
  intro ps h
  unfold Zgy at h
  split at h
  ·rename_i h0; cases h0
  ·rename_i x y l' h0
   cases h0
   split at h
   ·rename_i qs hq
    cases h
    rw [ih hq]; rfl
   ·cases h
  ·cases h
def Zxk (c0 c1:List AV):Option (List (List AV)):=match c0,c1 with
 | [.agg [nm,ht,fl,ce,ms,.isl 2 es,wa,ca,se]],[]=>match Zgy es with
  | some ps=>cond (Zx [nm,ht,fl,ce,ms,wa,ca,se]&&Wa ps.length 1000) (some (Zc7 ps)) none
  | none=>none
 | _,_=>none
def itT:ITab:=fun g c0 c1=>cond (Qp g 122) (Zxk c0 c1) none
theorem Zyg:∀ g c0 c1 xs,itT g c0 c1=some xs->ItOK Tryz.prog g c0 c1 xs:=by
 intro g c0 c1 xs h
 unfold itT at h
 obtain ⟨h1,h⟩:=Za h
 rw [Qh h1]
 unfold Zxk at h
 split at h
 ·split at h
  ·rename_i ps hps
   obtain ⟨h2,h⟩:=Za h
   cases h
   simp only [Qf,Si] at h2
   rw [Zp9 hps]
   exact Ycv h2.1 h2.2
  ·cases h
 ·cases h
noncomputable def exT (xs:List Nat) (pt:PC):CF:=exG Tryz.prog (tget tbl) (memN eqs) itT (memN xs) pt 1000 40
theorem Yc6 {xs:List Nat} {pt:PC} (hpt:PCOK Tryz.prog pt):CFOK Tryz.prog (exT xs pt):=Zhj Zvi eqOK Zyg mixed hpt 40
def isR (v0:AV):Option PRes->Bool
 | some ⟨v,[]⟩=>eqA v v0
 | _=>false
theorem Zyh {v0:AV} {o:Option PRes} (h:isR v0 o=true):o=some ⟨v0,[]⟩:=by
 unfold isR at h
 split at h
 ·rw [Ztl _ _ h]
 ·cases h
theorem Zvo {xs:List Nat} {pt:PC} (hpt:PCOK Tryz.prog pt) {f:FuncId} {a:List AV} {v:AV} (h:isR v (pcF (exT xs pt) f a)=true):PCall Tryz.prog f a ⟨v,[]⟩:=Zjk (Yc6 hpt) (Zyh h)
def Zdi (f0:FuncId) (a0:List AV) (v0:AV) (pt:PC):PC:=fun f a=>cond (Qp f f0&&eqL a a0) (some ⟨v0,[]⟩) (pt f a)
theorem Xd {f0:FuncId} {a0:List AV} {v0:AV} {pt:PC} (h0:PCall Tryz.prog f0 a0 ⟨v0,[]⟩) (h:PCOK Tryz.prog pt):PCOK Tryz.prog (Zdi f0 a0 v0 pt):=by
 intro f a res hr
 unfold Zdi at hr
 cases hb:(Qp f f0&&eqL a a0) with
 | true =>
  rw [hb] at hr
  cases hr
  simp only [Qf] at hb
  rw [Qh hb.1,Zfv _ _ hb.2]
  exact h0
 | false=>rw [hb] at hr; exact h f a res hr
theorem pn {pc:PC} (hpc:PCOK Tryz.prog pc) {f:FuncId} {fn:Func} (hf:Tryz.prog.funcs[f]?=some fn) {args:List AV} {res:PRes} (hv:Zfj (cxV Tryz.prog bs.T bs.ok nos pc) (hdV Tryz.prog bs.T bs.ok nos pc) fn args ⟨[],0⟩ (fun v σ=>fA v fun v=>Ret res v σ)) (h1:(fn.name == "runtime.NumGoroutine")=false:=by kernel_rfl) (h2:fn.body.isNone=false:=by kernel_rfl) (hids:Xj res.blks.length res.v=true:=by rfl):PCall Tryz.prog f args res:=bs.pv (sx:=nos) hpc hf h1 h2 hids hv
def ins (f0:FuncId) (r:List AV->Option PRes) (pt:PC):PC:=fun f a=>cond (Qp f f0) (r a) (pt f a)
theorem Zj {f0:FuncId} {r:List AV->Option PRes} {pt:PC} (h0:∀ a res,r a=some res->PCall Tryz.prog f0 a res) (h:PCOK Tryz.prog pt):PCOK Tryz.prog (ins f0 r pt):=by
 intro f a res hr
 unfold ins at hr
 cases hb:Qp f f0 with
 | true=>rw [hb] at hr; rw [Qh hb]; exact h0 a res hr
 | false=>rw [hb] at hr; exact h f a res hr
abbrev Bo (b:Bool):AV:=.bool b
abbrev P2 (x y:Int):AV:=.agg [I x,I y]
abbrev P3 (x y z:Int):AV:=.agg [I x,I y,I z]
abbrev P4 (x y z d:Int):AV:=.agg [I x,I y,I z,I d]
def within (n lo hi:Int):Bool:=decide (lo<=n)&&decide (n<=hi)
theorem c78 (n lo hi:Int):PCall Tryz.prog 75 [I n,I lo,I hi] ⟨Bo (within n lo hi),[]⟩:=by
 refine bs.pcall (sx:=nos) Zh Tryz.func75 (by kernel_rfl) (by kernel_rfl) rfl ?_
 refine Tv (fun h=>?_) (fun h=>?_)
 ·exact Yf (by simp [within,h])
 ·exact Yf (by simp [within,h])
theorem c30 (n lo hi:Int):PCall Tryz.prog 5 [I n,I lo,I hi] ⟨Bo (within n lo hi),[]⟩:=by
 refine bs.pcall (sx:=nos) Zh Tryz.func5 (by kernel_rfl) (by kernel_rfl) rfl ?_
 refine Tv (fun h=>?_) (fun h=>?_)
 ·exact Yf (by simp [within,h])
 ·exact Yf (by simp [within,h])
def r78:List AV->Option PRes
 | [.int .i64 n,.int .i64 lo,.int .i64 hi]=>some ⟨Bo (within n lo hi),[]⟩
 | _=>none
def k78:PC:=ins 5 r78 (ins 75 r78 pt0)
theorem Zyf:PCOK Tryz.prog k78:=Zj (fun a res h=>by unfold r78 at h; split at h<;>cases h; exact c30 _ _ _) (Zj (fun a res h=>by unfold r78 at h; split at h<;>cases h; exact c78 _ _ _) Zh)
def small (n most:Int):Bool:=within n (Qa Qb (0-most)) most
theorem c92 (n m:Int):PCall Tryz.prog 112 [I n,I m] ⟨Bo (small n m),[]⟩:=by
 refine bs.pcall (sx:=nos) Zyf Tryz.func112 (by kernel_rfl) (by kernel_rfl) rfl ?_
 exact Su rfl (Yf rfl)
def r92:List AV->Option PRes
 | [.int .i64 n,.int .i64 m]=>some ⟨Bo (small n m),[]⟩
 | _=>none
def k92:PC:=ins 112 r92 k78
theorem Zye:PCOK Tryz.prog k92:=Zj (fun a res h=>by unfold r92 at h; split at h<;>cases h; exact c92 _ _) Zyf
def Xc (x y z:Int):Bool:=small x 45000&&small y 45000&&small z 45000
theorem c93 (x y z:Int):PCall Tryz.prog 57 [P3 x y z] ⟨Bo (Xc x y z),[]⟩:=by
 refine bs.pcall (sx:=nos) Zye Tryz.func57 (by kernel_rfl) (by kernel_rfl) rfl ?_
 refine Tv (fun h=>?_) (fun h=>?_)
 ·refine Tv (fun h2=>?_) (fun h2=>?_)
  ·exact Yf (by simp_all [Xc])
  ·exact Yf (by simp_all [Xc])
 ·exact Yf (by simp_all [Xc])
def r93:List AV->Option PRes
 | [.agg [.int .i64 x,.int .i64 y,.int .i64 z]]=>some ⟨Bo (Xc x y z),[]⟩
 | _=>none
def k93:PC:=ins 57 r93 k92
theorem Zip:PCOK Tryz.prog k93:=Zj (fun a res h=>by unfold r93 at h; split at h<;>cases h; exact c93 _ _ _) Zye
def mir (k a x y z:Int):Int × Int × Int :=
 if k=0 then (Qa Qb (Qa Qb (2*a)-x),y,z) else if k=1 then (x,Qa Qb (Qa Qb (2*a)-y),z) else if k=2 then (x,y,Qa Qb (Qa Qb (2*a)-z)) else if k=3 then (Qa Qb (a-y),Qa Qb (a-x),z) else if k=4 then (Qa Qb (y+a),Qa Qb (x-a),z) else (x,y,z)
def Xw (k a x y z:Int):Int :=
 if within k 0 4=false then 15 else if small a 10000=false\/Xc x y z=false then 2 else if Xc (mir k a x y z).1 (mir k a x y z).2.1 (mir k a x y z).2.2=false then 8 else 0
def mirP (k a x y z:Int):Int × Int × Int:=if Xw k a x y z=0 then mir k a x y z else (0,0,0)
abbrev mirV (k a x y z:Int):AV:=.tup [P3 (mirP k a x y z).1 (mirP k a x y z).2.1 (mirP k a x y z).2.2,I (Xw k a x y z)]
theorem Zp {x y z e x' y' z' e' : Int} {σ:St} (h:(x,y,z)=(x',y',z')/\e=e'):Zbv ⟨.tup [P3 x' y' z',I e'],[]⟩ (.tup [P3 x y z,I e]) σ:=by
 obtain ⟨h1,h2⟩:=h
 simp only [Prod.mk.injEq] at h1
 obtain ⟨rfl,rfl,rfl⟩:=h1
 subst h2
 exact Zba rfl rfl
theorem c32 (k a x y z:Int):PCall Tryz.prog 52 [P2 k a,P3 x y z] ⟨mirV k a x y z,[]⟩:=by
 refine bs.pcall (sx:=nos) Zip Tryz.func52 (by kernel_rfl) (by kernel_rfl) rfl ?_
 refine Tv (fun h1=>?_) (fun h1=>?_)
 ·exact Su rfl (Zp (by simp_all [mirP,Xw,mir]))
 ·refine Tv (fun h2=>?_) (fun h2=>?_)
  ·exact Su rfl (Zp (by simp_all [mirP,Xw,mir]))
  ·refine Tv (fun h3=>?_) (fun h3=>?_)
   ·exact Su rfl (Zp (by simp_all [mirP,Xw,mir]))
   ·refine Tv (fun h4=>?_) (fun h4=>?_)
    ·refine Tv (fun h5=>?_) (fun h5=>?_)
     ·exact Su rfl (Zp (by simp_all [mirP,Xw,mir]))
     ·exact Su rfl (Zp (by simp_all [mirP,Xw,mir]))
    ·refine Tv (fun h6=>?_) (fun h6=>?_)
     ·refine Tv (fun h7=>?_) (fun h7=>?_)
      ·exact Su rfl (Zp (by simp_all [mirP,Xw,mir]))
      ·exact Su rfl (Zp (by simp_all [mirP,Xw,mir]))
     ·refine Tv (fun h8=>?_) (fun h8=>?_)
      ·refine Tv (fun h9=>?_) (fun h9=>?_)
       ·exact Su rfl (Zp (by simp_all [mirP,Xw,mir]))
       ·exact Su rfl (Zp (by simp_all [mirP,Xw,mir]))
      ·refine Tv (fun h10=>?_) (fun h10=>?_)
       ·refine Fe (by kernel_rfl) ?_
        refine Tv (fun h11=>?_) (fun h11=>?_)
        ·exact Su rfl (Zp (by simp_all [mirP,Xw,mir]))
        ·exact Su rfl (Zp (by simp_all [mirP,Xw,mir]))
       ·refine Tv (fun h12=>?_) (fun h12=>?_)
        ·refine Fe (by kernel_rfl) ?_
         refine Tv (fun h13=>?_) (fun h13=>?_)
         ·exact Su rfl (Zp (by simp_all [mirP,Xw,mir]))
         ·exact Su rfl (Zp (by simp_all [mirP,Xw,mir]))
        ·refine Tv (fun h14=>?_) (fun h14=>?_)
         ·exact Su rfl (Zp (by simp_all [mirP,Xw,mir]))
         ·exact Su rfl (Zp (by simp_all [mirP,Xw,mir]))
def Zcu (k a:Int):Int:=if within k 0 4=false then 15 else if within a (-10000) 10000=false then 2 else 0
def img (n:Int):Bool:=within n (-45000) 45000
def Va (x y z:Int):Int:=if img x&&img y&&img z then 0 else 2
def rmir (k a x y z:Int):Int × Int × Int :=
 if k=0 then (Qa Qb (Qa Qb (2*a)-x),y,z) else if k=1 then (x,Qa Qb (Qa Qb (2*a)-y),z) else if k=2 then (x,y,Qa Qb (Qa Qb (2*a)-z)) else if k=3 then (Qa Qb (a-y),Qa Qb (a-x),z) else (Qa Qb (y+a),Qa Qb (x-a),z)
def r94:List AV->Option PRes
 | [.agg [.int .i64 k,.int .i64 a]]=>some ⟨I (Zcu k a),[]⟩
 | _=>none
def r96:List AV->Option PRes
 | [.agg [.int .i64 k,.int .i64 a],.agg [.int .i64 x,.int .i64 y,.int .i64 z]]=>some ⟨P3 (rmir k a x y z).1 (rmir k a x y z).2.1 (rmir k a x y z).2.2,[]⟩
 | _=>none
def r32:List AV->Option PRes
 | [.agg [.int .i64 k,.int .i64 a],.agg [.int .i64 x,.int .i64 y,.int .i64 z]]=>some ⟨mirV k a x y z,[]⟩
 | _=>none
def Zdo (k a x y z:Int):Int :=
 if Zcu k a=0 then (if Va x y z=0 then (if Va (rmir k a x y z).1 (rmir k a x y z).2.1 (rmir k a x y z).2.2=0 then 0 else 8) else Va x y z) else Zcu k a
def Zzk (k a x y z:Int):Int × Int × Int:=if Zdo k a x y z=0 then rmir k a x y z else (0,0,0)
def offN (k x y z:Int):Int:=if k=0 then x else if k=1 then y else if k=2 then z else if k=3 then IntKind.i64.wrap (x+y) else IntKind.i64.wrap (x-y)
def sqd (a b:Int):Int:=Qa Qb (Qa Qb (a-b)*Qa Qb (a-b))
def square (x y z u v w:Int):Int:=Qa Qb (Qa Qb (sqd x u+sqd y v)+sqd z w)
theorem W_eq {n:Int} (h1 : -9223372036854775808<=n) (h2:n<=9223372036854775807):Qa Qb n=n:=Jo _ ⟨h1,by omega⟩
theorem within_iff {n lo hi:Int}:within n lo hi=true↔lo<=n/\n<=hi:=by simp [within]
theorem Zfa (x y z:Int):Xc x y z=(img x&&img y&&img z):=by
 have:Qa Qb (0-45000) = -45000:=by decide
 simp only [Xc,small,img,this]
theorem Zk1 (k a x y z:Int):Xw k a x y z=Zdo k a x y z:=by
 have e1:Qa Qb (0-10000) = -10000:=by decide
 unfold Xw Zdo Zcu Va
 rw [Zfa,Zfa]
 simp only [small,e1]
 by_cases hk:within k 0 4=true
 ·have hm:mir k a x y z=rmir k a x y z:=by
   have:=within_iff.1 hk
   have:k=0\/k=1\/k=2\/k=3\/k=4:=by omega
   rcases this with rfl|rfl|rfl|rfl|rfl<;>rfl
  rw [hm]
  cases h1:within a (-10000) 10000<;>cases h2:(img x&&img y&&img z)<;>cases h3:(img (rmir k a x y z).1&&img (rmir k a x y z).2.1&&img (rmir k a x y z).2.2)<;>simp_all
 ·simp at hk; simp [hk]
theorem Zz2 (k a x y z:Int):mirP k a x y z=Zzk k a x y z:=by
 unfold mirP Zzk
 rw [Zk1]
 by_cases h:Zdo k a x y z=0
 ·rw [if_pos h,if_pos h]
  have hk:within k 0 4=true:=by
   cases hk:within k 0 4 with
   | true=>rfl
   | false=>simp [Zdo,Zcu,hk] at h
  have:=within_iff.1 hk
  have:k=0\/k=1\/k=2\/k=3\/k=4:=by omega
  rcases this with rfl|rfl|rfl|rfl|rfl<;>rfl
 ·rw [if_neg h,if_neg h]
theorem Zp6 {k a x y z:Int} (hk:0<=k/\k<=4) (ha : -10000<=a/\a<=10000) (hx : -45000<=x/\x<=45000) (hy : -45000<=y/\y<=45000) (hz : -45000<=z/\z<=45000) {u v w:Int} (e:rmir k a x y z=(u,v,w)) (hu : -45000<=u/\u<=45000) (hv : -45000<=v/\v<=45000) (hw : -45000<=w/\w<=45000):Zdo k a x y z=0:=by
 have i1:∀ {n:Int},-45000<=n/\n<=45000->img n=true:=fun h=>within_iff.2 h
 simp [Zdo,Zcu,Va,within_iff.2 hk,within_iff.2 ha,i1 hx,i1 hy,i1 hz,e,i1 hu,i1 hv,i1 hw]
def nl (ns:List Int):List (List AV):=ns.map fun n=>[I n]
theorem Xa (ns:List Int):(nl ns).length=ns.length:=by simp [nl]
theorem Zdc {ns:List Int} {k:Nat} (h:k<ns.length):(nl ns)[((k:Nat):Int).toNat]?=some [I ns[k]]:=by simp [nl,h]
theorem Xh {k:Nat} (h:k<9000000000):Qa Qb ((k:Int)+1)=((k+1:Nat):Int):=W_eq (by omega) (by omega)
def size (n:Int):Int:=imax n (Qa Qb (0-n))
theorem c116 (n:Int):PCall Tryz.prog 64 [I n] ⟨I (size n),[]⟩:=by
 refine pn Zh Tryz.func64 ?_
 repeat'(first|refine wk0 ?_|(refine wk2 ?_ ?_<;>intro _)|fail)
 all_goals exact Zd rfl
structure Wl where
 n:Int
 fx:Int
 fy:Int
 tx:Int
 ty:Int
abbrev Wl.av (w:Wl):AV:=.agg [I w.n,I w.fx,I w.fy,I w.tx,I w.ty]
def Wl.dx (w:Wl):Int:=Qa Qb (w.tx-w.fx)
def Wl.dy (w:Wl):Int:=Qa Qb (w.ty-w.fy)
theorem c174 (w:Wl):PCall Tryz.prog 117 [w.av] ⟨.tup [I w.dx,I w.dy],[]⟩:=by
 refine pn Zh Tryz.func117 ?_
 repeat'(first|refine wk0 ?_|(refine wk2 ?_ ?_<;>intro _)|fail)
 all_goals exact Zg rfl rfl
def r115:List AV->Option PRes
 | [.int .i64 n]=>some ⟨I (sgn n),[]⟩
 | _=>none
def r116:List AV->Option PRes
 | [.int .i64 n]=>some ⟨I (size n),[]⟩
 | _=>none
def r174:List AV->Option PRes
 | [.agg [.int .i64 n,.int .i64 fx,.int .i64 fy,.int .i64 tx,.int .i64 ty]]=>some ⟨.tup [I (Wl.dx ⟨n,fx,fy,tx,ty⟩),I (Wl.dy ⟨n,fx,fy,tx,ty⟩)],[]⟩
 | _=>none
def kG1:PC:=ins 63 r115 (ins 64 r116 (ins 117 r174 k93))
theorem Zio:PCOK Tryz.prog kG1:=by
 refine Zj (fun a res h=>?_) (Zj (fun a res h=>?_) (Zj (fun a res h=>?_) Zip))
 ·unfold r115 at h; split at h<;>cases h; exact c115 _
 ·unfold r116 at h; split at h<;>cases h; exact c116 _
 ·unfold r174 at h; split at h<;>cases h; exact c174 ⟨_,_,_,_,_⟩
def Wl.straight (w:Wl):Bool:=decide (w.dx=0)||decide (w.dy=0)||decide (size w.dx=size w.dy)
theorem c146 (w:Wl):PCall Tryz.prog 90 [w.av] ⟨Bo w.straight,[]⟩:=by
 refine pn Zio Tryz.func90 ?_
 repeat'(first|refine wk0 ?_|(refine wk2 ?_ ?_<;>intro _)|fail)
 all_goals exact Zb (by simp_all [Wl.straight]<;>omega)
def Wl.side (w:Wl) (x y d:Int):Int:=sgn (Qa Qb (Qa Qb (w.dx*Qa Qb (y-Qa Qb (w.fy*d)))-Qa Qb (w.dy*Qa Qb (x-Qa Qb (w.fx*d)))))
theorem c206 (w:Wl) (x y d:Int):PCall Tryz.prog 130 [w.av,I x,I y,I d] ⟨I (w.side x y d),[]⟩:=by
 refine pn Zio Tryz.func130 ?_
 repeat'(first|refine wk0 ?_|(refine wk2 ?_ ?_<;>intro _)|fail)
 all_goals exact Zd rfl
def r146:List AV->Option PRes
 | [.agg [.int .i64 n,.int .i64 fx,.int .i64 fy,.int .i64 tx,.int .i64 ty]]=>some ⟨Bo (Wl.straight ⟨n,fx,fy,tx,ty⟩),[]⟩
 | _=>none
def r206:List AV->Option PRes
 | [.agg [.int .i64 n,.int .i64 fx,.int .i64 fy,.int .i64 tx,.int .i64 ty],.int .i64 x,.int .i64 y,.int .i64 d]=>some ⟨I (Wl.side ⟨n,fx,fy,tx,ty⟩ x y d),[]⟩
 | _=>none
def kG2:PC:=ins 90 r146 (ins 130 r206 kG1)
theorem Zya:PCOK Tryz.prog kG2:=by
 refine Zj (fun a res h=>?_) (Zj (fun a res h=>?_) Zio)
 ·unfold r146 at h; split at h<;>cases h; exact c146 ⟨_,_,_,_,_⟩
 ·unfold r206 at h; split at h<;>cases h; exact c206 ⟨_,_,_,_,_⟩ _ _ _
def Wl.has (w:Wl) (x y d:Int):Bool:=decide (w.side x y d=0)&&within x (Qa Qb (imin w.fx w.tx*d)) (Qa Qb (imax w.fx w.tx*d))&&within y (Qa Qb (imin w.fy w.ty*d)) (Qa Qb (imax w.fy w.ty*d))
theorem c205 (w:Wl) (x y d:Int):PCall Tryz.prog 129 [w.av,I x,I y,I d] ⟨Bo (w.has x y d),[]⟩:=by
 refine pn Zya Tryz.func129 ?_
 repeat'(first|refine wk0 ?_|(refine wk2 ?_ ?_<;>intro _)|fail)
 all_goals exact Zb (by simp_all [Wl.has]<;>omega)
def r205:List AV->Option PRes
 | [.agg [.int .i64 n,.int .i64 fx,.int .i64 fy,.int .i64 tx,.int .i64 ty],.int .i64 x,.int .i64 y,.int .i64 d]=>some ⟨Bo (Wl.has ⟨n,fx,fy,tx,ty⟩ x y d),[]⟩
 | _=>none
def kG3:PC:=ins 129 r205 kG2
theorem Xm:PCOK Tryz.prog kG3:=by
 refine Zj (fun a res h=>?_) Zya
 unfold r205 at h; split at h<;>cases h; exact c205 ⟨_,_,_,_,_⟩ _ _ _
def Wl.touches (w o:Wl):Bool :=
 (decide (Qa Qb (w.side o.fx o.fy 1*w.side o.tx o.ty 1)<0)&&decide (Qa Qb (o.side w.fx w.fy 1*o.side w.tx w.ty 1)<0))||(w.has o.fx o.fy 1||w.has o.tx o.ty 1||o.has w.fx w.fy 1||o.has w.tx w.ty 1)
theorem c196 (w o:Wl):PCall Tryz.prog 127 [w.av,o.av] ⟨Bo (w.touches o),[]⟩:=by
 obtain ⟨n,a,b,c,d⟩:=w
 obtain ⟨m,e,f,g,i⟩:=o
 refine pn Xm Tryz.func127 ?_
 repeat'(first|refine wk0 ?_|(refine wk2 ?_ ?_<;>intro _)|fail)
 all_goals exact Zb (by simp_all [Wl.touches]<;>omega)
def Wl.turnsBack (w o:Wl):Bool:=decide (Qa Qb (w.dx*o.dy)=Qa Qb (w.dy*o.dx))&&decide (Qa Qb (Qa Qb (w.dx*o.dx)+Qa Qb (w.dy*o.dy))<0)
theorem c195 (w o:Wl):PCall Tryz.prog 126 [w.av,o.av] ⟨Bo (w.turnsBack o),[]⟩:=by
 refine pn Xm Tryz.func126 ?_
 repeat'(first|refine wk0 ?_|(refine wk2 ?_ ?_<;>intro _)|fail)
 all_goals exact Zb (by simp_all [Wl.turnsBack]<;>omega)
structure Rc where
 xl:Int
 xh:Int
 yl:Int
 yh:Int
abbrev Rc.av (q:Rc):AV:=.agg [I q.xl,I q.xh,I q.yl,I q.yh]
def rcOf (fx fy tx ty:Int):Rc:=⟨imin fx tx,imax fx tx,imin fy ty,imax fy ty⟩
theorem c170 (nm mt hs:AV) (fx fy tx ty:Int):PCall Tryz.prog 119 [.agg [nm,mt,I fx,I fy,I tx,I ty,hs]] ⟨(rcOf fx fy tx ty).av,[]⟩:=by
 refine pn Xm Tryz.func119 ?_
 repeat'(first|refine wk0 ?_|(refine wk2 ?_ ?_<;>intro _)|fail)
 all_goals exact Zg rfl rfl
def Rc.has (q:Rc) (x y d:Int):Bool:=within x (Qa Qb (q.xl*d)) (Qa Qb (q.xh*d))&&within y (Qa Qb (q.yl*d)) (Qa Qb (q.yh*d))
theorem c211 (q:Rc) (x y d:Int):PCall Tryz.prog 136 [q.av,I x,I y,I d] ⟨Bo (q.has x y d),[]⟩:=by
 refine pn Xm Tryz.func136 ?_
 repeat'(first|refine wk0 ?_|(refine wk2 ?_ ?_<;>intro _)|fail)
 all_goals exact Zb (by simp_all [Rc.has]<;>omega)
def Rc.holds (q:Rc) (x y d:Int):Bool:=decide (Qa Qb (q.xl*d)<x)&&decide (x<Qa Qb (q.xh*d))&&decide (Qa Qb (q.yl*d)<y)&&decide (y<Qa Qb (q.yh*d))
theorem c193 (q:Rc) (x y d:Int):PCall Tryz.prog 120 [q.av,I x,I y,I d] ⟨Bo (q.holds x y d),[]⟩:=by
 refine pn Xm Tryz.func120 ?_
 repeat'(first|refine wk0 ?_|(refine wk2 ?_ ?_<;>intro _)|fail)
 all_goals exact Zb (by simp_all [Rc.holds]<;>omega)
def Zeo (x y:Int):Bool:=small x 5000&&small y 5000
theorem c142 (x y:Int):PCall Tryz.prog 86 [P2 x y] ⟨Bo (Zeo x y),[]⟩:=by
 refine pn Xm Tryz.func86 ?_
 repeat'(first|refine wk0 ?_|(refine wk2 ?_ ?_<;>intro _)|fail)
 all_goals exact Zb (by simp_all [Zeo]<;>omega)
theorem c114 (x y z:Int):PCall Tryz.prog 62 [P3 x y z] ⟨P4 x y z 1,[]⟩:=by
 refine pn Xm Tryz.func62 ?_
 repeat'(first|refine wk0 ?_|(refine wk2 ?_ ?_<;>intro _)|fail)
 all_goals exact Zg rfl rfl
def unl (b:Bool) (e:Int):Int:=cond b 0 e
theorem c102 (b:Bool) (e:Int):PCall Tryz.prog 56 [Bo b,I e] ⟨I (unl b e),[]⟩:=by
 refine pn Xm Tryz.func56 ?_
 repeat'(first|refine wk0 ?_|(refine wk2 ?_ ?_<;>intro _)|fail)
 all_goals exact Zd (by simp_all [unl])
structure Mat where
 nm:ByteArray
 a:Int
 b:Int
 c:Int
 d:Int
 sc:Int
structure Wal where
 nm:ByteArray
 mt:ByteArray
 cu:ByteArray
structure Can where
 nm:ByteArray
 mt:ByteArray
 fx:Int
 fy:Int
 tx:Int
 ty:Int
 hs:List Int
structure Sea where
 nm:ByteArray
 x:Int
 y:Int
 z:Int
structure Hal where
 nm:ByteArray
 ht:Int
 fl:ByteArray
 ce:ByteArray
 ms:List Mat
 cs:List (Int × Int)
 ws:List Wal
 ks:List Can
 ss:List Sea
abbrev Mat.av (m:Mat):List AV:=[.str m.nm,I m.a,I m.b,I m.c,I m.d,I m.sc]
abbrev Wal.av (w:Wal):List AV:=[.str w.nm,.str w.mt,.str w.cu]
abbrev Can.av (c:Can):List AV:=[.str c.nm,.str c.mt,I c.fx,I c.fy,I c.tx,I c.ty,.isl 1 (nl c.hs)]
abbrev Sea.av (s:Sea):List AV:=[.str s.nm,I s.x,I s.y,I s.z]
abbrev Hal.cells (h:Hal):List AV:=[.str h.nm,I h.ht,.str h.fl,.str h.ce,.isl 6 (h.ms.map Mat.av),.isl 2 (h.cs.map pt),.isl 3 (h.ws.map Wal.av),.isl 7 (h.ks.map Can.av),.isl 4 (h.ss.map Sea.av)]
abbrev Hal.av (h:Hal):AV:=.agg [.str h.nm,I h.ht,.str h.fl,.str h.ce,.isl 6 (h.ms.map Mat.av),.isl 2 (h.cs.map pt),.isl 3 (h.ws.map Wal.av),.isl 7 (h.ks.map Can.av),.isl 4 (h.ss.map Sea.av)]
def wlOf (cs:List (Int × Int)) (i:Nat):Wl:=⟨i,(cor cs i).1,(cor cs i).2,(cor cs ((i+1)%cs.length)).1,(cor cs ((i+1)%cs.length)).2⟩
def wls (cs:List (Int × Int)):List Wl:=(Wc cs.length).map (wlOf cs)
theorem Zq9 (cs:List (Int × Int)):Zc7 cs=(wls cs).map fun w=>[w.av]:=by simp [Zc7,wls,wlOf,Zu7]
def Hal.few (h:Hal):Prop:=h.ms.length<1000/\h.cs.length<1000/\h.ws.length<1000/\h.ks.length<1000/\h.ss.length<1000/\∀ c∈h.ks,c.hs.length<1000
theorem itW {h:Hal} (hf:h.few):ItOK Tryz.prog 122 [h.av] [] ((wls h.cs).map fun w=>[w.av]):=by
 rw [<-Zq9]; exact Ycv (by rfl) hf.2.1
def Zqz (n:Int) (w:Wl):Int:=Qa Qb (n+Qa Qb (Qa Qb (w.fx*w.ty)-Qa Qb (w.tx*w.fy)))
def Zaz (h:Hal):Int:=(wls h.cs).foldl Zqz 0
theorem c122 {h:Hal} (hf:h.few):PCall Tryz.prog 94 [h.av] ⟨I (Zaz h),[]⟩:=by
 refine pn Xm Tryz.func94 ?_
 repeat'(first|refine wk0 ?_|(refine wk2 ?_ ?_<;>intro _)|fail)
 refine Hz (env2:=[(1,.ptr 0 0 0),(3,.ptr 1 0 0),(6,.func 122 [h.av] [])]) (σ2:=⟨[(1,.row 1 [[I 0]] true false),(0,.row 9 [h.cells] true false)],2⟩) (Sv [] rfl (kps) (kps)) ?_
 refine rngV (itW hf) rfl rfl rfl rfl (Zdn (S:=Int) (fun s=>[(1,.row 1 [[I s]] true false),(0,.row 9 [h.cells] true false)]) 2 2 (fun xs s=>∃ l:List Wl,xs=l.map (fun w=>[w.av])/\l.foldl Zqz s=Zaz h) ?_ ?_ _ 0 ⟨_,rfl,rfl⟩)
 ·rintro x xs s ⟨l,h1,h2⟩
  cases l with
  | nil=>simp at h1
  | cons w l =>
   simp only [Tg,Rw] at h1
   obtain ⟨rfl,rfl⟩:=h1
   refine ⟨rfl,bs.av (sx:=nos) Xm ?_⟩
   repeat'(first|refine wk0 ?_|(refine wk2 ?_ ?_<;>intro _)|fail)
   refine Ds (bs.av (sx:=nos) Xm ?_)
   repeat'(first|refine wk0 ?_|(refine wk2 ?_ ?_<;>intro _)|fail)
   exact Th ⟨_,[],rfl,kps,l,rfl,h2⟩
 ·rintro s ⟨l,h1,h2⟩
  cases l with
  | cons w l=>simp at h1
  | nil =>
   repeat'(first|refine wk0 ?_|(refine wk2 ?_ ?_<;>intro _)|fail)
   exact Zd h2
def Rc.meets (q:Rc) (w:Wl):Bool :=
 if decide (imax w.fx w.tx<q.xl)||decide (q.xh<imin w.fx w.tx)||decide (imax w.fy w.ty<q.yl)||decide (q.yh<imin w.fy w.ty) then false
 else decide (imin (imin (imin (imin 1 (w.side q.xl q.yl 1)) (w.side q.xl q.yh 1)) (w.side q.xh q.yl 1)) (w.side q.xh q.yh 1)<=0)&&decide (0<=imax (imax (imax (imax (-1) (w.side q.xl q.yl 1)) (w.side q.xl q.yh 1)) (w.side q.xh q.yl 1)) (w.side q.xh q.yh 1))
theorem c213 (q:Rc) (w:Wl):PCall Tryz.prog 137 [q.av,w.av] ⟨Bo (q.meets w),[]⟩:=by
 obtain ⟨wn,wa,wb,wc,wd⟩:=w
 refine pn Xm Tryz.func137 ?_
 repeat'(first|refine wk0 ?_|(refine wk2 ?_ ?_<;>intro _)|fail)
 all_goals try exact Zb (by simp_all [Rc.meets])
 refine Tq 5 ?_
 refine Ri (bs.av (sx:=nos) Xm ?_)
 repeat'(first|refine wk0 ?_|(refine wk2 ?_ ?_<;>intro _)|fail)
 refine Ri (bs.av (sx:=nos) Xm ?_)
 repeat'(first|refine wk0 ?_|(refine wk2 ?_ ?_<;>intro _)|fail)
 refine Ri (bs.av (sx:=nos) Xm ?_)
 repeat'(first|refine wk0 ?_|(refine wk2 ?_ ?_<;>intro _)|fail)
 refine Ri (bs.av (sx:=nos) Xm ?_)
 repeat'(first|refine wk0 ?_|(refine wk2 ?_ ?_<;>intro _)|fail)
 refine Ri (bs.av (sx:=nos) Xm ?_)
 repeat'(first|refine wk0 ?_|(refine wk2 ?_ ?_<;>intro _)|fail)
 all_goals exact Zb (by simp_all [Rc.meets]<;>omega)
def r213:List AV->Option PRes
 | [.agg [.int .i64 a,.int .i64 b,.int .i64 c,.int .i64 d],.agg [.int .i64 n,.int .i64 fx,.int .i64 fy,.int .i64 tx,.int .i64 ty]]=>some ⟨Bo (Rc.meets ⟨a,b,c,d⟩ ⟨n,fx,fy,tx,ty⟩),[]⟩
 | _=>none
def r195:List AV->Option PRes
 | [.agg [.int .i64 m,.int .i64 a,.int .i64 b,.int .i64 c,.int .i64 d],.agg [.int .i64 n,.int .i64 fx,.int .i64 fy,.int .i64 tx,.int .i64 ty]]=>some ⟨Bo (Wl.turnsBack ⟨m,a,b,c,d⟩ ⟨n,fx,fy,tx,ty⟩),[]⟩
 | _=>none
def r196:List AV->Option PRes
 | [.agg [.int .i64 m,.int .i64 a,.int .i64 b,.int .i64 c,.int .i64 d],.agg [.int .i64 n,.int .i64 fx,.int .i64 fy,.int .i64 tx,.int .i64 ty]]=>some ⟨Bo (Wl.touches ⟨m,a,b,c,d⟩ ⟨n,fx,fy,tx,ty⟩),[]⟩
 | _=>none
def r142:List AV->Option PRes
 | [.agg [.int .i64 x,.int .i64 y]]=>some ⟨Bo (Zeo x y),[]⟩
 | _=>none
def r114:List AV->Option PRes
 | [.agg [.int .i64 x,.int .i64 y,.int .i64 z]]=>some ⟨P4 x y z 1,[]⟩
 | _=>none
def r102:List AV->Option PRes
 | [.bool b,.int .i64 e]=>some ⟨I (unl b e),[]⟩
 | _=>none
def r170:List AV->Option PRes
 | [.agg [nm,mt,.int .i64 a,.int .i64 b,.int .i64 c,.int .i64 d,hs]]=>some ⟨(rcOf a b c d).av,[]⟩
 | _=>none
def kG4:PC:=ins 137 r213 (ins 126 r195 (ins 127 r196 (ins 86 r142 (ins 62 r114 (ins 56 r102 (ins 119 r170 kG3))))))
theorem Vy:PCOK Tryz.prog kG4:=by
 refine Zj (fun a res h=>?_) (Zj (fun a res h=>?_) (Zj (fun a res h=>?_) (Zj (fun a res h=>?_) (Zj (fun a res h=>?_) (Zj (fun a res h=>?_) (Zj (fun a res h=>?_) Xm))))))
 ·unfold r213 at h; split at h<;>cases h; exact c213 ⟨_,_,_,_⟩ ⟨_,_,_,_,_⟩
 ·unfold r195 at h; split at h<;>cases h; exact c195 ⟨_,_,_,_,_⟩ ⟨_,_,_,_,_⟩
 ·unfold r196 at h; split at h<;>cases h; exact c196 ⟨_,_,_,_,_⟩ ⟨_,_,_,_,_⟩
 ·unfold r142 at h; split at h<;>cases h; exact c142 _ _
 ·unfold r114 at h; split at h<;>cases h; exact c114 _ _ _
 ·unfold r102 at h; split at h<;>cases h; exact c102 _ _
 ·unfold r170 at h; split at h<;>cases h; exact c170 _ _ _ _ _ _ _
def flips (x y d:Int) (w:Wl):Bool :=
 ((decide (Qa Qb (w.fy*d)<=y)&&decide (y<Qa Qb (w.ty*d)))&&decide (0<w.side x y d))||((decide (Qa Qb (w.ty*d)<=y)&&decide (y<Qa Qb (w.fy*d)))&&decide (w.side x y d<0))
def inPl (x y d:Int):Bool->List Wl->Bool
 | b,[]=>b
 | b,w::l=>if w.has x y d then false else inPl x y d (b ^^ flips x y d w) l
theorem Zle {x y d:Int} {b:Bool} {w:Wl} {l:List Wl} (h:w.has x y d=false):inPl x y d b (w::l)=inPl x y d (b ^^ flips x y d w) l:=by rw [inPl,if_neg (by simp [h])]
def Zu (h:Hal) (x y d:Int):Bool:=inPl x y d false (wls h.cs)
theorem c183 {h:Hal} (hf:h.few) (x y d:Int):PCall Tryz.prog 121 [h.av,I x,I y,I d] ⟨Bo (Zu h x y d),[]⟩:=by
 refine pn Vy Tryz.func121 ?_
 repeat'(first|refine wk0 ?_|(refine wk2 ?_ ?_<;>intro _)|fail)
 refine Hz (env2:=[(4,.ptr 0 0 0),(5,.ptr 1 0 0),(6,.ptr 2 0 0),(7,.ptr 3 0 0),(8,.ptr 4 0 0),(9,.ptr 5 0 0),(15,.func 122 [h.av] [])])
  (σ2:=⟨[(5,.row 1 [[Bo false]] true false),(4,.row 1 [[Bo false]] true false),(3,.row 1 [[I d]] true false),(2,.row 1 [[I y]] true false),(1,.row 1 [[I x]] true false),(0,.row 9 [h.cells] true false)],6⟩) (Sv [] rfl (kps) (kps)) ?_
 refine rngV (itW hf) rfl rfl rfl rfl (Zdn (S:=Bool) (fun s=>[(5,.row 1 [[Bo s]] true false),(4,.row 1 [[Bo false]] true false),(3,.row 1 [[I d]] true false),(2,.row 1 [[I y]] true false),(1,.row 1 [[I x]] true false),(0,.row 9 [h.cells] true false)]) 6 6 (fun xs s=>∃ l:List Wl,xs=l.map (fun w=>[w.av])/\inPl x y d s l=Zu h x y d) ?_ ?_ _ false ⟨_,rfl,rfl⟩)
 ·rintro u us s ⟨l,h1,h2⟩
  cases l with
  | nil=>simp at h1
  | cons w l =>
   simp only [Tg,Rw] at h1
   obtain ⟨rfl,rfl⟩:=h1
   obtain ⟨wn,wa,wb,wc,wd⟩:=w
   refine ⟨rfl,bs.av (sx:=nos) Vy ?_⟩
   repeat'(first|refine wk0 ?_|(refine wk2 ?_ ?_<;>intro _)|fail)
   refine Ds (bs.av (sx:=nos) Vy ?_)
   repeat'(first|refine wk0 ?_|(refine wk2 ?_ ?_<;>intro _)|fail)
   all_goals first
    | exact Zb (by rw [<-h2]; simp_all [inPl])
    | exact Th ⟨_,[],rfl,kps,l,rfl,by rw [<-h2,Zle (by assumption)]; congr 1; clear h2; cases s<;>simp_all [flips]<;>omega⟩
 ·rintro s ⟨l,h1,h2⟩
  cases l with
  | cons w l=>simp at h1
  | nil =>
   repeat'(first|refine wk0 ?_|(refine wk2 ?_ ?_<;>intro _)|fail)
   exact Zb h2
def Zdu (h:Hal) (q:Rc):Bool:=(wls h.cs).all (fun w=>!q.meets w)&&Zu h q.xl q.yl 1
theorem c197 {h:Hal} (hf:h.few) (q:Rc):PCall Tryz.prog 128 [h.av,q.av] ⟨Bo (Zdu h q),[]⟩:=by
 have hc:=c183 hf q.xl q.yl 1
 refine bs.pv (sx:=fun f=>Qp f 121) Vy Tryz.func128 (by kernel_rfl) (by kernel_rfl) rfl ?_
 repeat'(first|refine wk0 ?_|(refine wk2 ?_ ?_<;>intro _)|fail)
 refine Hz (env2:=[(2,.ptr 0 0 0),(3,.ptr 1 0 0),(4,.ptr 2 0 0),(7,.func 122 [h.av] [])])
  (σ2:=⟨[(2,.row 1 [[Bo false]] true false),(1,.row 4 [[I q.xl,I q.xh,I q.yl,I q.yh]] true false),(0,.row 9 [h.cells] true false)],3⟩) (Sv [] rfl (kps) (kps)) ?_
 refine rngV (itW hf) rfl rfl rfl rfl (Zdn (S:=Unit) (fun _=>[(2,.row 1 [[Bo false]] true false),(1,.row 4 [[I q.xl,I q.xh,I q.yl,I q.yh]] true false),(0,.row 9 [h.cells] true false)]) 3 3 (fun xs _=>∃ l:List Wl,xs=l.map (fun w=>[w.av])/\(l.all (fun w=>!q.meets w)&&Zu h q.xl q.yl 1)=Zdu h q) ?_ ?_ _ () ⟨_,rfl,rfl⟩)
 ·rintro u us s ⟨l,h1,h2⟩
  cases l with
  | nil=>simp at h1
  | cons w l =>
   simp only [Tg,Rw] at h1
   obtain ⟨rfl,rfl⟩:=h1
   obtain ⟨wn,wa,wb,wc,wd⟩:=w
   refine ⟨rfl,bs.av (sx:=nos) Vy ?_⟩
   repeat'(first|refine wk0 ?_|(refine wk2 ?_ ?_<;>intro _)|fail)
   refine Ds (bs.av (sx:=nos) Vy ?_)
   repeat'(first|refine wk0 ?_|(refine wk2 ?_ ?_<;>intro _)|fail)
   all_goals first
    | exact Zb (by rw [<-h2]; simp_all)
    | exact Th ⟨(),[],rfl,kps,l,rfl,by rw [<-h2]; simp_all⟩
 ·rintro s ⟨l,h1,h2⟩
  cases l with
  | cons w l=>simp at h1
  | nil =>
   repeat'(first|refine wk0 ?_|(refine wk2 ?_ ?_<;>intro _)|fail)
   refine SCt.pc hc rfl ?_
   repeat'(first|refine wk0 ?_|(refine wk2 ?_ ?_<;>intro _)|fail)
   exact Zb (by rw [<-h2]; rfl)
def Zcd (n:Int) (a b:Wl):Bool :=
 decide (b.n<=a.n)||(!((decide (b.n=Qa Qb (a.n+1))&&a.turnsBack b)||((decide (a.n=0)&&decide (b.n=Qa Qb (n-1)))&&b.turnsBack a))&&((decide (b.n=Qa Qb (a.n+1))||(decide (a.n=0)&&decide (b.n=Qa Qb (n-1)))) || !a.touches b))
def Yo (h:Hal):Bool:=(wls h.cs).all fun a=>(wls h.cs).all fun b=>Zcd h.cs.length a b
theorem c148 {h:Hal} (hf:h.few):PCall Tryz.prog 92 [h.av] ⟨Bo (Yo h),[]⟩:=by
 refine pn Vy Tryz.func92 ?_
 repeat'(first|refine wk0 ?_|(refine wk2 ?_ ?_<;>intro _)|fail)
 have hlen:(h.cs.map pt).length=h.cs.length:=by simp
 refine Hz (env2:=[(1,.ptr 0 0 0),(2,.ptr 1 0 0),(3,.ptr 2 0 0),(11,.func 122 [h.av] [])])
  (σ2:=⟨[(2,.row 1 [[I (h.cs.map pt).length]] true false),(1,.row 1 [[Bo false]] true false),(0,.row 9 [h.cells] true false)],3⟩) (Sv [] rfl (kps) (kps)) ?_
 refine rngV (itW hf) rfl rfl rfl rfl (Zdn (S:=Unit) (fun _=>[(2,.row 1 [[I (h.cs.map pt).length]] true false),(1,.row 1 [[Bo false]] true false),(0,.row 9 [h.cells] true false)]) 3 3 (fun xs _=>∃ l:List Wl,xs=l.map (fun w=>[w.av])/\(l.all fun a=>(wls h.cs).all fun b=>Zcd h.cs.length a b)=Yo h) ?_ ?_ _ () ⟨_,rfl,rfl⟩)
 ·rintro u us s ⟨l,h1,h2⟩
  cases l with
  | nil=>simp at h1
  | cons a l =>
   simp only [Tg,Rw] at h1
   obtain ⟨rfl,rfl⟩:=h1
   obtain ⟨wn,wa,wb,wc,wd⟩:=a
   refine ⟨rfl,bs.av (sx:=nos) Vy ?_⟩
   repeat'(first|refine wk0 ?_|(refine wk2 ?_ ?_<;>intro _)|fail)
   refine Ds (bs.av (sx:=nos) Vy ?_)
   repeat'(first|refine wk0 ?_|(refine wk2 ?_ ?_<;>intro _)|fail)
   refine Hz (env2:=[(1,.ptr 0 0 0),(2,.ptr 1 0 0),(3,.ptr 2 0 0),(4,.ptr 3 0 0),(14,.func 122 [h.av] [])])
    (σ2:=⟨[(3,.row 5 [[I wn,I wa,I wb,I wc,I wd]] true false),(2,.row 1 [[I (h.cs.map pt).length]] true false),(1,.row 1 [[Bo false]] true false),(0,.row 9 [h.cells] true false)],4⟩) (Sv [] rfl (kps) (kps)) ?_
   refine rngV (itW hf) rfl rfl rfl rfl (Zdn (S:=Unit) (fun _=>[(3,.row 5 [[I wn,I wa,I wb,I wc,I wd]] true false),(2,.row 1 [[I (h.cs.map pt).length]] true false),(1,.row 1 [[Bo false]] true false),(0,.row 9 [h.cells] true false)]) 4 4
    (fun xs _=>∃ m:List Wl,xs=m.map (fun w=>[w.av])/\(m.all (fun b=>Zcd h.cs.length ⟨wn,wa,wb,wc,wd⟩ b)&&(l.all fun a=>(wls h.cs).all fun b=>Zcd h.cs.length a b))=Yo h) ?_ ?_ _ () ⟨_,rfl,h2⟩)
   ·rintro u us s ⟨m,h1,h3⟩
    cases m with
    | nil=>simp at h1
    | cons b m =>
     simp only [Tg,Rw] at h1
     obtain ⟨rfl,rfl⟩:=h1
     obtain ⟨vn,va,vb,vc,vd⟩:=b
     refine ⟨rfl,bs.av (sx:=nos) Vy ?_⟩
     repeat'(first|refine wk0 ?_|(refine wk2 ?_ ?_<;>intro _)|fail)
     refine Ds (bs.av (sx:=nos) Vy ?_)
     repeat'(first|refine wk0 ?_|(refine wk2 ?_ ?_<;>intro _)|fail)
     all_goals (clear h2)
     all_goals first
      | exact Zb (by rw [<-h3]; simp_all [Zcd]<;>omega)
      | exact Th ⟨(),[],rfl,kps,m,rfl,by rw [<-h3]; simp_all [Zcd]<;>omega⟩
   ·rintro s ⟨m,h1,h3⟩
    cases m with
    | cons w l=>simp at h1
    | nil =>
     repeat'(first|refine wk0 ?_|(refine wk2 ?_ ?_<;>intro _)|fail)
     exact Th ⟨(),[],rfl,kps,l,rfl,h3⟩
 ·rintro s ⟨l,h1,h2⟩
  cases l with
  | cons w l=>simp at h1
  | nil =>
   repeat'(first|refine wk0 ?_|(refine wk2 ?_ ?_<;>intro _)|fail)
   exact Zb h2
def Zm2 (n:Int):Bool:=(decide (97<=n)&&decide (n<=122))||(decide (65<=n)&&decide (n<=90))
def Zql (first:Bool) (n:Int):Bool:=Zm2 n||(!first&&(decide (n=45)||(decide (48<=n)&&decide (n<=57))))
def Zea:Bool->List UInt8->Bool
 | _,[]=>true
 | b,c::l=>Zql b c.toNat&&Zea false l
def Vc (s:ByteArray):Bool:=Zea true s.data.toList&&(!(s==⟨#[]⟩)&&decide ((s.size:Int)<=12))
theorem Zt9 (s:ByteArray):(Vi s).length=s.data.toList.length:=by simp [Vi]
theorem Ydj {s:ByteArray} {k:Nat} (h:k<s.data.toList.length):(Vi s)[((k:Nat):Int).toNat]?=some [.int .u8 (s.data.toList[k]).toNat]:=by
 simp only [Vi,Int.toNat_natCast,List.getElem?_map]
 rw [List.getElem?_eq_getElem h]; rfl
theorem Zmz (b:Bool) (c:UInt8) (l:List UInt8):Zea b (c::l)=(Zql b c.toNat&&Zea false l):=rfl
theorem c131 {s:ByteArray} (hs:s.data.toList.length<100000):PCall Tryz.prog 74 [.str s] ⟨Bo (Vc s),[]⟩:=by
 refine pn Zh Tryz.func74 ?_
 refine Za3 (S:=Nat × Int) (fun t=>s.data.toList.length-t.1) (fun t=>[(0,.str s),(7,.isl 1 (Vi s)),(8,I (Vi s).length),(9,I t.2)]) (fun _=>[]) 0 0 (fun t=>t.2=t.1/\t.1<=s.data.toList.length/\Zea (decide (t.1=0)) (s.data.toList.drop t.1)=Zea true s.data.toList) (0,0) ⟨rfl,Rl _,rfl⟩ (Qm _) [] rfl (kps) (kps) ?_
 rintro ⟨k,i⟩ ⟨hi,hk,hh⟩
 dsimp only at hi hk hh ⊢
 subst hi
 refine bs.av (sx:=nos) Zh ?_
 have e3:=Zt9 s
 by_cases hlt:k<s.data.toList.length
 ·have e1:=Ydj hlt
  rw [Qr hlt,Zmz] at hh
  generalize (s.data.toList[k]).toNat=c at *
  repeat'(first|refine wk1 ?_|(refine wk2 ?_ ?_<;>intro _)|fail)
  all_goals (clear e1 e3)
  all_goals first
   | exact Zb (by
     have hg:Zql (decide (k=0)) c=false:=by clear hh; simp_all [Zql,Zm2]<;>omega
     rw [hg,Bool.false_and] at hh
     rw [Vc,<-hh]; rfl)
   | exact Th ⟨(k+1,_),[],rfl,kps,trivial,⟨Xh (by omega),hlt,by
     have hg:Zql (decide (k=0)) c=true:=by clear hh; simp_all [Zql,Zm2]<;>omega
     rw [hg,Bool.true_and] at hh
     exact hh⟩,by dsimp only; omega⟩
 ·rw [Rb (by omega)] at hh
  have hn:Zea true s.data.toList=true:=hh.symm
  clear hh
  repeat'(first|refine wk1 ?_|(refine wk2 ?_ ?_<;>intro _)|fail)
  all_goals exact Zb (by simp_all [Vc])
def Zo (s:ByteArray) (ns:List ByteArray):Int:=if Vc s then (if Xn s ns then 5 else 0) else 4
def r131:List AV->Option PRes
 | [.str s]=>asr (decide (s.data.toList.length<100000)) ⟨Bo (Vc s),[]⟩
 | _=>none
def kG5:PC:=ins 74 r131 kG4
theorem Zbx:PCOK Tryz.prog kG5:=by
 refine Zj (fun a res h=>?_) Vy
 unfold r131 at h; split at h
 ·obtain ⟨h1,rfl⟩:=Zpk h
  exact c131 (of_decide_eq_true h1)
 ·cases h
noncomputable def one (a0:List AV) (r:PRes) (a:List AV):Option PRes:=by
 classical exact if a=a0 then some r else none
theorem Ze6 (a:List AV) (r:PRes):one a r a=some r:=by unfold one; simp
theorem Zi {f0:FuncId} {a0:List AV} {r:PRes} {pt:PC} (h0:PCall Tryz.prog f0 a0 r) (h:PCOK Tryz.prog pt):PCOK Tryz.prog (ins f0 (one a0 r) pt):=by
 refine Zj (fun a res hr=>?_) h
 unfold one at hr
 split at hr
 ·rename_i e; cases hr; rw [e]; exact h0
 ·cases hr
def thou (n:Int):Bool:=within n 0 1000
def Za2 (m:Mat):Int:=if thou m.a&&thou m.b&&thou m.c&&thou m.d&&thou m.sc then 0 else 2
theorem c138 (m:Mat):PCall Tryz.prog 82 [.agg m.av] ⟨I (Za2 m),[]⟩:=by
 refine pn Zbx Tryz.func82 ?_
 repeat'(first|refine wk0 ?_|(refine wk2 ?_ ?_<;>intro _)|fail)
 refine Tq 6 ?_
 iterate 6
  all_goals try (refine Ri (bs.av (sx:=nos) Zbx ?_))
  repeat'(first|refine wk0 ?_|(refine wk2 ?_ ?_<;>intro _)|fail)
 all_goals exact Zd (by simp_all [Za2,thou])
def Zee (ht:Int):Option Int->List Int->Int
 | _,[]=>0
 | p,n::l=>if within n 1 (Qa Qb (ht-1)) then (if (match p with
  | some q=>decide (n<=q)
  | none=>false) then 9 else Zee ht (some n) l) else 2
def Uh (hs:List Int):Nat->Option Int
 | 0=>none
 | k+1=>hs[k]?
def Zeq (h:Hal) (c:Can):Int :=
 if within c.hs.length 1 4 then (if Zee h.ht none c.hs=0 then (if Zeo c.fx c.fy&&Zeo c.tx c.ty then (if decide (c.fx=c.tx)||decide (c.fy=c.ty) then 11 else unl (Zdu h (rcOf c.fx c.fy c.tx c.ty)) 24) else 2) else Zee h.ht none c.hs) else 10
theorem Zit (ht:Int) (p:Option Int) (n:Int) (l:List Int):Zee ht p (n::l)=if within n 1 (Qa Qb (ht-1)) then (if (match p with
  | some q=>decide (n<=q)
  | none=>false) then 9 else Zee ht (some n) l) else 2:=rfl
theorem c155 {h:Hal} (hf:h.few) (c:Can) (hl:c.hs.length<1000):PCall Tryz.prog 100 [h.av,.agg c.av] ⟨I (Zeq h c),[]⟩:=by
 have hc:=c197 hf (rcOf c.fx c.fy c.tx c.ty)
 have hk:=Zi hc Zbx
 have e3:=Xa c.hs
 refine pn hk Tryz.func100 ?_
 repeat'(first|refine wk0 ?_|(refine wk2 ?_ ?_<;>intro _)|fail)
 ·exact Zd (by simp_all [Zeq])
 ·rename_i hw1
  have hw:within c.hs.length 1 4=true:=by rw [e3] at hw1; simpa using hw1
  refine Za3 (S:=Nat × Int) (fun t=>c.hs.length-t.1) (fun t=>[(2,.ptr 0 0 0),(3,.ptr 1 0 0),(13,.isl 1 (nl c.hs)),(14,I (nl c.hs).length),(15,I t.2)]) (fun _=>[(1,.row 7 [c.av] true false),(0,.row 9 [h.cells] true false)]) 2 2
   (fun t=>t.2=t.1/\t.1<=c.hs.length/\Zee h.ht (Uh c.hs t.1) (c.hs.drop t.1)=Zee h.ht none c.hs) (0,0) ⟨rfl,Rl _,rfl⟩ (Qm _) [] rfl (kps) (kps) ?_
  rintro ⟨k,i⟩ ⟨hi,hk',hh⟩
  dsimp only at hi hk' hh ⊢
  subst hi
  refine bs.av (sx:=nos) hk ?_
  by_cases hlt:k<c.hs.length
  ·have e1:=Zdc hlt
   rw [Qr hlt,Zit] at hh
   have e4:Qa Qb ((k:Int)-1)=(k:Int)-1:=W_eq (by omega) (by omega)
   have hh:=hh.symm
   cases k with
   | zero =>
    repeat'(first|refine wk1 ?_|(refine wk2 ?_ ?_<;>intro _)|fail)
    all_goals first
     | exact Zd (by simp_all [Zeq,Uh])
     | exact Th ⟨(1,_),[],rfl,kps,kps,⟨by exact Xh (k:=0) (by omega),hlt,by simp_all [Uh]⟩,by dsimp only; omega⟩
   | succ k =>
    have e5:(nl c.hs)[(Qa Qb (((k+1:Nat):Int)-1)).toNat]?=some [I c.hs[k]]:=by
     rw [e4,show ((k+1:Nat):Int)-1=(k:Int) by omega]; exact Zdc (by omega)
    have e6:Uh c.hs (k+1)=some c.hs[k]:=by simp [Uh,show k<c.hs.length by omega]
    rw [e6] at hh
    repeat'(first|refine wk1 ?_|(refine wk2 ?_ ?_<;>intro _)|fail)
    all_goals (clear e1 e5)
    all_goals first
     | exact Zd (by simp_all [Zeq])
     | exact Th ⟨(k+2,_),[],rfl,kps,kps,⟨by exact Xh (k:=k+1) (by omega),hlt,by rw [hh,if_pos (by clear hh; simp_all),if_neg (by clear hh; simp_all)]; simp [Uh,hlt]⟩,by dsimp only; omega⟩
  ·rw [Rb (by omega)] at hh
   have hh:Zee h.ht none c.hs=0:=by rw [<-hh]; cases Uh c.hs k<;>rfl
   repeat'(first|refine wk1 ?_|(refine wk2 ?_ ?_<;>intro _)|fail)
   all_goals (clear hc hk)
   all_goals exact Zd (by simp_all [Zeq])
def Zqk (h:Hal) (x y z d:Int):Bool:=(decide (0<z)&&decide (z<Qa Qb (h.ht*d)))&&Zu h x y d
theorem c124 {h:Hal} (hf:h.few) (x y z d:Int):PCall Tryz.prog 111 [h.av,P4 x y z d] ⟨Bo (Zqk h x y z d),[]⟩:=by
 have hk:=Zi (c183 hf x y d) Zbx
 refine pn hk Tryz.func111 ?_
 repeat'(first|refine wk0 ?_|(refine wk2 ?_ ?_<;>intro _)|fail)
 all_goals (clear hk)
 all_goals exact Zb (by simp_all [Zqk]<;>omega)
def Zji (h:Hal) (x y z:Int):Int:=if small x 5000&&small y 5000&&small z 5000 then (if Zqk h x y z 1 then 0 else 24) else 2
theorem c160 {h:Hal} (hf:h.few) (x y z:Int):PCall Tryz.prog 105 [h.av,P3 x y z] ⟨I (Zji h x y z),[]⟩:=by
 have hk:=Zi (c124 hf x y z 1) Zbx
 refine pn hk Tryz.func105 ?_
 repeat'(first|refine wk0 ?_|(refine wk2 ?_ ?_<;>intro _)|fail)
 all_goals (clear hk)
 all_goals exact Zd (by simp_all [Zji]<;>omega)
theorem c129 (b:Bool) (e:Int):PCall Tryz.prog 72 [Bo b,I e] ⟨.func 73 [] [.ptr 0 0 0,.ptr 1 0 0],[(1,[[Bo b]]),(1,[[I e]])]⟩:=by
 refine pn Zbx Tryz.func72 ?_
 repeat'(first|refine wk0 ?_|(refine wk2 ?_ ?_<;>intro _)|fail)
 exact Uk [0,1] rfl rfl rfl
theorem c130 (b:Bool) (e:Int):PCall Tryz.prog 73 [.ipt [Bo b],.ipt [I e]] ⟨.tup [I 0,I (unl b e)],[]⟩:=by
 refine pn Zbx Tryz.func73 ?_
 repeat'(first|refine wk0 ?_|(refine wk2 ?_ ?_<;>intro _)|fail)
 exact Zg rfl rfl
theorem c147 {h:Hal} (hf:h.few):PCall Tryz.prog 91 [.ipt h.cells] ⟨.tup [I 0,I (unl (Yo h) 24)],[]⟩:=by
 have hk:=Zi (c148 hf) Zbx
 refine pn hk Tryz.func91 ?_
 repeat'(first|refine wk0 ?_|(refine wk2 ?_ ?_<;>intro _)|fail)
 exact Zg rfl rfl
theorem c149 {h:Hal} (hf:h.few):PCall Tryz.prog 93 [.ipt h.cells] ⟨.tup [I 0,I (unl (decide (0<Zaz h)) 9)],[]⟩:=by
 have hk:=Zi (c122 hf) Zbx
 refine pn hk Tryz.func93 ?_
 repeat'(first|refine wk0 ?_|(refine wk2 ?_ ?_<;>intro _)|fail)
 exact Zg rfl rfl
def r129:List AV->Option PRes
 | [.bool b,.int .i64 e]=>some ⟨.func 73 [] [.ptr 0 0 0,.ptr 1 0 0],[(1,[[Bo b]]),(1,[[I e]])]⟩
 | _=>none
def kG6:PC:=ins 72 r129 kG5
theorem Xl:PCOK Tryz.prog kG6:=by
 refine Zj (fun a res h=>?_) Zbx
 unfold r129 at h; split at h<;>cases h; exact c129 _ _
def Ydi:List AV:=[I 0,.func 73 [] [.ptr 13 0 0,.ptr 14 0 0],I 0,.func 73 [] [.ptr 21 0 0,.ptr 22 0 0],I 0,.func 73 [] [.ptr 30 0 0,.ptr 31 0 0],I 1,.func 76 [] [.ptr 0 0 0,.ptr 6 0 0],I 0,.func 83 [] [.ptr 6 0 0,.ptr 0 0 0],
 I 0,.func 73 [] [.ptr 52 0 0,.ptr 53 0 0],I 0,.func 73 [] [.ptr 61 0 0,.ptr 62 0 0],I 2,.func 84 [] [.ptr 0 0 0],I 3,.func 87 [] [.ptr 0 0 0,.ptr 2 0 0,.ptr 7 0 0,.ptr 6 0 0],I 0,.func 91 [] [.ptr 2 0 0],I 0,.func 93 [] [.ptr 2 0 0],
 I 0,.func 73 [] [.ptr 78 0 0,.ptr 79 0 0],I 4,.func 95 [] [.ptr 0 0 0,.ptr 7 0 0,.ptr 6 0 0,.ptr 2 0 0],I 0,.func 73 [] [.ptr 89 0 0,.ptr 90 0 0],I 5,.func 101 [] [.ptr 0 0 0,.ptr 8 0 0,.ptr 2 0 0]]
abbrev b1 (v:AV):ABlk:=.row 1 [[v]] true false
abbrev bp (v:AV):ABlk:=.row 1 [[v]] true true
structure Set7 where
 a:Bool
 b:Bool
 c:Bool
 d:Bool
 e:Bool
 f:Bool
 g:Bool
abbrev Zl (h:Hal) (s:Set7) (ms su se:List ByteArray):List (Nat × ABlk) :=
  [(90, bp (I 8)), (89, bp (Bo s.g)), (79, bp (I 8)), (78, bp (Bo s.f)), (62, bp (I 8)), (61, bp (Bo s.e)), (53, bp (I 10)), (52, bp (Bo s.d)), (31, bp (I 8)), (30, bp (Bo s.c)), (22, bp (I 2)), (21, bp (Bo s.b)), (14, bp (I 4)), (13, bp (Bo s.a)),
   (8, b1 (.amap 5)), (7, b1 (.amap 4)), (6, b1 (.amap 3)), (5, .set se), (4, .set su), (3, .set ms), (2, .row 9 [h.cells] true false), (1, .row 2 [[I 0, I 0]] true false), (0, .row 9 [h.cells] true false)]
abbrev Ub (k:Nat):Env:=[(2,.ptr 1 0 0),(93,.agg Ydi),(94,I k)]
def set7 (h:Hal):Set7:=⟨Vc h.nm,within h.ht 2 5000,decide ((h.ms.length:Int)<=10),decide (3<=(h.cs.length:Int))&&decide ((h.ws.length:Int)=h.cs.length),decide ((h.ws.length:Int)<=12),decide ((h.ks.length:Int)<=4),decide ((h.ss.length:Int)<=40)⟩
def Za9:ByteArray:=⟨#[102,108,111,111,114]⟩
def Zff:ByteArray:=⟨#[99,101,105,108,105,110,103]⟩
def su0:List ByteArray:=addK Zff (addK Za9 [])
def Znn:Nat->Code->Code
 | n+1,.seq _ y=>Znn n y
 | _,c=>c
def Zx8:Code->Code
 | .seq (.seq _ b) y=>.seq b y
 | .seq _ y=>y
 | c=>c
noncomputable def Zyw:Code:=match Tryz.f41.body with
 | some c=>c
 | none=>.skip
def r130:List AV->Option PRes
 | [.ipt [.bool b],.ipt [.int .i64 e]]=>some ⟨.tup [I 0,I (unl b e)],[]⟩
 | _=>none
def kG7 (h:Hal) (pt:PC):PC:=ins 73 r130 pt
theorem Yco (h:Hal) {pt:PC} (hp:PCOK Tryz.prog pt):PCOK Tryz.prog (kG7 h pt):=by
 refine Zj (fun a res h=>?_) hp
 unfold r130 at h; split at h<;>cases h; exact c130 _ _
noncomputable def lc63:Code:=match Zx8 (Znn 5 Zyw) with
 | .seq (.block _ (.loop c)) _=>c
 | _=>.skip
noncomputable def tc63:Code:=match Zx8 (Znn 5 Zyw) with
 | .seq _ y=>y
 | _=>.skip
abbrev R63 (res:PRes):Exit->Env->St->Prop:=retQ (tget tbl) Tryz.f41.results.toList fun v σ=>fA v fun v=>Ret res v σ
abbrev Q63 (res:PRes):Exit->Env->St->Prop:=Zfy 0 (seqQ (fun env' σ'=>bs.vcode nos kG6 Tryz.f41.ntmps tc63 env' σ' (R63 res)) (R63 res))
abbrev chkV (p:Int × Int × Int):AV:=.tup [P2 p.1 p.2.1,I p.2.2]
abbrev It63 (sx:FuncId->Bool) (pt:PC) (res:PRes) (k:Nat) (H:List (Nat × ABlk)) (K:Env->St->Prop):Prop :=
 bs.vcode sx pt Tryz.f41.ntmps lc63 (Ub k) ⟨H,98⟩ (seqQ (fun e s=>Done (K e s)) (Q63 res))
theorem it0 {h:Hal} {s:Set7} {ms su se:List ByteArray} {res:PRes} {K:Env->St->Prop} (hR:unl s.a 4≠0->res=⟨chkV (0,0,unl s.a 4),[]⟩)
  (hK:unl s.a 4=0->∀ e σ,Ren 98 e σ (Ub 1) ⟨Zl h s ms su se,98⟩->K e σ):It63 nos (kG7 h kG6) res 0 (Zl h s ms su se) K:=by
 unfold It63 We
 repeat'(first|refine wk0 ?_|(refine wk2 ?_ ?_<;>intro _)|fail)
 ·rw [hR (by simp_all)]; exact Zg rfl rfl
 ·exact ⟨hK (by simp_all) _ _ (Sv [] rfl (kps) (kps))⟩
theorem it1 {h:Hal} {s:Set7} {ms su se:List ByteArray} {res:PRes} {K:Env->St->Prop} (hR:unl s.b 2≠0->res=⟨chkV (0,0,unl s.b 2),[]⟩)
  (hK:unl s.b 2=0->∀ e σ,Ren 98 e σ (Ub 2) ⟨Zl h s ms su se,98⟩->K e σ):It63 nos (kG7 h kG6) res 1 (Zl h s ms su se) K:=by
 unfold It63 We
 repeat'(first|refine wk0 ?_|(refine wk2 ?_ ?_<;>intro _)|fail)
 ·rw [hR (by simp_all)]; exact Zg rfl rfl
 ·exact ⟨hK (by simp_all) _ _ (Sv [] rfl (kps) (kps))⟩
theorem it2 {h:Hal} {s:Set7} {ms su se:List ByteArray} {res:PRes} {K:Env->St->Prop} (hR:unl s.c 8≠0->res=⟨chkV (0,0,unl s.c 8),[]⟩)
  (hK:unl s.c 8=0->∀ e σ,Ren 98 e σ (Ub 3) ⟨Zl h s ms su se,98⟩->K e σ):It63 nos (kG7 h kG6) res 2 (Zl h s ms su se) K:=by
 unfold It63 We
 repeat'(first|refine wk0 ?_|(refine wk2 ?_ ?_<;>intro _)|fail)
 ·rw [hR (by simp_all)]; exact Zg rfl rfl
 ·exact ⟨hK (by simp_all) _ _ (Sv [] rfl (kps) (kps))⟩
theorem it5 {h:Hal} {s:Set7} {ms su se:List ByteArray} {res:PRes} {K:Env->St->Prop} (hR:unl s.d 10≠0->res=⟨chkV (0,0,unl s.d 10),[]⟩)
  (hK:unl s.d 10=0->∀ e σ,Ren 98 e σ (Ub 6) ⟨Zl h s ms su se,98⟩->K e σ):It63 nos (kG7 h kG6) res 5 (Zl h s ms su se) K:=by
 unfold It63 We
 repeat'(first|refine wk0 ?_|(refine wk2 ?_ ?_<;>intro _)|fail)
 ·rw [hR (by simp_all)]; exact Zg rfl rfl
 ·exact ⟨hK (by simp_all) _ _ (Sv [] rfl (kps) (kps))⟩
theorem it6 {h:Hal} {s:Set7} {ms su se:List ByteArray} {res:PRes} {K:Env->St->Prop} (hR:unl s.e 8≠0->res=⟨chkV (0,0,unl s.e 8),[]⟩)
  (hK:unl s.e 8=0->∀ e σ,Ren 98 e σ (Ub 7) ⟨Zl h s ms su se,98⟩->K e σ):It63 nos (kG7 h kG6) res 6 (Zl h s ms su se) K:=by
 unfold It63 We
 repeat'(first|refine wk0 ?_|(refine wk2 ?_ ?_<;>intro _)|fail)
 ·rw [hR (by simp_all)]; exact Zg rfl rfl
 ·exact ⟨hK (by simp_all) _ _ (Sv [] rfl (kps) (kps))⟩
theorem it11 {h:Hal} {s:Set7} {ms su se:List ByteArray} {res:PRes} {K:Env->St->Prop} (hR:unl s.f 8≠0->res=⟨chkV (0,0,unl s.f 8),[]⟩)
  (hK:unl s.f 8=0->∀ e σ,Ren 98 e σ (Ub 12) ⟨Zl h s ms su se,98⟩->K e σ):It63 nos (kG7 h kG6) res 11 (Zl h s ms su se) K:=by
 unfold It63 We
 repeat'(first|refine wk0 ?_|(refine wk2 ?_ ?_<;>intro _)|fail)
 ·rw [hR (by simp_all)]; exact Zg rfl rfl
 ·exact ⟨hK (by simp_all) _ _ (Sv [] rfl (kps) (kps))⟩
theorem it13 {h:Hal} {s:Set7} {ms su se:List ByteArray} {res:PRes} {K:Env->St->Prop} (hR:unl s.g 8≠0->res=⟨chkV (0,0,unl s.g 8),[]⟩)
  (hK:unl s.g 8=0->∀ e σ,Ren 98 e σ (Ub 14) ⟨Zl h s ms su se,98⟩->K e σ):It63 nos (kG7 h kG6) res 13 (Zl h s ms su se) K:=by
 unfold It63 We
 repeat'(first|refine wk0 ?_|(refine wk2 ?_ ?_<;>intro _)|fail)
 ·rw [hR (by simp_all)]; exact Zg rfl rfl
 ·exact ⟨hK (by simp_all) _ _ (Sv [] rfl (kps) (kps))⟩
theorem it9 {h:Hal} {s:Set7} {ms su se:List ByteArray} {res:PRes} {K:Env->St->Prop} (hR:unl (Yo h) 24≠0->res=⟨chkV (0,0,unl (Yo h) 24),[]⟩)
  (hK:unl (Yo h) 24=0->∀ e σ,Ren 98 e σ (Ub 10) ⟨Zl h s ms su se,98⟩->K e σ):It63 nos (ins 91 (one [.ipt h.cells] ⟨.tup [I 0,I (unl (Yo h) 24)],[]⟩) (kG7 h kG6)) res 9 (Zl h s ms su se) K:=by
 unfold It63 We
 repeat'(first|refine wk0 ?_|(refine wk2 ?_ ?_<;>intro _)|fail)
 ·rw [hR (by simp_all)]; exact Zg rfl rfl
 ·exact ⟨hK (by simp_all) _ _ (Sv [] rfl (kps) (kps))⟩
theorem it10 {h:Hal} {s:Set7} {ms su se:List ByteArray} {res:PRes} {K:Env->St->Prop} (hR:unl (decide (0<Zaz h)) 9≠0->res=⟨chkV (0,0,unl (decide (0<Zaz h)) 9),[]⟩)
  (hK:unl (decide (0<Zaz h)) 9=0->∀ e σ,Ren 98 e σ (Ub 11) ⟨Zl h s ms su se,98⟩->K e σ):It63 nos (ins 93 (one [.ipt h.cells] ⟨.tup [I 0,I (unl (decide (0<Zaz h)) 9)],[]⟩) (kG7 h kG6)) res 10 (Zl h s ms su se) K:=by
 unfold It63 We
 repeat'(first|refine wk0 ?_|(refine wk2 ?_ ?_<;>intro _)|fail)
 ·rw [hR (by simp_all)]; exact Zg rfl rfl
 ·exact ⟨hK (by simp_all) _ _ (Sv [] rfl (kps) (kps))⟩
def Zhf (h:Hal) (ms:List ByteArray):Int:=unl (Xn h.fl ms&&Xn h.ce ms) 6
theorem it4 {h:Hal} {s:Set7} {ms su se:List ByteArray} {res:PRes} {K:Env->St->Prop} (hR:Zhf h ms≠0->res=⟨chkV (0, 0, Zhf h ms), []⟩)
    (hK:Zhf h ms=0->∀ e σ, Ren 98 e σ (Ub 5) ⟨Zl h s ms su se, 98⟩->K e σ):It63 (fun f => Qp f 83) (kG7 h kG6) res 4 (Zl h s ms su se) K := by
  unfold It63 We
  repeat'(first|refine wk0 ?_|(refine wk2 ?_ ?_<;>intro _)|fail)
  refine bs.sv (sx := nos) Xl Tryz.func83 (by kernel_rfl) (by kernel_rfl) ?_
  repeat'(first|refine wk0 ?_|(refine wk2 ?_ ?_<;>intro _)|fail)
  all_goals first
    | (have e6:Zhf h ms=6 := (by clear hR hK; simp_all [Zhf, unl]; done)
       rw [hR (by rw [e6]; decide), e6]; exact Zg rfl rfl)
    | (rw [hR (by clear hR hK; simp_all [Zhf]; done)]; exact Zg (by clear hR hK; simp_all [Zhf]) rfl)
    | exact ⟨hK (by clear hR hK; simp_all [Zhf]) _ _ (Sv [] rfl (kps) (kps))⟩
theorem Zsd (l:List Mat):(l.map Mat.av).length=l.length:=by simp
theorem Yce {l:List Mat} {k:Nat} (h:k<l.length):(l.map Mat.av)[((k:Nat):Int).toNat]?=some (Mat.av l[k]):=by simp [h]
def Xk:Nat->List ByteArray->List Mat->Int × Int × List ByteArray
 | _,ns,[]=>(0,0,ns)
 | i,ns,m::l=>if Zo m.nm ns=0 then (if Za2 m=0 then Xk (i+1) (addK m.nm ns) l else (i,Za2 m,addK m.nm ns)) else (i,Zo m.nm ns,ns)
abbrev sx3:FuncId->Bool:=fun f=>Qp f 76||Qp f 77||Qp f 78||Qp f 54||Qp f 79||Qp f 80
def r138:List AV->Option PRes
 | [.agg [.str nm,.int .i64 a,.int .i64 b,.int .i64 c,.int .i64 d,.int .i64 sc]]=>some ⟨I (Za2 ⟨nm,a,b,c,d,sc⟩),[]⟩
 | _=>none
def r137:List AV->Option PRes
 | [.ipt [.str nm,.int .i64 a,.int .i64 b,.int .i64 c,.int .i64 d,.int .i64 sc]]=>some ⟨I (Za2 ⟨nm,a,b,c,d,sc⟩),[]⟩
 | _=>none
theorem Yae:PCOK Tryz.prog (ins 82 r138 kG5):=by
 refine Zj (fun a res h=>?_) Zbx
 unfold r138 at h; split at h<;>cases h; exact c138 ⟨_,_,_,_,_,_⟩
theorem c137 (m:Mat):PCall Tryz.prog 81 [.ipt m.av] ⟨I (Za2 m),[]⟩:=by
 refine pn Yae Tryz.func81 ?_
 repeat'(first|refine wk0 ?_|(refine wk2 ?_ ?_<;>intro _)|fail)
 exact Zd rfl
theorem Zcg:PCOK Tryz.prog (ins 81 r137 kG5):=by
 refine Zj (fun a res h=>?_) Zbx
 unfold r137 at h; split at h<;>cases h; exact c137 ⟨_,_,_,_,_,_⟩
theorem it3 {h:Hal} (hf:h.few) (hnm:∀ m∈h.ms, m.nm.data.toList.length<100000) {s:Set7} {ms su se:List ByteArray} {res:PRes} {K:Env->St->Prop} (hR:(Xk 0 ms h.ms).2.1≠0->res=⟨chkV (1, (Xk 0 ms h.ms).1, (Xk 0 ms h.ms).2.1), []⟩)
    (hK:(Xk 0 ms h.ms).2.1=0->∀ e σ, Ren 98 e σ (Ub 4) ⟨Zl h s (Xk 0 ms h.ms).2.2 su se, 98⟩->K e σ):It63 sx3 (kG7 h kG6) res 3 (Zl h s ms su se) K := by
  unfold It63 We
  repeat'(first|refine wk0 ?_|(refine wk2 ?_ ?_<;>intro _)|fail)
  refine bs.sv (sx := sx3) Xl Tryz.func76 (by kernel_rfl) (by kernel_rfl) ?_
  repeat'(first|refine wk0 ?_|(refine wk2 ?_ ?_<;>intro _)|fail)
  refine bs.sv (sx := sx3) Xl Tryz.func77 (by kernel_rfl) (by kernel_rfl) ?_
  refine Za3 (S := Nat × Int × List ByteArray) (fun t => h.ms.length-t.1) (fun t => [(1, .func 78 [] [.ptr 0 0 0, .ptr 6 0 0]), (8, I (h.ms.map Mat.av).length), (9, I t.2.1)]) (fun t => (98, .row 2 [[I 1, .func 76 [] [.ptr 0 0 0, .ptr 6 0 0]]] true false)::Zl h s t.2.2 su se) 99 99
    (fun t => t.2.1=t.1/\t.1<=h.ms.length/\Xk t.1 t.2.2 (h.ms.drop t.1)=Xk 0 ms h.ms) (0, 0, ms) ⟨rfl, Rl _, rfl⟩ (Qm _) [] rfl (kps) (kps) ?_
  rintro ⟨k, i, ns⟩ ⟨hi, hk, hh⟩
  dsimp only at hi hk hh ⊢
  subst hi
  generalize Xk 0 ms h.ms=R0 at *
  refine bs.av (sx := sx3) Zcg ?_
  have e3 := Zsd h.ms
  by_cases hlt:k<h.ms.length
  · have e1 := Yce hlt
    have hs := hnm _ (Rx hlt)
    have ha := Zdg (res := ⟨Bo (Vc h.ms[k].nm), []⟩) hs
    rw [Qr hlt, Xk] at hh
    repeat'(first|refine wk1 ?_|(refine wk2 ?_ ?_<;>intro _)|fail)
    refine bs.sv (sx := sx3) Zcg Tryz.func78 (by kernel_rfl) (by kernel_rfl) ?_
    repeat'(first|refine wk1 ?_|(refine wk2 ?_ ?_<;>intro _)|fail)
    refine bs.sv (sx := sx3) Zcg Tryz.func54 (by kernel_rfl) (by kernel_rfl) ?_
    refine Tq 3 ?_
    refine Ri (bs.av (sx := sx3) Zcg ?_)
    repeat'(first|refine wk1 ?_|(refine wk2 ?_ ?_<;>intro _)|fail)
    refine bs.sv (sx := sx3) Zcg Tryz.func79 (by kernel_rfl) (by kernel_rfl) ?_
    repeat'(first|refine wk1 ?_|(refine wk2 ?_ ?_<;>intro _)|fail)
    refine bs.sv (sx := sx3) Zcg Tryz.func80 (by kernel_rfl) (by kernel_rfl) ?_
    repeat'(first|refine wk1 ?_|(refine wk2 ?_ ?_<;>intro _)|fail)
    all_goals try (refine Ri (bs.av (sx := sx3) Zcg ?_))
    repeat'(first|refine wk1 ?_|(refine wk2 ?_ ?_<;>intro _)|fail)
    all_goals try (refine Ri (bs.av (sx := sx3) Zcg ?_))
    repeat'(first|refine wk1 ?_|(refine wk2 ?_ ?_<;>intro _)|fail)
    all_goals (clear e1 ha e3)
    all_goals first
      | (have e:R0=((k:Int), 4, ns) := (by rw [<-hh]; clear hR hK hh; simp_all [Zo]; done)
         subst e; rw [hR (by simp)]; exact Zg rfl rfl)
      | (have e:R0=((k:Int), 5, ns) := (by rw [<-hh]; clear hR hK hh; simp_all [Zo]; done)
         subst e; rw [hR (by simp)]; exact Zg rfl rfl)
      | (have e:R0=((k:Int), Za2 h.ms[k], addK h.ms[k].nm ns) := (by rw [<-hh]; clear hR hK hh; simp_all [Zo]; done)
         subst e; rw [hR (by clear hR hK hh; simp_all; done)]; exact Zg rfl rfl)
      | exact Th ⟨(k+1, _, addK h.ms[k].nm ns), [], rfl, kps, kps, ⟨Xh (by have := hf.1; omega), hlt, by rw [<-hh]; clear hR hK hh; simp_all [Zo]; done⟩, by dsimp only; omega⟩
      | (exfalso; clear hR hK hh; simp_all; done)
  · rw [Rb (by omega)] at hh
    repeat'(first|refine wk1 ?_|(refine wk2 ?_ ?_<;>intro _)|fail)
    subst hh
    exact ⟨hK rfl _ _ (Sv [] rfl (kps) (kps))⟩
theorem Zt1 (l:List (Int × Int)):(l.map pt).length=l.length:=by simp
theorem Yde {l:List (Int × Int)} {k:Nat} (h:k<l.length):(l.map pt)[((k:Nat):Int).toNat]?=some [I l[k].1,I l[k].2]:=by simp [h]
def Zdz:Nat->List (Int × Int)->Int × Int
 | _,[]=>(0,0)
 | i,p::l=>if Zeo p.1 p.2 then Zdz (i+1) l else (i,2)
abbrev sx7:FuncId->Bool:=fun f=>Qp f 84||Qp f 77||Qp f 85
theorem it7 {h:Hal} (hf:h.few) {s:Set7} {ms su se:List ByteArray} {res:PRes} {K:Env->St->Prop} (hR:(Zdz 0 h.cs).2≠0->res=⟨chkV (2,(Zdz 0 h.cs).1,(Zdz 0 h.cs).2),[]⟩)
  (hK:(Zdz 0 h.cs).2=0->∀ e σ,Ren 98 e σ (Ub 8) ⟨Zl h s ms su se,98⟩->K e σ):It63 sx7 (kG7 h kG6) res 7 (Zl h s ms su se) K:=by
 unfold It63 We
 repeat'(first|refine wk0 ?_|(refine wk2 ?_ ?_<;>intro _)|fail)
 refine bs.sv (sx:=sx7) Xl Tryz.func84 (by kernel_rfl) (by kernel_rfl) ?_
 repeat'(first|refine wk0 ?_|(refine wk2 ?_ ?_<;>intro _)|fail)
 refine bs.sv (sx:=sx7) Xl Tryz.func77 (by kernel_rfl) (by kernel_rfl) ?_
 refine Za3 (S:=Nat × Int) (fun t=>h.cs.length-t.1) (fun t=>[(1,.func 85 [] [.ptr 0 0 0]),(8,I (h.cs.map pt).length),(9,I t.2)]) (fun t=>(98,.row 2 [[I 2,.func 84 [] [.ptr 0 0 0]]] true false)::Zl h s ms su se) 99 99
  (fun t=>t.2=t.1/\t.1<=h.cs.length/\Zdz t.1 (h.cs.drop t.1)=Zdz 0 h.cs) (0,0) ⟨rfl,Rl _,rfl⟩ (Qm _) [] rfl (kps) (kps) ?_
 rintro ⟨k,i⟩ ⟨hi,hk,hh⟩
 dsimp only at hi hk hh ⊢
 subst hi
 generalize Zdz 0 h.cs=R0 at *
 refine bs.av (sx:=sx7) Xl ?_
 have e3:=Zt1 h.cs
 by_cases hlt:k<h.cs.length
 ·have e1:=Yde hlt
  rw [Qr hlt,Zdz] at hh
  repeat'(first|refine wk1 ?_|(refine wk2 ?_ ?_<;>intro _)|fail)
  refine bs.sv (sx:=sx7) Xl Tryz.func85 (by kernel_rfl) (by kernel_rfl) ?_
  cases hcor:Zeo h.cs[k].1 h.cs[k].2 with
  | false =>
   rw [hcor,if_neg (by simp)] at hh
   subst hh
   repeat'(first|refine wk1 ?_|(refine wk2 ?_ ?_<;>intro _)|fail)
   ·rw [hR (by simp),hcor]; exact Zg rfl rfl
   all_goals (exfalso; clear hR hK; simp_all [unl]; done)
  | true =>
   rw [hcor,if_pos rfl] at hh
   repeat'(first|refine wk1 ?_|(refine wk2 ?_ ?_<;>intro _)|fail)
   ·exfalso; clear hR hK hh; simp_all [unl]; done
   ·exfalso; clear hR hK hh; simp_all [unl]; done
   ·exact Th ⟨(k+1,_),[],rfl,kps,kps,⟨Xh (by have:=hf.2.1; omega),hlt,hh⟩,by dsimp only; omega⟩
 ·rw [Rb (by omega)] at hh
  repeat'(first|refine wk1 ?_|(refine wk2 ?_ ?_<;>intro _)|fail)
  subst hh
  exact ⟨hK rfl _ _ (Sv [] rfl (kps) (kps))⟩
theorem Yba {h:Hal} (hf:h.few) {k:Nat} (hk:k<h.cs.length):PCall Tryz.prog 89 [h.av,I k] ⟨(wlOf h.cs k).av,[]⟩:=by
 have e1:=Zo9 hk
 have e2:=Zo9 (ps:=h.cs) (i:=(k+1)%h.cs.length) (Ot _ (by omega))
 have e3:(h.cs.map pt).length=h.cs.length:=by simp
 exact c145 (by rw [e3]; exact hf.2.1) e1 (by rw [e3]; exact e2)
theorem Un (l:List Wal):(l.map Wal.av).length=l.length:=by simp
theorem Zxl {l:List Wal} {k:Nat} (h:k<l.length):(l.map Wal.av)[((k:Nat):Int).toNat]?=some (Wal.av l[k]):=by simp [h]
def Xb (w:Wl):Int:=if decide (w.fx=w.tx)&&decide (w.fy=w.ty) then 11 else if w.straight then 0 else 15
def Zpt (L:Wl) (ms:List ByteArray) (w:Wal):Int:=if Xn w.mt ms&&((w.cu==⟨#[]⟩)||Xn w.cu ms) then Xb L else 6
def wErr (cs:List (Int × Int)) (ms:List ByteArray) (i:Nat) (w:Wal):Int:=Zpt (wlOf cs i) ms w
theorem Zrw {l k E:Int} {R0:Int × Int × List ByteArray} {res:PRes} {σ:St} (hR:R0.2.1≠0->res=⟨chkV (l,R0.1,R0.2.1),[]⟩) (h1:R0.1=k) (h2:R0.2.1=E) (h3:E≠0):Ret res (.tup [.agg [I l,I k],I E]) σ:=by
 rw [hR (by rw [h2]; exact h3),h1,h2]; exact Zg rfl rfl
def Uj (cs:List (Int × Int)) (ms:List ByteArray):Nat->List ByteArray->List Wal->Int × Int × List ByteArray
 | _,ns,[]=>(0,0,ns)
 | i,ns,w::l=>if Zo w.nm ns=0 then (if wErr cs ms i w=0 then Uj cs ms (i+1) (addK w.nm ns) l else (i,wErr cs ms i w,addK w.nm ns)) else (i,Zo w.nm ns,ns)
abbrev sx8:FuncId->Bool:=fun f=>Qp f 87||Qp f 77||Qp f 88||Qp f 80
theorem it8 {h:Hal} (hf:h.few) (hnm:∀ m∈h.ws,m.nm.data.toList.length<100000) (hwc:h.ws.length<=h.cs.length) {s:Set7} {ms su se:List ByteArray} {res:PRes} {K:Env->St->Prop} (hR:(Uj h.cs ms 0 su h.ws).2.1≠0->res=⟨chkV (3,(Uj h.cs ms 0 su h.ws).1,(Uj h.cs ms 0 su h.ws).2.1),[]⟩)
  (hK:(Uj h.cs ms 0 su h.ws).2.1=0->∀ e σ,Ren 98 e σ (Ub 9) ⟨Zl h s ms (Uj h.cs ms 0 su h.ws).2.2 se,98⟩->K e σ):It63 sx8 (kG7 h kG6) res 8 (Zl h s ms su se) K:=by
 unfold It63 We
 repeat'(first|refine wk0 ?_|(refine wk2 ?_ ?_<;>intro _)|fail)
 refine bs.sv (sx:=sx8) Xl Tryz.func87 (by kernel_rfl) (by kernel_rfl) ?_
 repeat'(first|refine wk0 ?_|(refine wk2 ?_ ?_<;>intro _)|fail)
 refine bs.sv (sx:=sx8) Xl Tryz.func77 (by kernel_rfl) (by kernel_rfl) ?_
 refine Za3 (S:=Nat × Int × List ByteArray) (fun t=>h.ws.length-t.1) (fun t=>[(1,.func 88 [] [.ptr 0 0 0,.ptr 2 0 0,.ptr 7 0 0,.ptr 6 0 0]),(8,I (h.ws.map Wal.av).length),(9,I t.2.1)]) (fun t=>(98,.row 2 [[I 3,.func 87 [] [.ptr 0 0 0,.ptr 2 0 0,.ptr 7 0 0,.ptr 6 0 0]]] true false)::Zl h s ms t.2.2 se) 99 99
  (fun t=>t.2.1=t.1/\t.1<=h.ws.length/\Uj h.cs ms t.1 t.2.2 (h.ws.drop t.1)=Uj h.cs ms 0 su h.ws) (0,0,su) ⟨rfl,Rl _,rfl⟩ (Qm _) [] rfl (kps) (kps) ?_
 rintro ⟨k,i,ns⟩ ⟨hi,hk,hh⟩
 dsimp only at hi hk hh ⊢
 subst hi
 generalize Uj h.cs ms 0 su h.ws=R0 at *
 have e3:=Un h.ws
 by_cases hlt:k<h.ws.length
 ·have e1:=Zxl hlt
  have hs:=hnm _ (Rx hlt)
  have ha:=Zdg (res:=⟨Bo (Vc h.ws[k].nm),[]⟩) hs
  have hk2:=Zi (Yba hf (show k<h.cs.length by omega)) Xl
  rw [Qr hlt,Uj] at hh
  unfold wErr at hh
  generalize wlOf h.cs k=L at *
  obtain ⟨ln,la,lb,lc,ld⟩:=L
  refine bs.av (sx:=sx8) hk2 ?_
  repeat'(first|refine wk1 ?_|(refine wk2 ?_ ?_<;>intro _)|fail)
  refine bs.sv (sx:=sx8) hk2 Tryz.func88 (by kernel_rfl) (by kernel_rfl) ?_
  repeat'(first|refine wk1 ?_|(refine wk2 ?_ ?_<;>intro _)|fail)
  refine bs.sv (sx:=sx8) hk2 Tryz.func80 (by kernel_rfl) (by kernel_rfl) ?_
  repeat'(first|refine wk1 ?_|(refine wk2 ?_ ?_<;>intro _)|fail)
  all_goals (clear e1 ha e3 hk2)
  all_goals first
   | exact Zrw hR (by rw [<-hh]; clear hR hK hh; by_cases hla:la=lc<;>by_cases hlb:lb=ld<;>simp_all [Zo,Zpt,Xb]; done) (by rw [<-hh]; clear hR hK hh; by_cases hla:la=lc<;>by_cases hlb:lb=ld<;>simp_all [Zo,Zpt,Xb]; done) (by decide)
   | exact Th ⟨(k+1,_,addK h.ws[k].nm ns),[],rfl,kps,kps,⟨Xh (by have:=hf.2.2.1; omega),hlt,by rw [<-hh]; clear hR hK hh; by_cases hla:la=lc<;>by_cases hlb:lb=ld<;>simp_all [Zo,Zpt,Xb]; done⟩,by dsimp only; omega⟩
   | (exfalso; clear hR hK hh; simp_all; done)
 ·rw [Rb (by omega)] at hh
  refine bs.av (sx:=sx8) Xl ?_
  repeat'(first|refine wk1 ?_|(refine wk2 ?_ ?_<;>intro _)|fail)
  subst hh
  exact ⟨hK rfl _ _ (Sv [] rfl (kps) (kps))⟩
theorem Zac (l:List Can):(l.map Can.av).length=l.length:=by simp
theorem Ziz {l:List Can} {k:Nat} (h:k<l.length):(l.map Can.av)[((k:Nat):Int).toNat]?=some (Can.av l[k]):=by simp [h]
def cErr (h:Hal) (ms:List ByteArray) (c:Can):Int:=if Xn c.mt ms then Zeq h c else 6
def Zep (h:Hal) (ms:List ByteArray):Nat->List ByteArray->List Can->Int × Int × List ByteArray
 | _,ns,[]=>(0,0,ns)
 | i,ns,c::l=>if Zo c.nm ns=0 then (if cErr h ms c=0 then Zep h ms (i+1) (addK c.nm ns) l else (i,cErr h ms c,addK c.nm ns)) else (i,Zo c.nm ns,ns)
abbrev sx12:FuncId->Bool:=fun f=>Qp f 95||Qp f 77||Qp f 96||Qp f 54||Qp f 97||Qp f 80||Qp f 98||Qp f 99
theorem Zbj {l k E:Int} {R0:Int × Int × List ByteArray} {res:PRes} {σ:St} (hR:R0.2.1≠0->res=⟨chkV (l,R0.1,R0.2.1),[]⟩) (h1:R0.1=k/\R0.2.1=E) (h3:E≠0):Ret res (.tup [.agg [I l,I k],I E]) σ:=Zrw hR h1.1 h1.2 h3
theorem it12 {h:Hal} (hf:h.few) (hnm:∀ m∈h.ks,m.nm.data.toList.length<100000) {s:Set7} {ms su se:List ByteArray} {res:PRes} {K:Env->St->Prop} (hR:(Zep h ms 0 su h.ks).2.1≠0->res=⟨chkV (4,(Zep h ms 0 su h.ks).1,(Zep h ms 0 su h.ks).2.1),[]⟩)
  (hK:(Zep h ms 0 su h.ks).2.1=0->∀ e σ,Ren 98 e σ (Ub 13) ⟨Zl h s ms (Zep h ms 0 su h.ks).2.2 se,98⟩->K e σ):It63 sx12 (kG7 h kG6) res 12 (Zl h s ms su se) K:=by
 unfold It63 We
 repeat'(first|refine wk0 ?_|(refine wk2 ?_ ?_<;>intro _)|fail)
 refine bs.sv (sx:=sx12) Xl Tryz.func95 (by kernel_rfl) (by kernel_rfl) ?_
 repeat'(first|refine wk0 ?_|(refine wk2 ?_ ?_<;>intro _)|fail)
 refine bs.sv (sx:=sx12) Xl Tryz.func77 (by kernel_rfl) (by kernel_rfl) ?_
 refine Za3 (S:=Nat × Int × List ByteArray) (fun t=>h.ks.length-t.1) (fun t=>[(1,.func 96 [] [.ptr 0 0 0,.ptr 7 0 0,.ptr 6 0 0,.ptr 2 0 0]),(8,I (h.ks.map Can.av).length),(9,I t.2.1)]) (fun t=>(98,.row 2 [[I 4,.func 95 [] [.ptr 0 0 0,.ptr 7 0 0,.ptr 6 0 0,.ptr 2 0 0]]] true false)::Zl h s ms t.2.2 se) 99 99
  (fun t=>t.2.1=t.1/\t.1<=h.ks.length/\Zep h ms t.1 t.2.2 (h.ks.drop t.1)=Zep h ms 0 su h.ks) (0,0,su) ⟨rfl,Rl _,rfl⟩ (Qm _) [] rfl (kps) (kps) ?_
 rintro ⟨k,i,ns⟩ ⟨hi,hk,hh⟩
 dsimp only at hi hk hh ⊢
 subst hi
 generalize Zep h ms 0 su h.ks=R0 at *
 have e3:=Zac h.ks
 by_cases hlt:k<h.ks.length
 ·have e1:=Ziz hlt
  have hs:=hnm _ (Rx hlt)
  have ha:=Zdg (res:=⟨Bo (Vc h.ks[k].nm),[]⟩) hs
  have hk2:=Zi (c155 hf h.ks[k] (hf.2.2.2.2.2 _ (Rx hlt))) Xl
  rw [Qr hlt,Zep] at hh
  generalize hce:Zeq h h.ks[k]=ce at *
  refine bs.av (sx:=sx12) hk2 ?_
  repeat'(first|refine wk1 ?_|(refine wk2 ?_ ?_<;>intro _)|fail)
  refine bs.sv (sx:=sx12) hk2 Tryz.func96 (by kernel_rfl) (by kernel_rfl) ?_
  repeat'(first|refine wk1 ?_|(refine wk2 ?_ ?_<;>intro _)|fail)
  refine bs.sv (sx:=sx12) hk2 Tryz.func54 (by kernel_rfl) (by kernel_rfl) ?_
  refine Tq 4 ?_
  refine Ri (bs.av (sx:=sx12) hk2 ?_)
  repeat'(first|refine wk1 ?_|(refine wk2 ?_ ?_<;>intro _)|fail)
  refine bs.sv (sx:=sx12) hk2 Tryz.func97 (by kernel_rfl) (by kernel_rfl) ?_
  repeat'(first|refine wk1 ?_|(refine wk2 ?_ ?_<;>intro _)|fail)
  refine bs.sv (sx:=sx12) hk2 Tryz.func80 (by kernel_rfl) (by kernel_rfl) ?_
  repeat'(first|refine wk1 ?_|(refine wk2 ?_ ?_<;>intro _)|fail)
  ·exact Zbj hR (by rw [<-hh]; clear hR hK hh hk2 ha e1 e3; simp_all [Zo]; done) (by decide)
  ·exact Zbj hR (by rw [<-hh]; clear hR hK hh hk2 ha e1 e3; simp_all [Zo]; done) (by decide)
  refine Ri (bs.av (sx:=sx12) hk2 ?_)
  repeat'(first|refine wk1 ?_|(refine wk2 ?_ ?_<;>intro _)|fail)
  refine bs.sv (sx:=sx12) hk2 Tryz.func98 (by kernel_rfl) (by kernel_rfl) ?_
  have hadd:Zo h.ks[k].nm ns=0:=by clear hR hK hh hk2 ha e1 e3; simp_all [Zo]; done
  rw [hadd,if_pos rfl,cErr,hce] at hh
  cases hel:Xn h.ks[k].mt ms with
  | false =>
   rw [hel,if_neg (by simp),if_neg (by decide)] at hh
   subst hh
   repeat'(first|refine wk1 ?_|(refine wk2 ?_ ?_<;>intro _)|fail)
   ·rw [hel]; exact Zbj hR ⟨rfl,rfl⟩ (by decide)
   all_goals (exfalso; clear hR hK hk2 ha e1 e3; simp_all [unl]; done)
  | true =>
   rw [hel,if_pos rfl] at hh
   repeat'(first|refine wk1 ?_|(refine wk2 ?_ ?_<;>intro _)|fail)
   all_goals try (exfalso; clear hR hK hh hk2 ha e1 e3; simp_all [unl]; done)
   refine Ri (bs.av (sx:=sx12) hk2 ?_)
   repeat'(first|refine wk1 ?_|(refine wk2 ?_ ?_<;>intro _)|fail)
   refine bs.sv (sx:=sx12) hk2 Tryz.func99 (by kernel_rfl) (by kernel_rfl) ?_
   by_cases hz:ce=0
   ·subst hz
    rw [if_pos rfl] at hh
    repeat'(first|refine wk1 ?_|(refine wk2 ?_ ?_<;>intro _)|fail)
    all_goals try (refine Ri (bs.av (sx:=sx12) hk2 ?_))
    repeat'(first|refine wk1 ?_|(refine wk2 ?_ ?_<;>intro _)|fail)
    exact Th ⟨(k+1,_,addK h.ks[k].nm ns),[],rfl,kps,kps,⟨Xh (by have:=hf.2.2.2.1; omega),hlt,hh⟩,by dsimp only; omega⟩
   ·rw [if_neg hz] at hh
    subst hh
    repeat'(first|refine wk1 ?_|(refine wk2 ?_ ?_<;>intro _)|fail)
    ·exact Zbj hR ⟨rfl,rfl⟩ hz
    all_goals (exfalso; clear hR hK hk2 ha e1 e3; simp_all; done)
 ·rw [Rb (by omega)] at hh
  refine bs.av (sx:=sx12) Xl ?_
  repeat'(first|refine wk1 ?_|(refine wk2 ?_ ?_<;>intro _)|fail)
  subst hh
  exact ⟨hK rfl _ _ (Sv [] rfl (kps) (kps))⟩
theorem Zrp (l:List Sea):(l.map Sea.av).length=l.length:=by simp
theorem Ybz {l:List Sea} {k:Nat} (h:k<l.length):(l.map Sea.av)[((k:Nat):Int).toNat]?=some (Sea.av l[k]):=by simp [h]
def Zdl (h:Hal):Nat->List ByteArray->List Sea->Int × Int × List ByteArray
 | _,ns,[]=>(0,0,ns)
 | i,ns,c::l=>if Zo c.nm ns=0 then (if Zji h c.x c.y c.z=0 then Zdl h (i+1) (addK c.nm ns) l else (i,Zji h c.x c.y c.z,addK c.nm ns)) else (i,Zo c.nm ns,ns)
abbrev sx14:FuncId->Bool:=fun f=>Qp f 101||Qp f 77||Qp f 102||Qp f 54||Qp f 103||Qp f 80||Qp f 104
theorem it14 {h:Hal} (hf:h.few) (hnm:∀ m∈h.ss,m.nm.data.toList.length<100000) {s:Set7} {ms su se:List ByteArray} {res:PRes} {K:Env->St->Prop} (hR:(Zdl h 0 se h.ss).2.1≠0->res=⟨chkV (5,(Zdl h 0 se h.ss).1,(Zdl h 0 se h.ss).2.1),[]⟩)
  (hK:(Zdl h 0 se h.ss).2.1=0->∀ e σ,Ren 98 e σ (Ub 15) ⟨Zl h s ms su (Zdl h 0 se h.ss).2.2,98⟩->K e σ):It63 sx14 (kG7 h kG6) res 14 (Zl h s ms su se) K:=by
 unfold It63 We
 repeat'(first|refine wk0 ?_|(refine wk2 ?_ ?_<;>intro _)|fail)
 refine bs.sv (sx:=sx14) Xl Tryz.func101 (by kernel_rfl) (by kernel_rfl) ?_
 repeat'(first|refine wk0 ?_|(refine wk2 ?_ ?_<;>intro _)|fail)
 refine bs.sv (sx:=sx14) Xl Tryz.func77 (by kernel_rfl) (by kernel_rfl) ?_
 refine Za3 (S:=Nat × Int × List ByteArray) (fun t=>h.ss.length-t.1) (fun t=>[(1,.func 102 [] [.ptr 0 0 0,.ptr 8 0 0,.ptr 2 0 0]),(8,I (h.ss.map Sea.av).length),(9,I t.2.1)]) (fun t=>(98,.row 2 [[I 5,.func 101 [] [.ptr 0 0 0,.ptr 8 0 0,.ptr 2 0 0]]] true false)::Zl h s ms su t.2.2) 99 99
  (fun t=>t.2.1=t.1/\t.1<=h.ss.length/\Zdl h t.1 t.2.2 (h.ss.drop t.1)=Zdl h 0 se h.ss) (0,0,se) ⟨rfl,Rl _,rfl⟩ (Qm _) [] rfl (kps) (kps) ?_
 rintro ⟨k,i,ns⟩ ⟨hi,hk,hh⟩
 dsimp only at hi hk hh ⊢
 subst hi
 generalize Zdl h 0 se h.ss=R0 at *
 have e3:=Zrp h.ss
 by_cases hlt:k<h.ss.length
 ·have e1:=Ybz hlt
  have hs:=hnm _ (Rx hlt)
  have ha:=Zdg (res:=⟨Bo (Vc h.ss[k].nm),[]⟩) hs
  have hk2:=Zi (c160 hf h.ss[k].x h.ss[k].y h.ss[k].z) Xl
  rw [Qr hlt,Zdl] at hh
  generalize hce:Zji h h.ss[k].x h.ss[k].y h.ss[k].z=ce at *
  refine bs.av (sx:=sx14) hk2 ?_
  repeat'(first|refine wk1 ?_|(refine wk2 ?_ ?_<;>intro _)|fail)
  refine bs.sv (sx:=sx14) hk2 Tryz.func102 (by kernel_rfl) (by kernel_rfl) ?_
  repeat'(first|refine wk1 ?_|(refine wk2 ?_ ?_<;>intro _)|fail)
  refine bs.sv (sx:=sx14) hk2 Tryz.func54 (by kernel_rfl) (by kernel_rfl) ?_
  refine Tq 3 ?_
  refine Ri (bs.av (sx:=sx14) hk2 ?_)
  repeat'(first|refine wk1 ?_|(refine wk2 ?_ ?_<;>intro _)|fail)
  refine bs.sv (sx:=sx14) hk2 Tryz.func103 (by kernel_rfl) (by kernel_rfl) ?_
  repeat'(first|refine wk1 ?_|(refine wk2 ?_ ?_<;>intro _)|fail)
  refine bs.sv (sx:=sx14) hk2 Tryz.func80 (by kernel_rfl) (by kernel_rfl) ?_
  repeat'(first|refine wk1 ?_|(refine wk2 ?_ ?_<;>intro _)|fail)
  ·exact Zbj hR (by rw [<-hh]; clear hR hK hh hk2 ha e1 e3; simp_all [Zo]; done) (by decide)
  ·exact Zbj hR (by rw [<-hh]; clear hR hK hh hk2 ha e1 e3; simp_all [Zo]; done) (by decide)
  refine Ri (bs.av (sx:=sx14) hk2 ?_)
  repeat'(first|refine wk1 ?_|(refine wk2 ?_ ?_<;>intro _)|fail)
  refine bs.sv (sx:=sx14) hk2 Tryz.func104 (by kernel_rfl) (by kernel_rfl) ?_
  have hadd:Zo h.ss[k].nm ns=0:=by clear hR hK hh hk2 ha e1 e3; simp_all [Zo]; done
  rw [hadd,if_pos rfl] at hh
  by_cases hz:ce=0
  ·subst hz
   rw [if_pos rfl] at hh
   repeat'(first|refine wk1 ?_|(refine wk2 ?_ ?_<;>intro _)|fail)
   all_goals try (refine Ri (bs.av (sx:=sx14) hk2 ?_))
   repeat'(first|refine wk1 ?_|(refine wk2 ?_ ?_<;>intro _)|fail)
   exact Th ⟨(k+1,_,addK h.ss[k].nm ns),[],rfl,kps,kps,⟨Xh (by have:=hf.2.2.2.2.1; omega),hlt,hh⟩,by dsimp only; omega⟩
  ·rw [if_neg hz] at hh
   subst hh
   repeat'(first|refine wk1 ?_|(refine wk2 ?_ ?_<;>intro _)|fail)
   ·exact Zbj hR ⟨rfl,rfl⟩ hz
   all_goals (exfalso; clear hR hK hk2 ha e1 e3; simp_all; done)
 ·rw [Rb (by omega)] at hh
  refine bs.av (sx:=sx14) Xl ?_
  repeat'(first|refine wk1 ?_|(refine wk2 ?_ ?_<;>intro _)|fail)
  subst hh
  exact ⟨hK rfl _ _ (Sv [] rfl (kps) (kps))⟩
def Ye:List (Int × Int × Int)->Int × Int × Int
 | []=>(0,0,0)
 | x::l=>if x.2.2=0 then Ye l else x
def Hal.names (h:Hal):List ByteArray:=(Xk 0 [] h.ms).2.2
def Hal.wal (h:Hal):Int × Int × List ByteArray:=Uj h.cs h.names 0 su0 h.ws
def Hal.can (h:Hal):Int × Int × List ByteArray:=Zep h h.names 0 h.wal.2.2 h.ks
def Znu (h:Hal):List (Int × Int × Int) :=
  [(0, 0, unl (set7 h).a 4), (0, 0, unl (set7 h).b 2), (0, 0, unl (set7 h).c 8), (1, (Xk 0 [] h.ms).1, (Xk 0 [] h.ms).2.1), (0, 0, Zhf h h.names), (0, 0, unl (set7 h).d 10), (0, 0, unl (set7 h).e 8), (2, (Zdz 0 h.cs).1, (Zdz 0 h.cs).2),
   (3, h.wal.1, h.wal.2.1), (0, 0, unl (Yo h) 24), (0, 0, unl (decide (0<Zaz h)) 9), (0, 0, unl (set7 h).f 8), (4, h.can.1, h.can.2.1), (0, 0, unl (set7 h).g 8), (5, (Zdl h 0 [] h.ss).1, (Zdl h 0 [] h.ss).2.1)]
def chk (h:Hal):Int × Int × Int:=Ye (Znu h)
structure Hal.texts (h:Hal):Prop where
 nm:h.nm.data.toList.length<100000
 ms:∀ m∈h.ms,m.nm.data.toList.length<100000
 ws:∀ m∈h.ws,m.nm.data.toList.length<100000
 ks:∀ m∈h.ks,m.nm.data.toList.length<100000
 ss:∀ m∈h.ss,m.nm.data.toList.length<100000
theorem LpR.it {P:Program} {N n0 m:Nat} {c:Code} {Q:Exit->Env->St->Prop} {env env2:Env} {σ σ2:St} (hr:Ren n0 env σ env2 σ2) (h:Awp P N c env2 σ2 (seqQ (fun e s=>Done (LpR P N n0 c Q m e s)) Q)):LpR P N n0 c Q (m+1) env σ :=
 LpR.go hr (h.seqMono fun _ _ k=>k.1)
theorem Yp {res:PRes} {x:Int × Int × Int} {l:List (Int × Int × Int)} (h:res=⟨chkV (Ye (x::l)),[]⟩):x.2.2≠0->res=⟨chkV x,[]⟩:=fun hx=>by rw [h,Ye,if_neg hx]
theorem Yq {res:PRes} {x:Int × Int × Int} {l:List (Int × Int × Int)} (h:res=⟨chkV (Ye (x::l)),[]⟩) (hx:x.2.2=0):res=⟨chkV (Ye l),[]⟩:=by rw [h,Ye,if_pos hx]
theorem Vt {b:Bool} {e:Int} (h:unl b e=0) (he:e≠0):b=true:=by cases b; exact (he h).elim; rfl
theorem Yb3 {h:Hal} (hf:h.few) (ht:h.texts) {res:PRes} (h0:res=⟨chkV (chk h),[]⟩):Lp Tryz.prog Tryz.f41.ntmps lc63 (Ub 0) ⟨Zl h (set7 h) [] su0 [],98⟩ (Q63 res):=by
 have hg:=Yco h Xl
 refine LpR.start 16 98 (Qm _) ?_
 refine LpR.it (Sv [] rfl (kps) (kps)) (bs.av hg (it0 (Yp h0) fun z0 e σ hr=>?_))
 have h1:=Yq h0 z0
 refine LpR.it hr (bs.av hg (it1 (Yp h1) fun z1 e σ hr=>?_))
 have h2:=Yq h1 z1
 refine LpR.it hr (bs.av hg (it2 (Yp h2) fun z2 e σ hr=>?_))
 have h3:=Yq h2 z2
 refine LpR.it hr (bs.av hg (it3 hf ht.ms (Yp h3) fun z3 e σ hr=>?_))
 have h4:=Yq h3 z3
 refine LpR.it hr (bs.av hg (it4 (Yp h4) fun z4 e σ hr=>?_))
 have h5:=Yq h4 z4
 refine LpR.it hr (bs.av hg (it5 (Yp h5) fun z5 e σ hr=>?_))
 have h6:=Yq h5 z5
 refine LpR.it hr (bs.av hg (it6 (Yp h6) fun z6 e σ hr=>?_))
 have h7:=Yq h6 z6
 refine LpR.it hr (bs.av hg (it7 hf (Yp h7) fun z7 e σ hr=>?_))
 have h8:=Yq h7 z7
 have hwc:h.ws.length<=h.cs.length:=by
  have:=Vt z5 (by decide)
  simp only [set7,Qf,decide_eq_true_eq] at this
  omega
 refine LpR.it hr (bs.av hg (it8 hf ht.ws hwc (Yp h8) fun z8 e σ hr=>?_))
 have h9:=Yq h8 z8
 refine LpR.it hr (bs.av (Zi (c147 hf) hg) (it9 (Yp h9) fun z9 e σ hr=>?_))
 have h10:=Yq h9 z9
 refine LpR.it hr (bs.av (Zi (c149 hf) hg) (it10 (Yp h10) fun z10 e σ hr=>?_))
 have h11:=Yq h10 z10
 refine LpR.it hr (bs.av hg (it11 (Yp h11) fun z11 e σ hr=>?_))
 have h12:=Yq h11 z11
 refine LpR.it hr (bs.av hg (it12 hf ht.ks (Yp h12) fun z12 e σ hr=>?_))
 have h13:=Yq h12 z12
 refine LpR.it hr (bs.av hg (it13 (Yp h13) fun z13 e σ hr=>?_))
 have h14:=Yq h13 z13
 refine LpR.it hr (bs.av hg (it14 hf ht.ss (Yp h14) fun z14 e σ hr=>?_))
 have h15:=Yq h14 z14
 refine LpR.go hr (bs.av (sx:=nos) hg ?_)
 repeat'(first|refine wk0 ?_|(refine wk2 ?_ ?_<;>intro _)|fail)
 rw [h15]
 exact Zg rfl rfl
theorem c63 {h:Hal} (hf:h.few) (ht:h.texts):PCall Tryz.prog 41 [h.av] ⟨chkV (chk h),[]⟩:=by
 have ha:=Zdg (res:=⟨Bo (Vc h.nm),[]⟩) ht.nm
 have l1:(h.ms.map Mat.av).length=h.ms.length:=by simp
 have l2:(h.cs.map pt).length=h.cs.length:=by simp
 have l3:(h.ws.map Wal.av).length=h.ws.length:=by simp
 have l4:(h.ks.map Can.av).length=h.ks.length:=by simp
 have l5:(h.ss.map Sea.av).length=h.ss.length:=by simp
 have key:=Yb3 hf ht rfl
 refine pn Xl Tryz.func41 ?_
 repeat'(first|refine wk0 ?_|(refine wk2 ?_ ?_<;>intro _)|fail)
 ·rename_i hb
  have e7:set7 h=⟨Vc h.nm,within h.ht 2 5000,decide (((h.ms.map Mat.av).length:Int)<=10),decide (((h.ws.map Wal.av).length:Int)=(h.cs.map pt).length),decide (((h.ws.map Wal.av).length:Int)<=12),decide (((h.ks.map Can.av).length:Int)<=4),decide (((h.ss.map Sea.av).length:Int)<=40)⟩:=by
   rw [l2] at hb
   rw [l1,l2,l3,l4,l5,set7,hb]; rfl
  rw [e7] at key
  refine Lp.ren (Sv [] rfl (kps) (kps)) key
 ·rename_i hb
  have e7:set7 h=⟨Vc h.nm,within h.ht 2 5000,decide (((h.ms.map Mat.av).length:Int)<=10),false,decide (((h.ws.map Wal.av).length:Int)<=12),decide (((h.ks.map Can.av).length:Int)<=4),decide (((h.ss.map Sea.av).length:Int)<=40)⟩:=by
   rw [l2] at hb
   rw [l1,l3,l4,l5,set7,hb]; rfl
  rw [e7] at key
  refine Lp.ren (Sv [] rfl (kps) (kps)) key
structure Ln where
 x:Int
 y:Int
 dx:Int
 dy:Int
structure Pt where
 x:Int
 y:Int
 z:Int
 d:Int
abbrev Pt.av (p:Pt):AV:=.agg [I p.x,I p.y,I p.z,I p.d]
def Ln.n (l:Ln):Int:=imax (size l.dx) (size l.dy)
def Ln.sx (l:Ln):Int:=Qa Qb (Int.tdiv l.dx l.n)
def Ln.sy (l:Ln):Int:=Qa Qb (Int.tdiv l.dy l.n)
theorem c125 (n:Int):PCall Tryz.prog 12 [I n] ⟨I (size n),[]⟩:=by
 refine pn Zh Tryz.func12 ?_
 repeat'(first|refine wk0 ?_|(refine wk2 ?_ ?_<;>intro _)|fail)
 exact Zd rfl
def rS1:List AV->Option PRes
 | [.int .i64 n]=>some ⟨I (size n),[]⟩
 | _=>none
def Ln.beside (l:Ln) (p:Pt):Int:=Qa Qb (Qa Qb (l.sx*Qa Qb (p.y-Qa Qb (l.y*p.d)))-Qa Qb (l.sy*Qa Qb (p.x-Qa Qb (l.x*p.d))))
def Ln.along (l:Ln) (p:Pt):Int:=Qa Qb (Qa Qb (l.sx*Qa Qb (p.x-Qa Qb (l.x*p.d)))+Qa Qb (l.sy*Qa Qb (p.y-Qa Qb (l.y*p.d))))
def Ln.full (l:Ln):Int:=Qa Qb (l.n*Qa Qb (Qa Qb (l.sx*l.sx)+Qa Qb (l.sy*l.sy)))
def Ln.has (l:Ln) (p:Pt):Bool:=decide (l.beside p=0)&&within (l.along p) 0 (Qa Qb (l.full*p.d))
def Ln.a (l:Ln):Pt:=⟨l.x,l.y,0,1⟩
def Ln.b (l:Ln):Pt:=⟨Qa Qb (l.x+l.dx),Qa Qb (l.y+l.dy),0,1⟩
def Ln.touch (l m:Ln):Bool :=
 (l.has m.a||l.has m.b||m.has l.a||m.has l.b)||(decide (Qa Qb (sgn (l.beside m.a)*sgn (l.beside m.b))<0)&&decide (Qa Qb (sgn (m.beside l.a)*sgn (m.beside l.b))<0))
def Yax (c:Can):Ln:=⟨c.fx,c.fy,Qa Qb (c.tx-c.fx),0⟩
def Yaw (c:Can):Ln:=⟨c.tx,c.fy,0,Qa Qb (c.ty-c.fy)⟩
def Yav (c:Can):Ln:=⟨c.tx,c.ty,Qa Qb (0-Qa Qb (c.tx-c.fx)),0⟩
def Yau (c:Can):Ln:=⟨c.fx,c.ty,0,Qa Qb (0-Qa Qb (c.ty-c.fy))⟩
def Zqf (c:Can) (p:Pt):Bool:=within p.x (Qa Qb (imin c.fx c.tx*p.d)) (Qa Qb (imax c.fx c.tx*p.d))&&within p.y (Qa Qb (imin c.fy c.ty*p.d)) (Qa Qb (imax c.fy c.ty*p.d))
def lnOf (cs:List (Int × Int)) (i:Nat):Ln:=⟨(cor cs i).1,(cor cs i).2,Qa Qb ((cor cs ((i+1)%cs.length)).1-(cor cs i).1),Qa Qb ((cor cs ((i+1)%cs.length)).2-(cor cs i).2)⟩
theorem Zcn (a b:ByteArray):(a==b)=decide (a=b):=by
 rw [Sf]
 obtain ⟨a⟩:=a
 obtain ⟨b⟩:=b
 have:((⟨a⟩:ByteArray)==⟨b⟩)=(a==b):=rfl
 rw [this]
 simp
def Vb (s:ByteArray):Nat->List Mat->Int
 | _,[]=>-1
 | i,m::l=>if m.nm==s then i else Vb s (i+1) l
def Zdt (s:ByteArray):Bool:=decide (1<=(s.size:Int))&&(decide ((s.size:Int)<=12)&&Zea true s.data.toList)
theorem Za7 (s:ByteArray):Zdt s=Vc s:=by
 unfold Zdt Vc
 have h1:(s==⟨#[]⟩)=decide (s.size=0):=by
  rw [Zcn,Sf]
  simp only [decide_eq_true_eq]
  constructor
  ·rintro rfl; rfl
  ·intro h0
   obtain ⟨d⟩:=s
   have:d = #[]:=by simpa [ByteArray.size] using h0
   rw [this]
 rw [h1]
 have h2:decide (1<=(s.size:Int)) = !decide (s.size=0):=by
  rw [Sf]; simp only [decide_eq_true_eq,Bool.not_eq_true',decide_eq_false_iff_not]; omega
 rw [h2]
 cases Zea true s.data.toList<;>cases decide (s.size=0)<;>simp
def Zpl (n:Int) (w:Wl):Int:=Qa Qb (Qa Qb (n+Qa Qb (w.fx*w.ty))-Qa Qb (w.tx*w.fy))
def Zmu (cs:List (Int × Int)):Int:=(wls cs).foldl Zpl 0
def Zs8 (p:Pt) (l:Ln):Bool :=
 ((decide (Qa Qb (l.y*p.d)<=p.y) && !decide (Qa Qb (Qa Qb (l.y+l.dy)*p.d)<=p.y))&&decide (0<l.beside p))||((!decide (Qa Qb (l.y*p.d)<=p.y)&&decide (Qa Qb (Qa Qb (l.y+l.dy)*p.d)<=p.y))&&decide (l.beside p<0))
def Zwb (p:Pt):Bool->List Ln->Bool
 | b,[]=>b
 | b,l::r=>if l.has p then false else Zwb p (b ^^ Zs8 p l) r
def lns (cs:List (Int × Int)):List Ln:=(Wc cs.length).map (lnOf cs)
def Ve (h:Hal) (p:Pt):Bool:=Zwb p false (lns h.cs)
def Zjn (cs:List (Int × Int)) (n:Int) (i k:Nat):Bool :=
 !((!decide ((k:Int)=Qa Qb ((i:Int)+1)) && !(decide ((i:Int)=0)&&decide ((k:Int)=Qa Qb (n-1))))&&(lnOf cs i).touch (lnOf cs k)) &&
 !((decide ((k:Int)=Qa Qb ((i:Int)+1))&&((lnOf cs k).has (lnOf cs i).a||(lnOf cs i).has (lnOf cs k).b))||((decide ((i:Int)=0)&&decide ((k:Int)=Qa Qb (n-1)))&&((lnOf cs k).has (lnOf cs i).b||(lnOf cs i).has (lnOf cs k).a)))
def Zyj (cs:List (Int × Int)) (n i k:Nat):Bool:=(Nq k (n-k)).all fun k=>Zjn cs n i k
def Zx2 (cs:List (Int × Int)) (n i:Nat):Bool:=(Nq i (n-i)).all fun i=>Zyj cs n i (i+1)
def Zjc (cs:List (Int × Int)):Bool:=Zx2 cs cs.length 0
noncomputable def famA {α:Type} (p:α->Prop) (g:α->List AV) (r:α->PRes) (a:List AV):Option PRes:=by
 classical exact if hx:∃ k,p k/\a=g k then some (r (Classical.choose hx)) else none
theorem Yr {α:Type} {p:α->Prop} {g:α->List AV} {r:α->PRes} {k:α} (hi:∀ j,g j=g k->r j=r k) (hk:p k):famA p g r (g k)=some (r k):=by
 classical
 unfold famA
 have hx:∃ j,p j/\g k=g j:=⟨k,hk,rfl⟩
 rw [dif_pos hx,hi _ (Nx hx).2.symm]
theorem Xs {f0:FuncId} {α:Type} {p:α->Prop} {g:α->List AV} {r:α->PRes} {pt:PC} (h0:∀ k,p k->PCall Tryz.prog f0 (g k) (r k)) (h:PCOK Tryz.prog pt):PCOK Tryz.prog (ins f0 (famA p g r) pt):=by
 classical
 refine Zj (fun a res hr=>?_) h
 unfold famA at hr
 split at hr
 ·rename_i hx
  obtain ⟨h1,h2⟩:=Nx hx
  cases hr
  have:=h0 _ h1
  rw [<-h2] at this
  exact this
 ·cases hr
noncomputable abbrev mats (h:Hal):List AV->Option PRes:=famA (fun _=>True) (fun s=>[h.av,.str s]) (fun s=>⟨I (Vb s 0 h.ms),[]⟩)
def Zam (h:Hal) (p:Pt):Bool:=(decide (0<p.z)&&decide (p.z<Qa Qb (h.ht*p.d)))&&Ve h p
def Zeb (l:Ln):Int:=if decide (l.dx=0)&&decide (l.dy=0) then 11 else if (!decide (l.dx=0) && !decide (l.dy=0)) && !decide (size l.dx=size l.dy) then 15 else 0
def Zmp (h:Hal) (i:Nat) (w:Wal):Int :=
 if Zdt w.nm then (if (h.ws.take i).any (fun v=>v.nm==w.nm) then 5 else if (w.nm==Za9)||(w.nm==Zff) then 5 else if decide (Vb w.mt 0 h.ms<0)||(!(w.cu==⟨#[]⟩)&&decide (Vb w.cu 0 h.ms<0)) then 6 else Zeb (lnOf h.cs i)) else 4
end Go.Proofs.YtohjcchcladneaaGreat
