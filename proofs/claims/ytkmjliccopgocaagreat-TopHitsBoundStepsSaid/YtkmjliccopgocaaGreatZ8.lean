/- A part of the proof: lemmas. -/
import Derived.Test.YtkmjliccopgocaaGreatZ3
import Derived.Test.YtkmjliccopgocaaGreatZ6
import Derived.IntWalk
import Derived.KernelRfl
import Derived.Test.YtkmjliccopgocaaGreatProg
import Derived.Test.YtkmjliccopgocaaGreatRows
set_option linter.unusedVariables false
set_option linter.unusedSimpArgs false
set_option maxRecDepth 100000
set_option maxHeartbeats 16000000
open Bool renaming and_eq_true->Qc
open Go.Extern.MathSqrt renaming sqrt->Jb
open Go.IntKind renaming i64->Qb,wrap->Qa
open Go.IntWalk renaming i64_in->Nf
open Go.Sx.Base renaming vcode->Tj
open Go.Sx.Bd renaming mk->Dg
open Go.Sx.Br renaming intro->Nt
open Go.Sx.Done renaming mk->Qr
open Go.Sx.Got renaming intro->Wq
open Go.Sx.LpM renaming start->Tx,succ->Rn
open Go.Sx.Ren renaming of->Ti
open Go.Sx.Rg renaming ren->Hw
open Int renaming not_lt->Ka,toNat_natCast->Sk
open List renaming drop_eq_getElem_cons->Qg,drop_of_length_le->Qj,getElem_mem->Qq,map_cons->Wb,range->Tq
open List.cons renaming injEq->Rl
open Nat renaming beq->Ql,blt->Tt,blt_eq->Sb,eq_of_beq_eq_true->Qf,le_refl->Qd,mod_lt->Pf,zero_le->Qk
open Option.some renaming injEq->Qe
namespace Go.Proofs.YtkmjliccopgocaaGreat
open Go Go.Sx
noncomputable def tbl:List (Nat × TI) :=
  [(2, ⟨.int .i64, 1, 8, false, [.int .i64 0]⟩),
   (3, ⟨.int .i64, 1, 8, false, [.int .i64 0]⟩),
   (4, ⟨.bool, 1, 1, false, [.bool false]⟩),
   (5, ⟨.int .u8, 1, 1, false, [.int .u8 0]⟩),
   (6, ⟨.int .u8, 1, 1, false, [.int .u8 0]⟩),
   (8, ⟨.struct #[⟨ "x", 2, 0, false, "", "runtime", 0⟩, ⟨ "y", 3, 1, false, "", "runtime", 8⟩, ⟨ "signed", 4, 2, false, "", "runtime", 16⟩, ⟨ "code", 6, 3, false, "", "runtime", 17⟩], 4, 24, true, [.int .i64 0, .int .i64 0, .bool false, .int .u8 0]⟩),
   (9, ⟨.string, 1, 16, false, [.str ⟨#[]⟩]⟩),
   (10, ⟨.string, 1, 16, false, [.str ⟨#[]⟩]⟩),
   (11, ⟨.string, 1, 16, false, [.str ⟨#[]⟩]⟩),
   (12, ⟨.int .u64, 1, 8, false, [.int .u64 0]⟩),
   (14, ⟨.struct #[⟨ "msg", 9, 0, false, "", "runtime", 0⟩, ⟨ "addr", 12, 1, false, "", "runtime", 16⟩], 2, 24, true, [.str ⟨#[]⟩, .int .u64 0]⟩),
   (15, ⟨.pointer 200, 1, 8, false, [.nilp]⟩),
   (16, ⟨.pointer 203, 1, 8, false, [.nilp]⟩),
   (17, ⟨.pointer 212, 1, 8, false, [.nilp]⟩),
   (19, ⟨.struct #[⟨ "typ", 17, 0, false, "", "internal/runtime/maps", 0⟩], 1, 8, true, [.nilp]⟩),
   (22, ⟨.slice 44, 1, 24, false, [.nils]⟩),
   (23, ⟨.slice 70, 1, 24, false, [.nils]⟩),
   (24, ⟨.slice 68, 1, 24, false, [.nils]⟩),
   (25, ⟨.slice 72, 1, 24, false, [.nils]⟩),
   (26, ⟨.slice 76, 1, 24, false, [.nils]⟩),
   (28, ⟨.struct #[⟨ "Name", 9, 0, false, "", "", 0⟩, ⟨ "Height", 3, 1, false, "", "", 16⟩, ⟨ "Floor", 9, 2, false, "", "", 24⟩, ⟨ "Ceiling", 9, 3, false, "", "", 40⟩, ⟨ "Materials", 22, 4, false, "", "", 56⟩, ⟨ "Corners", 23, 5, false, "", "", 80⟩, ⟨ "Walls", 24, 6, false, "", "", 104⟩, ⟨ "Canopies", 25, 7, false, "", "", 128⟩, ⟨ "Seats", 26, 8, false, "", "", 152⟩], 9, 176, true, [.str ⟨#[]⟩, .int .i64 0, .str ⟨#[]⟩, .str ⟨#[]⟩, .nils, .nils, .nils, .nils, .nils]⟩),
   (29, ⟨.slice 30, 1, 24, false, [.nils]⟩),
   (30, ⟨.slice 3, 1, 24, false, [.nils]⟩),
   (32, ⟨.struct #[⟨ "Shares", 29, 0, false, "", "", 0⟩, ⟨ "Lost", 30, 1, false, "", "", 24⟩], 2, 48, true, [.nils, .nils]⟩),
   (42, ⟨.array 4 3, 4, 32, true, [.int .i64 0, .int .i64 0, .int .i64 0, .int .i64 0]⟩),
   (44, ⟨.struct #[⟨ "Name", 9, 0, false, "", "", 0⟩, ⟨ "Absorbed", 42, 1, false, "", "", 16⟩, ⟨ "Scattered", 3, 5, false, "", "", 48⟩], 6, 56, true, [.str ⟨#[]⟩, .int .i64 0, .int .i64 0, .int .i64 0, .int .i64 0, .int .i64 0]⟩),
   (46, ⟨.struct #[⟨ "Heights", 30, 0, false, "", "", 0⟩, ⟨ "Drawn", 30, 1, false, "", "", 24⟩], 2, 48, true, [.nils, .nils]⟩),
   (48, ⟨.struct #[⟨ "Lo", 3, 0, false, "", "", 0⟩, ⟨ "Hi", 3, 1, false, "", "", 8⟩], 2, 16, true, [.int .i64 0, .int .i64 0]⟩),
   (49, ⟨.int .i64, 1, 8, false, [.int .i64 0]⟩),
   (53, ⟨.struct #[⟨ "Band", 3, 0, false, "", "", 0⟩, ⟨ "Air", 3, 1, false, "", "", 8⟩, ⟨ "Speed", 3, 2, false, "", "", 16⟩], 3, 24, true, [.int .i64 0, .int .i64 0, .int .i64 0]⟩),
   (64, ⟨.slice 103, 1, 24, false, [.nils]⟩),
   (68, ⟨.struct #[⟨ "Name", 9, 0, false, "", "", 0⟩, ⟨ "Material", 9, 1, false, "", "", 16⟩, ⟨ "Curtain", 9, 2, false, "", "", 32⟩], 3, 48, true, [.str ⟨#[]⟩, .str ⟨#[]⟩, .str ⟨#[]⟩]⟩),
   (70, ⟨.struct #[⟨ "X", 3, 0, false, "", "", 0⟩, ⟨ "Y", 3, 1, false, "", "", 8⟩], 2, 16, true, [.int .i64 0, .int .i64 0]⟩),
   (72, ⟨.struct #[⟨ "Name", 9, 0, false, "", "", 0⟩, ⟨ "Material", 9, 1, false, "", "", 16⟩, ⟨ "From", 70, 2, false, "", "", 32⟩, ⟨ "To", 70, 4, false, "", "", 48⟩, ⟨ "Heights", 30, 6, false, "", "", 64⟩], 7, 88, true, [.str ⟨#[]⟩, .str ⟨#[]⟩, .int .i64 0, .int .i64 0, .int .i64 0, .int .i64 0, .nils]⟩),
   (74, ⟨.struct #[⟨ "X", 3, 0, false, "", "", 0⟩, ⟨ "Y", 3, 1, false, "", "", 8⟩, ⟨ "Z", 3, 2, false, "", "", 16⟩], 3, 24, true, [.int .i64 0, .int .i64 0, .int .i64 0]⟩),
   (76, ⟨.struct #[⟨ "Name", 9, 0, false, "", "", 0⟩, ⟨ "At", 74, 1, false, "", "", 16⟩], 4, 40, true, [.str ⟨#[]⟩, .int .i64 0, .int .i64 0, .int .i64 0]⟩),
   (78, ⟨.struct #[⟨ "List", 3, 0, false, "", "", 0⟩, ⟨ "Number", 3, 1, false, "", "", 8⟩], 2, 16, true, [.int .i64 0, .int .i64 0]⟩),
   (84, ⟨.struct #[⟨ "EnergyAir", 53, 0, true, "", "", 0⟩], 3, 24, true, [.int .i64 0, .int .i64 0, .int .i64 0]⟩),
   (86, ⟨.struct #[⟨ "Range", 48, 0, true, "", "", 0⟩], 2, 16, true, [.int .i64 0, .int .i64 0]⟩),
   (88, ⟨.struct #[⟨ "hall", 28, 0, false, "", "shoebox/energy", 0⟩, ⟨ "setting", 46, 9, false, "", "shoebox/energy", 176⟩], 11, 224, true, [.str ⟨#[]⟩, .int .i64 0, .str ⟨#[]⟩, .str ⟨#[]⟩, .nils, .nils, .nils, .nils, .nils, .nils, .nils]⟩),
   (91, ⟨.func #[3, 3] #[3] false, 1, 8, false, [.any]⟩),
   (93, ⟨.struct #[⟨ "EnergyExchange", 32, 0, true, "", "", 0⟩], 2, 48, true, [.nils, .nils]⟩),
   (100, ⟨.func #[3] #[49] false, 1, 8, false, [.any]⟩),
   (103, ⟨.struct #[⟨ "Surfaces", 30, 0, false, "", "", 0⟩, ⟨ "Delay", 48, 1, false, "", "", 24⟩, ⟨ "Energy", 48, 3, false, "", "", 40⟩], 5, 56, true, [.nils, .int .i64 0, .int .i64 0, .int .i64 0, .int .i64 0]⟩),
   (107, ⟨.func #[3] #[4] false, 1, 8, false, [.any]⟩),
   (111, ⟨.func #[] #[49] false, 1, 8, false, [.any]⟩),
   (118, ⟨.int .u64, 1, 8, false, [.int .u64 0]⟩),
   (124, ⟨.struct #[⟨ "X", 3, 0, false, "", "", 0⟩, ⟨ "Y", 3, 1, false, "", "", 8⟩, ⟨ "DX", 3, 2, false, "", "", 16⟩, ⟨ "DY", 3, 3, false, "", "", 24⟩], 4, 32, true, [.int .i64 0, .int .i64 0, .int .i64 0, .int .i64 0]⟩),
   (129, ⟨.struct #[⟨ "X", 3, 0, false, "", "", 0⟩, ⟨ "Y", 3, 1, false, "", "", 8⟩, ⟨ "Z", 3, 2, false, "", "", 16⟩, ⟨ "Den", 3, 3, false, "", "", 24⟩], 4, 32, true, [.int .i64 0, .int .i64 0, .int .i64 0, .int .i64 0]⟩),
   (133, ⟨.array 4 124, 16, 128, true, [.int .i64 0, .int .i64 0, .int .i64 0, .int .i64 0, .int .i64 0, .int .i64 0, .int .i64 0, .int .i64 0, .int .i64 0, .int .i64 0, .int .i64 0, .int .i64 0, .int .i64 0, .int .i64 0, .int .i64 0, .int .i64 0]⟩),
   (139, ⟨.slice 111, 1, 24, false, [.nils]⟩),
   (141, ⟨.struct #[⟨ "Hall", 28, 0, true, "", "", 0⟩], 9, 176, true, [.str ⟨#[]⟩, .int .i64 0, .str ⟨#[]⟩, .str ⟨#[]⟩, .nils, .nils, .nils, .nils, .nils]⟩),
   (146, ⟨.struct #[⟨ "room", 141, 0, true, "", "shoebox/hall", 0⟩, ⟨ "HallSetting", 46, 9, true, "", "", 176⟩], 11, 224, true, [.str ⟨#[]⟩, .int .i64 0, .str ⟨#[]⟩, .str ⟨#[]⟩, .nils, .nils, .nils, .nils, .nils, .nils, .nils]⟩),
   (154, ⟨.func #[86, 3] #[4] false, 1, 8, false, [.any]⟩),
   (155, ⟨.slice 9, 1, 24, false, [.nils]⟩),
   (166, ⟨.struct #[⟨ "x", 48, 0, false, "", "shoebox/hall", 0⟩, ⟨ "y", 48, 2, false, "", "shoebox/hall", 16⟩], 4, 32, true, [.int .i64 0, .int .i64 0, .int .i64 0, .int .i64 0]⟩),
   (169, ⟨.struct #[⟨ "number", 3, 0, false, "", "shoebox/hall", 0⟩, ⟨ "from", 70, 1, false, "", "shoebox/hall", 8⟩, ⟨ "to", 70, 3, false, "", "shoebox/hall", 24⟩], 5, 40, true, [.int .i64 0, .int .i64 0, .int .i64 0, .int .i64 0, .int .i64 0]⟩),
   (174, ⟨.func #[44] #[4] false, 1, 8, false, [.any]⟩),
   (179, ⟨.map 9 4, 1, 8, false, [.any]⟩),
   (180, ⟨.func #[] #[3, 49] false, 1, 8, false, [.any]⟩),
   (182, ⟨.struct #[⟨ "list", 3, 0, false, "", "shoebox/hall", 0⟩, ⟨ "check", 180, 1, false, "", "shoebox/hall", 8⟩], 2, 16, true, [.int .i64 0, .any]⟩),
   (189, ⟨.array 15 182, 30, 240, true, [.int .i64 0, .any, .int .i64 0, .any, .int .i64 0, .any, .int .i64 0, .any, .int .i64 0, .any, .int .i64 0, .any, .int .i64 0, .any, .int .i64 0, .any, .int .i64 0, .any, .int .i64 0, .any, .int .i64 0, .any, .int .i64 0, .any, .int .i64 0, .any, .int .i64 0, .any, .int .i64 0, .any]⟩),
   (191, ⟨.float .f64, 1, 8, false, [.flt .f64 0]⟩),
   (193, ⟨.slice 5, 1, 24, false, [.nils]⟩),
   (195, ⟨.func #[169] #[4] false, 1, 8, false, [.any]⟩),
   (206, ⟨.int .u8, 1, 1, false, [.int .u8 0]⟩)]
def eqs:List Nat:=[48,70]
theorem Ybv:(tbl.map fun p=>mkTI Tryz.prog p.1)=tbl.map fun p=>some p.2:=by kernel_rfl
theorem Zxt:TabOK Tryz.prog (tget tbl):=Zuo Ybv
theorem Ych:(eqs.all fun t=>!Tryz.prog.stoodInHeld t && !Tryz.prog.eqGuardType Tryz.prog.depth t)=true:=by kernel_rfl
theorem eqOK:EqOK Tryz.prog (memN eqs):=Zy5 Ych
abbrev I (n:Int):AV:=.int .i64 n
def pt0:PC:=fun _ _=>none
theorem Zf:PCOK Tryz.prog pt0:=fun _ _ _ h=>by cases h
theorem mixed:Tryz.prog.follows .mixedOrders=true:=by kernel_rfl
noncomputable def bs:Base Tryz.prog:=⟨tget tbl,memN eqs,Zxt,eqOK,mixed⟩
def nos:FuncId->Bool:=fun _=>false
def sgn (n:Int):Int:=if n>0 then 1 else if n<0 then -1 else 0
theorem c115 (n:Int):PCall Tryz.prog 160 [I n] ⟨I (sgn n),[]⟩:=by
 refine bs.pcall (sx:=nos) Zf Tryz.func160 (by kernel_rfl) (by kernel_rfl) rfl ?_
 refine Nt (fun h1=>?_) (fun h1=>?_)
 ·exact Zbg (by simp at h1; simp [sgn,h1])
 ·refine Nt (fun h2=>?_) (fun h2=>?_)
  ·exact Zbg (by simp at h1 h2; simp [sgn,h2,Ka.2 h1])
  ·exact Zbg (by simp at h1 h2; simp [sgn,Ka.2 h2,Ka.2 h1])
theorem c145 {nm ht fl ce ms wa ca se:AV} {es:List (List AV)} {i:Nat} {x y u v:Int} (hn:es.length<1000) (h1:es[i]?=some [I x,I y]) (h2:es[(i+1)%es.length]?=some [I u,I v]) :
  PCall Tryz.prog 99 [.agg [nm,ht,fl,ce,ms,.isl 2 es,wa,ca,se],I i] ⟨.agg [I i,I x,I y,I u,I v],[]⟩:=by
 have hi:i<es.length:=(List.getElem?_eq_some_iff.1 h1).1
 have hw:Qa Qb ((i:Int)+1)=((i+1:Nat):Int):=Nf _ ⟨by omega,by omega⟩
 have hm:(Qa Qb ((i:Int)+1)).tmod (es.length:Int)=(((i+1)%es.length:Nat):Int):=by rw [hw]; rfl
 refine bs.pcall (sx:=nos) Zf Tryz.func99 (by kernel_rfl) (by kernel_rfl) rfl ?_
 refine Wq h1 ?_
 have hp:0<es.length:=by omega
 refine As.np (by omega) ?_
 refine As.p (by rw [hm]; exact Int.natCast_nonneg _) ?_
 refine Wq (x:=[I u,I v]) (by rw [hm]; exact h2) ?_
 refine Dr.intro (by kernel_rfl) ?_
 refine Wq rfl ?_
 exact Zaz rfl rfl
abbrev pt (p:Int × Int):List AV:=[I p.1,I p.2]
def cor (ps:List (Int × Int)) (i:Nat):Int × Int:=ps.getD i (0,0)
def Zuk (ps:List (Int × Int)) (i:Nat):AV:=.agg [I i,I (cor ps i).1,I (cor ps i).2,I (cor ps ((i+1)%ps.length)).1,I (cor ps ((i+1)%ps.length)).2]
def Zcx (ps:List (Int × Int)):List (List AV):=(Tq ps.length).map fun i=>[Zuk ps i]
theorem Zdb {ps:List (Int × Int)} {i:Nat} (h:i<ps.length):(ps.map pt)[i]?=some [I (cor ps i).1,I (cor ps i).2]:=by
 simp [cor,h]
def r145:List AV->Option PRes
 | [.agg [_,_,_,_,_,.isl 2 es,_,_,_],.int .i64 (.ofNat i)]=>match es[i]?,es[(i+1)%es.length]? with
  | some [.int .i64 x,.int .i64 y],some [.int .i64 u,.int .i64 v]=>cond (Tt es.length 1000) (some ⟨.agg [I i,I x,I y,I u,I v],[]⟩) none
  | _,_=>none
 | _=>none
def pcW:PC:=fun f a=>cond (Ql f 99) (r145 a) none
theorem Zwu:PCOK Tryz.prog pcW:=by
 intro f a res h
 unfold pcW at h
 cases hb:Ql f 99 with
 | false=>rw [hb] at h; cases h
 | true =>
  rw [hb] at h
  rw [Qf hb]
  simp only [cond_true] at h
  unfold r145 at h
  split at h
  ·split at h
   ·rename_i h1 h2
    obtain ⟨h3,h4⟩:=Za h
    cases h4
    exact c145 (by simpa [Sb] using h3) h1 h2
   ·cases h
  ·cases h
theorem Yar {nm ht fl ce ms wa ca se:AV} {ps:List (Int × Int)} (hp:Yd [nm,ht,fl,ce,ms,wa,ca,se]=true) (hn:ps.length<1000) :
  ItOK Tryz.prog 146 [.agg [nm,ht,fl,ce,ms,.isl 2 (ps.map pt),wa,ca,se]] [] (Zcx ps):=by
 refine bs.iter Zwu Tryz.func146 (by kernel_rfl) rfl (by kernel_rfl) fun B Ig l JX hI=>?_
 refine Zsr (S:=Nat) (fun k=>ps.length-k) (fun k=>[(1,.yld l),(2,.ptr 0 0 0),(8,I ps.length),(9,I k)]) (fun _=>⟨[(0,.row 9 [[nm,ht,fl,ce,ms,.isl 2 (ps.map pt),wa,ca,se]] true false)],1⟩) (fun k=>some ((Zcx ps).drop k)) [1,2,8,9] [0] (fun k=>k<=ps.length) ?_ 0 (Qk _) ?_ rfl rfl
 ·intro k hk
  refine bs.awpi Zwu hI ?_
  refine Br.dec (fun hlt=>?_) (fun hge=>?_)
  ·have hlt:k<ps.length:=by omega
   have hx:(Zcx ps).drop k=[Zuk ps k]::(Zcx ps).drop (k+1):=by
    rw [Qg (by simp [Zcx,hlt])]; simp [Zcx]
   rw [hx]
   have hpu:Yd [.agg [nm,ht,fl,ce,ms,.isl 2 (ps.map pt),wa,ca,se],I k]=true:=by
    simp only [Yd,Zp,Qc,Bool.and_true] at hp ⊢; simp [hp]
   have hr:r145 [.agg [nm,ht,fl,ce,ms,.isl 2 (ps.map pt),wa,ca,se],I k]=some ⟨Zuk ps k,[]⟩:=by
    have e1:=Zdb hlt
    have e2:=Zdb (ps:=ps) (i:=(k+1)%ps.length) (Pf _ (by omega))
    have hl:(ps.map pt).length=ps.length:=by simp
    show (match (ps.map pt)[k]?,(ps.map pt)[(k+1)%(ps.map pt).length]? with
     | some [.int .i64 x,.int .i64 y],some [.int .i64 u,.int .i64 v]=>cond (Tt (ps.map pt).length 1000) (some (PRes.mk (.agg [I k,I x,I y,I u,I v]) [])) none
     | _,_=>none)=_
    rw [hl,e1,e2]
    have:Tt ps.length 1000=true:=by simpa [Sb] using hn
    simp only [this]; rfl
   refine Wq (Zpm _ hpu) ?_
   refine Wq hr ?_
   refine ⟨rfl,rfl,rfl,rfl,?_,?_⟩
   ·refine ⟨k+1,by omega,by omega,?_,rfl,rfl⟩
    have hw:Qa Qb ((k:Int)+1)=((k+1:Nat):Int):=Nf _ ⟨by omega,by omega⟩
    exact congrArg (fun x=>[(1,AV.yld l),(2,.ptr 0 0 0),(8,I ps.length),(9,I x)]) hw
   ·refine ⟨.inr rfl,.inr rfl,?_⟩
    exact ⟨[],rfl⟩
  ·have:k=ps.length:=by omega
   subst this
   refine ⟨.inl rfl,.inl ?_,[],rfl⟩
   simp [Zcx]
 ·exact congrArg (fun x:Nat=>[(1,AV.yld l),(2,.ptr 0 0 0),(8,I x),(9,I 0)]) (by simp)
def hd1 (e:List AV):AV:=e.headD .any
theorem Zi0 {P:Program} {F:Fence} {n:Nat} {ops:Array Oper} {Q:Exit->Act->World->Prop} {o:Oper} {rest:List Oper} {a:Act} {w:World} (hg:o.guard=none) (h:o.wpIn F n P a w (wpListIn F n P ops Q rest) Q):wpListIn F n P ops Q (o::rest) a w:=by
 unfold wpListIn
 rw [if_pos (by simp [Region.wanted,hg])]
 exact h
theorem c202 {x y:Nat} (h:FloatKind.f64.format.sqrt x=some y):PCall Tryz.prog 147 [.flt .f64 x] ⟨.flt .f64 y,[]⟩:=by
 refine Zb8 (FnOK.of Tryz.func147 (by kernel_rfl) (by kernel_rfl)) rfl (Zo8 bs.hT Tryz.func147 (c:=_) rfl (Nat.le_of_ble_eq_true (by kernel_rfl)) ?_)
 refine Znq (bs.awp (sx:=nos) Zf ?_)
 refine Znq ?_
 intro F B w0 I0 pr r I D a w hF hR S
 refine wpIn_region_list ?_
 refine Zi0 rfl ?_
 refine Zem (Ziv (sx:=nos) bs.hT bs.hok Zf) hF _ (fun c e=>by cases e) S (K:=fun env σ=>env=[(3,.flt .f64 x),(2,.flt .f64 0),(0,.flt .f64 x)]/\σ=⟨[],0⟩) ⟨rfl,rfl⟩ (fun a1 w1 hl=>?_)
 obtain ⟨env1,σ1,r1,I1,D1,⟨rfl,rfl⟩,S1,hd1,st1⟩:=hl
 refine Zi0 rfl ?_
 refine Zz4 hF _ S1 (K:=fun env σ=>env=[(4,.flt .f64 y),(3,.flt .f64 x),(2,.flt .f64 0),(0,.flt .f64 x)]/\σ=⟨[],0⟩) rfl rfl Tryz.func155 (by kernel_rfl) (by kernel_rfl) (by kernel_rfl) (e:=Jb) (by kernel_rfl) (v:=.flt .f64 y) (fun vs hv=>?_) ⟨rfl,rfl⟩ (fun a2 w2 hl=>?_)
 ·have e0:vs.size=1:=hv.1
  have hx:=hv.2 0 (.flt .f64 x) vs[0] rfl (by simp [e0])
  have e1:vs = #[.float .f64 x]:=by
   apply Array.ext
   ·simpa using e0
   ·intro i h1 h2
    have:i=0:=by simp at h2; omega
    subst this
    generalize vs[0]=z at hx
    cases hx; rfl
  subst e1
  have e2:Jb #[.float .f64 x]=(match FloatKind.f64.format.sqrt x with
   | some r=>pure (.float .f64 r)
   | none=>do pure (.float .f64 (<-choose (.nanBits .f64 x x)))):=rfl
  exact ⟨.float .f64 y,by rw [e2,h]; rfl,.flt _ _ _⟩
 obtain ⟨env2,σ2,r2,I2,D2,⟨rfl,rfl⟩,S2,hd2,st2⟩:=hl
 refine Zi0 rfl ?_
 refine Zem (Ziv (sx:=nos) bs.hT bs.hok Zf) hF _ (fun c e=>by cases e) S2 (K:=fun env σ=>env=[(2,.flt .f64 y),(4,.flt .f64 y),(3,.flt .f64 x),(2,.flt .f64 0),(0,.flt .f64 x)]/\σ=⟨[],0⟩) ⟨rfl,rfl⟩ (fun a3 w3 hl=>?_)
 obtain ⟨env3,σ3,r3,I3,D3,⟨rfl,rfl⟩,S3,hd3,st3⟩:=hl
 have st:=(st1.trans st2).trans st3
 refine ⟨pr,[],_,_,r3,I3,D3,fun _ _ h=>h,fun d hd=>by simp at hd,.nil,by rw [hd3,hd2,hd1]; rfl,?_,S3,st,st.size⟩
 refine Zt2 ?_
 exact Wq rfl (Zaz rfl rfl)
def Zgs:List (List AV)->Option (List (Int × Int))
 | []=>some []
 | [.int .i64 x,.int .i64 y]::l=>match Zgs l with
  | some ps=>some ((x,y)::ps)
  | none=>none
 | _=>none
theorem Zpv:∀ {es:List (List AV)} {ps:List (Int × Int)},Zgs es=some ps->es=ps.map pt:=by
 intro es
 induction es with
 | nil=>intro ps h; simp only [Zgs,Qe] at h; subst h; rfl
 | cons e l ih =>
  intro ps h
  unfold Zgs at h
  split at h
  ·rename_i h0; cases h0
  ·rename_i x y l' h0
   cases h0
   split at h
   ·rename_i qs hq
    cases h
    rw [ih hq]; rfl
   ·cases h
  ·cases h
def Zwn (c0 c1:List AV):Option (List (List AV)):=match c0,c1 with
 | [.agg [nm,ht,fl,ce,ms,.isl 2 es,wa,ca,se]],[]=>match Zgs es with
  | some ps=>cond (Yd [nm,ht,fl,ce,ms,wa,ca,se]&&Tt ps.length 1000) (some (Zcx ps)) none
  | none=>none
 | _,_=>none
def itT:ITab:=fun g c0 c1=>cond (Ql g 146) (Zwn c0 c1) none
theorem Yaq:∀ g c0 c1 xs,itT g c0 c1=some xs->ItOK Tryz.prog g c0 c1 xs:=by
 intro g c0 c1 xs h
 unfold itT at h
 obtain ⟨h1,h⟩:=Za h
 rw [Qf h1]
 unfold Zwn at h
 split at h
 ·split at h
  ·rename_i ps hps
   obtain ⟨h2,h⟩:=Za h
   cases h
   simp only [Qc,Sb] at h2
   rw [Zpv hps]
   exact Yar h2.1 h2.2
  ·cases h
 ·cases h
noncomputable def exT (xs:List Nat) (pt:PC):CF:=exG Tryz.prog (tget tbl) (memN eqs) itT (memN xs) pt 1000 40
theorem Ya6 {xs:List Nat} {pt:PC} (hpt:PCOK Tryz.prog pt):CFOK Tryz.prog (exT xs pt):=Zlv Zxt eqOK Yaq mixed hpt 40
def isR (v0:AV):Option PRes->Bool
 | some ⟨v,[]⟩=>eqA v v0
 | _=>false
theorem Yas {v0:AV} {o:Option PRes} (h:isR v0 o=true):o=some ⟨v0,[]⟩:=by
 unfold isR at h
 split at h
 ·rw [Zxc _ _ h]
 ·cases h
theorem Zuz {xs:List Nat} {pt:PC} (hpt:PCOK Tryz.prog pt) {f:FuncId} {a:List AV} {v:AV} (h:isR v (pcF (exT xs pt) f a)=true):PCall Tryz.prog f a ⟨v,[]⟩:=Zu3 (Ya6 hpt) (Yas h)
abbrev S (l:List UInt8):AV:=.str ⟨⟨l⟩⟩
theorem own:ownKnob Tryz.prog.godebug=none:=by kernel_rfl
theorem Zyk:laidOutB Tryz.prog=true:=by kernel_rfl
theorem Ycf:laidOutB Tryz.checked.prog=true:=by kernel_rfl
theorem Ycd:mapsRowed Tryz.checked.prog=true:=by kernel_rfl
theorem Ya1:Tryz.checked.prog.plainKeys=Rows.topHitsBoundStepsRow.plainKeys:=by kernel_rfl
theorem Ya4:Tryz.checked.prog.stopsHeard=true:=by kernel_rfl
theorem fMay:Tryz.checked.prog.mayEnter=true:=by kernel_rfl
theorem Ya2:Tryz.checked.prog.liftsFinal=Rows.topHitsBoundStepsRow.lifted:=by kernel_rfl
theorem Yce:Tryz.checked.prog.make=some Rows.topHitsBoundStepsRow.make:=by kernel_rfl
def tysU:List TypeId:=[28,32,30,29,22,23,24,25,26,44,70,68,72,76,42,74,9,3]
theorem Zzo:tysU.all (Zgc (tget tbl) tysU)=true:=by kernel_rfl
theorem pn {pc:PC} (hpc:PCOK Tryz.prog pc) {f:FuncId} {fn:Func} (hf:Tryz.prog.funcs[f]?=some fn) {args:List AV} {res:PRes} (hv:Zf7 (cxV Tryz.prog bs.T bs.ok nos pc) (hdV Tryz.prog bs.T bs.ok nos pc) fn args ⟨[],0⟩ (fun v σ=>fA v fun v=>Ret res v σ)) (h1:(fn.name == "runtime.NumGoroutine")=false:=by kernel_rfl) (h2:fn.body.isNone=false:=by kernel_rfl) (hids:Xu res.blks.length res.v=true:=by rfl):PCall Tryz.prog f args res:=bs.pv (sx:=nos) hpc hf h1 h2 hids hv
def ins (f0:FuncId) (r:List AV->Option PRes) (pt:PC):PC:=fun f a=>cond (Ql f f0) (r a) (pt f a)
theorem Zj {f0:FuncId} {r:List AV->Option PRes} {pt:PC} (h0:∀ a res,r a=some res->PCall Tryz.prog f0 a res) (h:PCOK Tryz.prog pt):PCOK Tryz.prog (ins f0 r pt):=by
 intro f a res hr
 unfold ins at hr
 cases hb:Ql f f0 with
 | true=>rw [hb] at hr; rw [Qf hb]; exact h0 a res hr
 | false=>rw [hb] at hr; exact h f a res hr
abbrev Bo (b:Bool):AV:=.bool b
abbrev P2 (x y:Int):AV:=.agg [I x,I y]
abbrev P3 (x y z:Int):AV:=.agg [I x,I y,I z]
abbrev P4 (x y z d:Int):AV:=.agg [I x,I y,I z,I d]
def within (n lo hi:Int):Bool:=decide (lo<=n)&&decide (n<=hi)
theorem c78 (n lo hi:Int):PCall Tryz.prog 76 [I n,I lo,I hi] ⟨Bo (within n lo hi),[]⟩:=by
 refine bs.pcall (sx:=nos) Zf Tryz.func76 (by kernel_rfl) (by kernel_rfl) rfl ?_
 refine Nt (fun h=>?_) (fun h=>?_)
 ·exact Xz (by simp [within,h])
 ·exact Xz (by simp [within,h])
theorem c30 (n lo hi:Int):PCall Tryz.prog 7 [I n,I lo,I hi] ⟨Bo (within n lo hi),[]⟩:=by
 refine bs.pcall (sx:=nos) Zf Tryz.func7 (by kernel_rfl) (by kernel_rfl) rfl ?_
 refine Nt (fun h=>?_) (fun h=>?_)
 ·exact Xz (by simp [within,h])
 ·exact Xz (by simp [within,h])
def r78:List AV->Option PRes
 | [.int .i64 n,.int .i64 lo,.int .i64 hi]=>some ⟨Bo (within n lo hi),[]⟩
 | _=>none
def k78:PC:=ins 7 r78 (ins 76 r78 pt0)
theorem Zsh:PCOK Tryz.prog k78:=Zj (fun a res h=>by unfold r78 at h; split at h<;>cases h; exact c30 _ _ _) (Zj (fun a res h=>by unfold r78 at h; split at h<;>cases h; exact c78 _ _ _) Zf)
def small (n most:Int):Bool:=within n (Qa Qb (0-most)) most
theorem c92 (n m:Int):PCall Tryz.prog 148 [I n,I m] ⟨Bo (small n m),[]⟩:=by
 refine bs.pcall (sx:=nos) Zsh Tryz.func148 (by kernel_rfl) (by kernel_rfl) rfl ?_
 exact Wq rfl (Xz rfl)
def r92:List AV->Option PRes
 | [.int .i64 n,.int .i64 m]=>some ⟨Bo (small n m),[]⟩
 | _=>none
def k92:PC:=ins 148 r92 k78
theorem Yap:PCOK Tryz.prog k92:=Zj (fun a res h=>by unfold r92 at h; split at h<;>cases h; exact c92 _ _) Zsh
abbrev k93:PC:=k92
theorem Zc5:PCOK Tryz.prog k93:=Yap
abbrev k96:PC:=k93
theorem Yao:PCOK Tryz.prog k96:=Zc5
theorem c36 (x y z:Int):PCall Tryz.prog 72 [P3 x y z] ⟨P4 x y z 1,[]⟩:=by
 refine pn Yao Tryz.func72 ?_
 repeat' ((conv=>whnf); (fail_if_success with_reducible refine Ret.mk ?_); first|with_reducible refine And.intro (by kernel_rfl) ?_|refine Nt (fun _=>?_) (fun _=>?_))
 all_goals exact Zd rfl rfl
theorem W_eq {n:Int} (h1 : -9223372036854775808<=n) (h2:n<=9223372036854775807):Qa Qb n=n:=Nf _ ⟨h1,by omega⟩
theorem within_iff {n lo hi:Int}:within n lo hi=true↔lo<=n/\n<=hi:=by simp [within]
def nl (ns:List Int):List (List AV):=ns.map fun n=>[I n]
theorem Ze (ns:List Int):(nl ns).length=ns.length:=by simp [nl]
theorem Yz {ns:List Int} {k:Nat} (h:k<ns.length):(nl ns)[((k:Nat):Int).toNat]?=some [I ns[k]]:=by simp [nl,h]
theorem Zg {k:Nat} (h:k<9000000000):Qa Qb ((k:Int)+1)=((k+1:Nat):Int):=W_eq (by omega) (by omega)
def hasN (ns:List Int) (n:Int):Bool:=ns.any fun m=>decide (m=n)
theorem Zsz (m:Int) (ns:List Int) (n:Int):hasN (m::ns) n=(decide (m=n)||hasN ns n):=rfl
def size (n:Int):Int:=imax n (Qa Qb (0-n))
theorem c116 (n:Int):PCall Tryz.prog 149 [I n] ⟨I (size n),[]⟩:=by
 refine pn Zf Tryz.func149 ?_
 repeat'(first|refine wk0 ?_|(refine wk2 ?_ ?_<;>intro _)|fail)
 all_goals exact Zb rfl
structure Wl where
 n:Int
 fx:Int
 fy:Int
 tx:Int
 ty:Int
abbrev Wl.av (w:Wl):AV:=.agg [I w.n,I w.fx,I w.fy,I w.tx,I w.ty]
def Wl.dx (w:Wl):Int:=Qa Qb (w.tx-w.fx)
def Wl.dy (w:Wl):Int:=Qa Qb (w.ty-w.fy)
theorem c174 (w:Wl):PCall Tryz.prog 100 [w.av] ⟨.tup [I w.dx,I w.dy],[]⟩:=by
 refine pn Zf Tryz.func100 ?_
 repeat'(first|refine wk0 ?_|(refine wk2 ?_ ?_<;>intro _)|fail)
 all_goals exact Zd rfl rfl
def r115:List AV->Option PRes
 | [.int .i64 n]=>some ⟨I (sgn n),[]⟩
 | _=>none
def r116:List AV->Option PRes
 | [.int .i64 n]=>some ⟨I (size n),[]⟩
 | _=>none
def r174:List AV->Option PRes
 | [.agg [.int .i64 n,.int .i64 fx,.int .i64 fy,.int .i64 tx,.int .i64 ty]]=>some ⟨.tup [I (Wl.dx ⟨n,fx,fy,tx,ty⟩),I (Wl.dy ⟨n,fx,fy,tx,ty⟩)],[]⟩
 | _=>none
def kG1:PC:=ins 160 r115 (ins 149 r116 (ins 100 r174 k93))
theorem Zsg:PCOK Tryz.prog kG1:=by
 refine Zj (fun a res h=>?_) (Zj (fun a res h=>?_) (Zj (fun a res h=>?_) Zc5))
 ·unfold r115 at h; split at h<;>cases h; exact c115 _
 ·unfold r116 at h; split at h<;>cases h; exact c116 _
 ·unfold r174 at h; split at h<;>cases h; exact c174 ⟨_,_,_,_,_⟩
def Wl.straight (w:Wl):Bool:=decide (w.dx=0)||decide (w.dy=0)||decide (size w.dx=size w.dy)
theorem c146 (w:Wl):PCall Tryz.prog 131 [w.av] ⟨Bo w.straight,[]⟩:=by
 refine pn Zsg Tryz.func131 ?_
 repeat'(first|refine wk0 ?_|(refine wk2 ?_ ?_<;>intro _)|fail)
 all_goals exact Zc (by simp_all [Wl.straight]<;>omega)
def Wl.side (w:Wl) (x y d:Int):Int:=sgn (Qa Qb (Qa Qb (w.dx*Qa Qb (y-Qa Qb (w.fy*d)))-Qa Qb (w.dy*Qa Qb (x-Qa Qb (w.fx*d)))))
theorem c206 (w:Wl) (x y d:Int):PCall Tryz.prog 156 [w.av,I x,I y,I d] ⟨I (w.side x y d),[]⟩:=by
 refine pn Zsg Tryz.func156 ?_
 repeat'(first|refine wk0 ?_|(refine wk2 ?_ ?_<;>intro _)|fail)
 all_goals exact Zb rfl
def r146:List AV->Option PRes
 | [.agg [.int .i64 n,.int .i64 fx,.int .i64 fy,.int .i64 tx,.int .i64 ty]]=>some ⟨Bo (Wl.straight ⟨n,fx,fy,tx,ty⟩),[]⟩
 | _=>none
def r206:List AV->Option PRes
 | [.agg [.int .i64 n,.int .i64 fx,.int .i64 fy,.int .i64 tx,.int .i64 ty],.int .i64 x,.int .i64 y,.int .i64 d]=>some ⟨I (Wl.side ⟨n,fx,fy,tx,ty⟩ x y d),[]⟩
 | _=>none
def kG2:PC:=ins 131 r146 (ins 156 r206 kG1)
theorem Zw4:PCOK Tryz.prog kG2:=by
 refine Zj (fun a res h=>?_) (Zj (fun a res h=>?_) Zsg)
 ·unfold r146 at h; split at h<;>cases h; exact c146 ⟨_,_,_,_,_⟩
 ·unfold r206 at h; split at h<;>cases h; exact c206 ⟨_,_,_,_,_⟩ _ _ _
def Wl.has (w:Wl) (x y d:Int):Bool:=decide (w.side x y d=0)&&within x (Qa Qb (imin w.fx w.tx*d)) (Qa Qb (imax w.fx w.tx*d))&&within y (Qa Qb (imin w.fy w.ty*d)) (Qa Qb (imax w.fy w.ty*d))
theorem c205 (w:Wl) (x y d:Int):PCall Tryz.prog 157 [w.av,I x,I y,I d] ⟨Bo (w.has x y d),[]⟩:=by
 refine pn Zw4 Tryz.func157 ?_
 repeat'(first|refine wk0 ?_|(refine wk2 ?_ ?_<;>intro _)|fail)
 all_goals exact Zc (by simp_all [Wl.has]<;>omega)
def r205:List AV->Option PRes
 | [.agg [.int .i64 n,.int .i64 fx,.int .i64 fy,.int .i64 tx,.int .i64 ty],.int .i64 x,.int .i64 y,.int .i64 d]=>some ⟨Bo (Wl.has ⟨n,fx,fy,tx,ty⟩ x y d),[]⟩
 | _=>none
def kG3:PC:=ins 157 r205 kG2
theorem Vx:PCOK Tryz.prog kG3:=by
 refine Zj (fun a res h=>?_) Zw4
 unfold r205 at h; split at h<;>cases h; exact c205 ⟨_,_,_,_,_⟩ _ _ _
def Wl.touches (w o:Wl):Bool :=
 (decide (Qa Qb (w.side o.fx o.fy 1*w.side o.tx o.ty 1)<0)&&decide (Qa Qb (o.side w.fx w.fy 1*o.side w.tx w.ty 1)<0))||(w.has o.fx o.fy 1||w.has o.tx o.ty 1||o.has w.fx w.fy 1||o.has w.tx w.ty 1)
theorem c196 (w o:Wl):PCall Tryz.prog 151 [w.av,o.av] ⟨Bo (w.touches o),[]⟩:=by
 obtain ⟨n,a,b,c,d⟩:=w
 obtain ⟨m,e,f,g,i⟩:=o
 refine pn Vx Tryz.func151 ?_
 repeat'(first|refine wk0 ?_|(refine wk2 ?_ ?_<;>intro _)|fail)
 all_goals exact Zc (by simp_all [Wl.touches]<;>omega)
def Wl.turnsBack (w o:Wl):Bool:=decide (Qa Qb (w.dx*o.dy)=Qa Qb (w.dy*o.dx))&&decide (Qa Qb (Qa Qb (w.dx*o.dx)+Qa Qb (w.dy*o.dy))<0)
theorem c195 (w o:Wl):PCall Tryz.prog 150 [w.av,o.av] ⟨Bo (w.turnsBack o),[]⟩:=by
 refine pn Vx Tryz.func150 ?_
 repeat'(first|refine wk0 ?_|(refine wk2 ?_ ?_<;>intro _)|fail)
 all_goals exact Zc (by simp_all [Wl.turnsBack]<;>omega)
structure Rc where
 xl:Int
 xh:Int
 yl:Int
 yh:Int
abbrev Rc.av (q:Rc):AV:=.agg [I q.xl,I q.xh,I q.yl,I q.yh]
def rcOf (fx fy tx ty:Int):Rc:=⟨imin fx tx,imax fx tx,imin fy ty,imax fy ty⟩
theorem c170 (nm mt hs:AV) (fx fy tx ty:Int):PCall Tryz.prog 94 [.agg [nm,mt,I fx,I fy,I tx,I ty,hs]] ⟨(rcOf fx fy tx ty).av,[]⟩:=by
 refine pn Vx Tryz.func94 ?_
 repeat'(first|refine wk0 ?_|(refine wk2 ?_ ?_<;>intro _)|fail)
 all_goals exact Zd rfl rfl
def Rc.area (q:Rc):Int:=Qa Qb (Qa Qb (q.xh-q.xl)*Qa Qb (q.yh-q.yl))
theorem c171 (q:Rc):PCall Tryz.prog 95 [q.av] ⟨I q.area,[]⟩:=by
 refine pn Vx Tryz.func95 ?_
 repeat'(first|refine wk0 ?_|(refine wk2 ?_ ?_<;>intro _)|fail)
 all_goals exact Zb rfl
def Ze1 (x y:Int):Bool:=small x 5000&&small y 5000
theorem c142 (x y:Int):PCall Tryz.prog 128 [P2 x y] ⟨Bo (Ze1 x y),[]⟩:=by
 refine pn Vx Tryz.func128 ?_
 repeat'(first|refine wk0 ?_|(refine wk2 ?_ ?_<;>intro _)|fail)
 all_goals exact Zc (by simp_all [Ze1]<;>omega)
theorem c114 (x y z:Int):PCall Tryz.prog 154 [P3 x y z] ⟨P4 x y z 1,[]⟩:=by
 refine pn Vx Tryz.func154 ?_
 repeat'(first|refine wk0 ?_|(refine wk2 ?_ ?_<;>intro _)|fail)
 all_goals exact Zd rfl rfl
def unl (b:Bool) (e:Int):Int:=cond b 0 e
theorem c102 (b:Bool) (e:Int):PCall Tryz.prog 115 [Bo b,I e] ⟨I (unl b e),[]⟩:=by
 refine pn Vx Tryz.func115 ?_
 repeat'(first|refine wk0 ?_|(refine wk2 ?_ ?_<;>intro _)|fail)
 all_goals exact Zb (by simp_all [unl])
structure Mat where
 nm:ByteArray
 a:Int
 b:Int
 c:Int
 d:Int
 sc:Int
structure Wal where
 nm:ByteArray
 mt:ByteArray
 cu:ByteArray
structure Can where
 nm:ByteArray
 mt:ByteArray
 fx:Int
 fy:Int
 tx:Int
 ty:Int
 hs:List Int
structure Sea where
 nm:ByteArray
 x:Int
 y:Int
 z:Int
structure Hal where
 nm:ByteArray
 ht:Int
 fl:ByteArray
 ce:ByteArray
 ms:List Mat
 cs:List (Int × Int)
 ws:List Wal
 ks:List Can
 ss:List Sea
abbrev Mat.av (m:Mat):List AV:=[.str m.nm,I m.a,I m.b,I m.c,I m.d,I m.sc]
abbrev Wal.av (w:Wal):List AV:=[.str w.nm,.str w.mt,.str w.cu]
abbrev Can.av (c:Can):List AV:=[.str c.nm,.str c.mt,I c.fx,I c.fy,I c.tx,I c.ty,.isl 1 (nl c.hs)]
abbrev Sea.av (s:Sea):List AV:=[.str s.nm,I s.x,I s.y,I s.z]
abbrev Hal.cells (h:Hal):List AV:=[.str h.nm,I h.ht,.str h.fl,.str h.ce,.isl 6 (h.ms.map Mat.av),.isl 2 (h.cs.map pt),.isl 3 (h.ws.map Wal.av),.isl 7 (h.ks.map Can.av),.isl 4 (h.ss.map Sea.av)]
abbrev Hal.av (h:Hal):AV:=.agg [.str h.nm,I h.ht,.str h.fl,.str h.ce,.isl 6 (h.ms.map Mat.av),.isl 2 (h.cs.map pt),.isl 3 (h.ws.map Wal.av),.isl 7 (h.ks.map Can.av),.isl 4 (h.ss.map Sea.av)]
def wlOf (cs:List (Int × Int)) (i:Nat):Wl:=⟨i,(cor cs i).1,(cor cs i).2,(cor cs ((i+1)%cs.length)).1,(cor cs ((i+1)%cs.length)).2⟩
def wls (cs:List (Int × Int)):List Wl:=(Tq cs.length).map (wlOf cs)
theorem Zqx (cs:List (Int × Int)):Zcx cs=(wls cs).map fun w=>[w.av]:=by simp [Zcx,wls,wlOf,Zuk]
def Hal.few (h:Hal):Prop:=h.ms.length<1000/\h.cs.length<1000/\h.ws.length<1000/\h.ks.length<1000/\h.ss.length<1000/\∀ c∈h.ks,c.hs.length<1000
theorem itW {h:Hal} (hf:h.few):ItOK Tryz.prog 146 [h.av] [] ((wls h.cs).map fun w=>[w.av]):=by
 rw [<-Zqx]; exact Yar (by rfl) hf.2.1
def Zh6 (n:Int) (w:Wl):Int:=Qa Qb (n+Qa Qb (Qa Qb (w.fx*w.ty)-Qa Qb (w.tx*w.fy)))
def Ye (h:Hal):Int:=(wls h.cs).foldl Zh6 0
theorem c122 {h:Hal} (hf:h.few):PCall Tryz.prog 98 [h.av] ⟨I (Ye h),[]⟩:=by
 refine pn Vx Tryz.func98 ?_
 repeat'(first|refine wk0 ?_|(refine wk2 ?_ ?_<;>intro _)|fail)
 refine Hw (env2:=[(1,.ptr 0 0 0),(3,.ptr 1 0 0),(6,.func 146 [h.av] [])]) (σ2:=⟨[(1,.row 1 [[I 0]] true false),(0,.row 9 [h.cells] true false)],2⟩) (Ti [] rfl (kps) (kps)) ?_
 refine rngV (itW hf) rfl rfl rfl rfl (Zdi (S:=Int) (fun s=>[(1,.row 1 [[I s]] true false),(0,.row 9 [h.cells] true false)]) 2 2 (fun xs s=>∃ l:List Wl,xs=l.map (fun w=>[w.av])/\l.foldl Zh6 s=Ye h) ?_ ?_ _ 0 ⟨_,rfl,rfl⟩)
 ·rintro x xs s ⟨l,h1,h2⟩
  cases l with
  | nil=>simp at h1
  | cons w l =>
   simp only [Wb,Rl] at h1
   obtain ⟨rfl,rfl⟩:=h1
   refine ⟨rfl,bs.av (sx:=nos) Vx ?_⟩
   repeat'(first|refine wk0 ?_|(refine wk2 ?_ ?_<;>intro _)|fail)
   refine Dg (bs.av (sx:=nos) Vx ?_)
   repeat'(first|refine wk0 ?_|(refine wk2 ?_ ?_<;>intro _)|fail)
   exact Qr ⟨_,[],rfl,kps,l,rfl,h2⟩
 ·rintro s ⟨l,h1,h2⟩
  cases l with
  | cons w l=>simp at h1
  | nil =>
   repeat'(first|refine wk0 ?_|(refine wk2 ?_ ?_<;>intro _)|fail)
   exact Zb h2
def Rc.meets (q:Rc) (w:Wl):Bool :=
 if decide (imax w.fx w.tx<q.xl)||decide (q.xh<imin w.fx w.tx)||decide (imax w.fy w.ty<q.yl)||decide (q.yh<imin w.fy w.ty) then false
 else decide (imin (imin (imin (imin 1 (w.side q.xl q.yl 1)) (w.side q.xl q.yh 1)) (w.side q.xh q.yl 1)) (w.side q.xh q.yh 1)<=0)&&decide (0<=imax (imax (imax (imax (-1) (w.side q.xl q.yl 1)) (w.side q.xl q.yh 1)) (w.side q.xh q.yl 1)) (w.side q.xh q.yh 1))
theorem c213 (q:Rc) (w:Wl):PCall Tryz.prog 158 [q.av,w.av] ⟨Bo (q.meets w),[]⟩:=by
 obtain ⟨wn,wa,wb,wc,wd⟩:=w
 refine pn Vx Tryz.func158 ?_
 repeat'(first|refine wk0 ?_|(refine wk2 ?_ ?_<;>intro _)|fail)
 all_goals try exact Zc (by simp_all [Rc.meets])
 refine Tx 5 ?_
 refine Rn (bs.av (sx:=nos) Vx ?_)
 repeat'(first|refine wk0 ?_|(refine wk2 ?_ ?_<;>intro _)|fail)
 refine Rn (bs.av (sx:=nos) Vx ?_)
 repeat'(first|refine wk0 ?_|(refine wk2 ?_ ?_<;>intro _)|fail)
 refine Rn (bs.av (sx:=nos) Vx ?_)
 repeat'(first|refine wk0 ?_|(refine wk2 ?_ ?_<;>intro _)|fail)
 refine Rn (bs.av (sx:=nos) Vx ?_)
 repeat'(first|refine wk0 ?_|(refine wk2 ?_ ?_<;>intro _)|fail)
 refine Rn (bs.av (sx:=nos) Vx ?_)
 repeat'(first|refine wk0 ?_|(refine wk2 ?_ ?_<;>intro _)|fail)
 all_goals exact Zc (by simp_all [Rc.meets]<;>omega)
def r213:List AV->Option PRes
 | [.agg [.int .i64 a,.int .i64 b,.int .i64 c,.int .i64 d],.agg [.int .i64 n,.int .i64 fx,.int .i64 fy,.int .i64 tx,.int .i64 ty]]=>some ⟨Bo (Rc.meets ⟨a,b,c,d⟩ ⟨n,fx,fy,tx,ty⟩),[]⟩
 | _=>none
def r195:List AV->Option PRes
 | [.agg [.int .i64 m,.int .i64 a,.int .i64 b,.int .i64 c,.int .i64 d],.agg [.int .i64 n,.int .i64 fx,.int .i64 fy,.int .i64 tx,.int .i64 ty]]=>some ⟨Bo (Wl.turnsBack ⟨m,a,b,c,d⟩ ⟨n,fx,fy,tx,ty⟩),[]⟩
 | _=>none
def r196:List AV->Option PRes
 | [.agg [.int .i64 m,.int .i64 a,.int .i64 b,.int .i64 c,.int .i64 d],.agg [.int .i64 n,.int .i64 fx,.int .i64 fy,.int .i64 tx,.int .i64 ty]]=>some ⟨Bo (Wl.touches ⟨m,a,b,c,d⟩ ⟨n,fx,fy,tx,ty⟩),[]⟩
 | _=>none
def r142:List AV->Option PRes
 | [.agg [.int .i64 x,.int .i64 y]]=>some ⟨Bo (Ze1 x y),[]⟩
 | _=>none
def r114:List AV->Option PRes
 | [.agg [.int .i64 x,.int .i64 y,.int .i64 z]]=>some ⟨P4 x y z 1,[]⟩
 | _=>none
def r102:List AV->Option PRes
 | [.bool b,.int .i64 e]=>some ⟨I (unl b e),[]⟩
 | _=>none
def r170:List AV->Option PRes
 | [.agg [nm,mt,.int .i64 a,.int .i64 b,.int .i64 c,.int .i64 d,hs]]=>some ⟨(rcOf a b c d).av,[]⟩
 | _=>none
def kG4:PC:=ins 158 r213 (ins 150 r195 (ins 151 r196 (ins 128 r142 (ins 154 r114 (ins 115 r102 (ins 94 r170 kG3))))))
theorem Zaw:PCOK Tryz.prog kG4:=by
 refine Zj (fun a res h=>?_) (Zj (fun a res h=>?_) (Zj (fun a res h=>?_) (Zj (fun a res h=>?_) (Zj (fun a res h=>?_) (Zj (fun a res h=>?_) (Zj (fun a res h=>?_) Vx))))))
 ·unfold r213 at h; split at h<;>cases h; exact c213 ⟨_,_,_,_⟩ ⟨_,_,_,_,_⟩
 ·unfold r195 at h; split at h<;>cases h; exact c195 ⟨_,_,_,_,_⟩ ⟨_,_,_,_,_⟩
 ·unfold r196 at h; split at h<;>cases h; exact c196 ⟨_,_,_,_,_⟩ ⟨_,_,_,_,_⟩
 ·unfold r142 at h; split at h<;>cases h; exact c142 _ _
 ·unfold r114 at h; split at h<;>cases h; exact c114 _ _ _
 ·unfold r102 at h; split at h<;>cases h; exact c102 _ _
 ·unfold r170 at h; split at h<;>cases h; exact c170 _ _ _ _ _ _ _
def flips (x y d:Int) (w:Wl):Bool :=
 ((decide (Qa Qb (w.fy*d)<=y)&&decide (y<Qa Qb (w.ty*d)))&&decide (0<w.side x y d))||((decide (Qa Qb (w.ty*d)<=y)&&decide (y<Qa Qb (w.fy*d)))&&decide (w.side x y d<0))
def inPl (x y d:Int):Bool->List Wl->Bool
 | b,[]=>b
 | b,w::l=>if w.has x y d then false else inPl x y d (b ^^ flips x y d w) l
theorem Zk8 {x y d:Int} {b:Bool} {w:Wl} {l:List Wl} (h:w.has x y d=false):inPl x y d b (w::l)=inPl x y d (b ^^ flips x y d w) l:=by rw [inPl,if_neg (by simp [h])]
def Xa (h:Hal) (x y d:Int):Bool:=inPl x y d false (wls h.cs)
theorem c183 {h:Hal} (hf:h.few) (x y d:Int):PCall Tryz.prog 159 [h.av,I x,I y,I d] ⟨Bo (Xa h x y d),[]⟩:=by
 refine pn Zaw Tryz.func159 ?_
 repeat'(first|refine wk0 ?_|(refine wk2 ?_ ?_<;>intro _)|fail)
 refine Hw (env2:=[(4,.ptr 0 0 0),(5,.ptr 1 0 0),(6,.ptr 2 0 0),(7,.ptr 3 0 0),(8,.ptr 4 0 0),(9,.ptr 5 0 0),(15,.func 146 [h.av] [])])
  (σ2:=⟨[(5,.row 1 [[Bo false]] true false),(4,.row 1 [[Bo false]] true false),(3,.row 1 [[I d]] true false),(2,.row 1 [[I y]] true false),(1,.row 1 [[I x]] true false),(0,.row 9 [h.cells] true false)],6⟩) (Ti [] rfl (kps) (kps)) ?_
 refine rngV (itW hf) rfl rfl rfl rfl (Zdi (S:=Bool) (fun s=>[(5,.row 1 [[Bo s]] true false),(4,.row 1 [[Bo false]] true false),(3,.row 1 [[I d]] true false),(2,.row 1 [[I y]] true false),(1,.row 1 [[I x]] true false),(0,.row 9 [h.cells] true false)]) 6 6 (fun xs s=>∃ l:List Wl,xs=l.map (fun w=>[w.av])/\inPl x y d s l=Xa h x y d) ?_ ?_ _ false ⟨_,rfl,rfl⟩)
 ·rintro u us s ⟨l,h1,h2⟩
  cases l with
  | nil=>simp at h1
  | cons w l =>
   simp only [Wb,Rl] at h1
   obtain ⟨rfl,rfl⟩:=h1
   obtain ⟨wn,wa,wb,wc,wd⟩:=w
   refine ⟨rfl,bs.av (sx:=nos) Zaw ?_⟩
   repeat'(first|refine wk0 ?_|(refine wk2 ?_ ?_<;>intro _)|fail)
   refine Dg (bs.av (sx:=nos) Zaw ?_)
   repeat'(first|refine wk0 ?_|(refine wk2 ?_ ?_<;>intro _)|fail)
   all_goals first
    | exact Zc (by rw [<-h2]; simp_all [inPl])
    | exact Qr ⟨_,[],rfl,kps,l,rfl,by rw [<-h2,Zk8 (by assumption)]; congr 1; clear h2; cases s<;>simp_all [flips]<;>omega⟩
 ·rintro s ⟨l,h1,h2⟩
  cases l with
  | cons w l=>simp at h1
  | nil =>
   repeat'(first|refine wk0 ?_|(refine wk2 ?_ ?_<;>intro _)|fail)
   exact Zc h2
def Zdn (h:Hal) (q:Rc):Bool:=(wls h.cs).all (fun w=>!q.meets w)&&Xa h q.xl q.yl 1
theorem c197 {h:Hal} (hf:h.few) (q:Rc):PCall Tryz.prog 152 [h.av,q.av] ⟨Bo (Zdn h q),[]⟩:=by
 have hc:=c183 hf q.xl q.yl 1
 refine bs.pv (sx:=fun f=>Ql f 159) Zaw Tryz.func152 (by kernel_rfl) (by kernel_rfl) rfl ?_
 repeat'(first|refine wk0 ?_|(refine wk2 ?_ ?_<;>intro _)|fail)
 refine Hw (env2:=[(2,.ptr 0 0 0),(3,.ptr 1 0 0),(4,.ptr 2 0 0),(7,.func 146 [h.av] [])])
  (σ2:=⟨[(2,.row 1 [[Bo false]] true false),(1,.row 4 [[I q.xl,I q.xh,I q.yl,I q.yh]] true false),(0,.row 9 [h.cells] true false)],3⟩) (Ti [] rfl (kps) (kps)) ?_
 refine rngV (itW hf) rfl rfl rfl rfl (Zdi (S:=Unit) (fun _=>[(2,.row 1 [[Bo false]] true false),(1,.row 4 [[I q.xl,I q.xh,I q.yl,I q.yh]] true false),(0,.row 9 [h.cells] true false)]) 3 3 (fun xs _=>∃ l:List Wl,xs=l.map (fun w=>[w.av])/\(l.all (fun w=>!q.meets w)&&Xa h q.xl q.yl 1)=Zdn h q) ?_ ?_ _ () ⟨_,rfl,rfl⟩)
 ·rintro u us s ⟨l,h1,h2⟩
  cases l with
  | nil=>simp at h1
  | cons w l =>
   simp only [Wb,Rl] at h1
   obtain ⟨rfl,rfl⟩:=h1
   obtain ⟨wn,wa,wb,wc,wd⟩:=w
   refine ⟨rfl,bs.av (sx:=nos) Zaw ?_⟩
   repeat'(first|refine wk0 ?_|(refine wk2 ?_ ?_<;>intro _)|fail)
   refine Dg (bs.av (sx:=nos) Zaw ?_)
   repeat'(first|refine wk0 ?_|(refine wk2 ?_ ?_<;>intro _)|fail)
   all_goals first
    | exact Zc (by rw [<-h2]; simp_all)
    | exact Qr ⟨(),[],rfl,kps,l,rfl,by rw [<-h2]; simp_all⟩
 ·rintro s ⟨l,h1,h2⟩
  cases l with
  | cons w l=>simp at h1
  | nil =>
   repeat'(first|refine wk0 ?_|(refine wk2 ?_ ?_<;>intro _)|fail)
   refine SCt.pc hc rfl ?_
   repeat'(first|refine wk0 ?_|(refine wk2 ?_ ?_<;>intro _)|fail)
   exact Zc (by rw [<-h2]; rfl)
def Zc3 (n:Int) (a b:Wl):Bool :=
 decide (b.n<=a.n)||(!((decide (b.n=Qa Qb (a.n+1))&&a.turnsBack b)||((decide (a.n=0)&&decide (b.n=Qa Qb (n-1)))&&b.turnsBack a))&&((decide (b.n=Qa Qb (a.n+1))||(decide (a.n=0)&&decide (b.n=Qa Qb (n-1)))) || !a.touches b))
def Xl (h:Hal):Bool:=(wls h.cs).all fun a=>(wls h.cs).all fun b=>Zc3 h.cs.length a b
theorem c148 {h:Hal} (hf:h.few):PCall Tryz.prog 133 [h.av] ⟨Bo (Xl h),[]⟩:=by
 refine pn Zaw Tryz.func133 ?_
 repeat'(first|refine wk0 ?_|(refine wk2 ?_ ?_<;>intro _)|fail)
 have hlen:(h.cs.map pt).length=h.cs.length:=by simp
 refine Hw (env2:=[(1,.ptr 0 0 0),(2,.ptr 1 0 0),(3,.ptr 2 0 0),(11,.func 146 [h.av] [])])
  (σ2:=⟨[(2,.row 1 [[I (h.cs.map pt).length]] true false),(1,.row 1 [[Bo false]] true false),(0,.row 9 [h.cells] true false)],3⟩) (Ti [] rfl (kps) (kps)) ?_
 refine rngV (itW hf) rfl rfl rfl rfl (Zdi (S:=Unit) (fun _=>[(2,.row 1 [[I (h.cs.map pt).length]] true false),(1,.row 1 [[Bo false]] true false),(0,.row 9 [h.cells] true false)]) 3 3 (fun xs _=>∃ l:List Wl,xs=l.map (fun w=>[w.av])/\(l.all fun a=>(wls h.cs).all fun b=>Zc3 h.cs.length a b)=Xl h) ?_ ?_ _ () ⟨_,rfl,rfl⟩)
 ·rintro u us s ⟨l,h1,h2⟩
  cases l with
  | nil=>simp at h1
  | cons a l =>
   simp only [Wb,Rl] at h1
   obtain ⟨rfl,rfl⟩:=h1
   obtain ⟨wn,wa,wb,wc,wd⟩:=a
   refine ⟨rfl,bs.av (sx:=nos) Zaw ?_⟩
   repeat'(first|refine wk0 ?_|(refine wk2 ?_ ?_<;>intro _)|fail)
   refine Dg (bs.av (sx:=nos) Zaw ?_)
   repeat'(first|refine wk0 ?_|(refine wk2 ?_ ?_<;>intro _)|fail)
   refine Hw (env2:=[(1,.ptr 0 0 0),(2,.ptr 1 0 0),(3,.ptr 2 0 0),(4,.ptr 3 0 0),(14,.func 146 [h.av] [])])
    (σ2:=⟨[(3,.row 5 [[I wn,I wa,I wb,I wc,I wd]] true false),(2,.row 1 [[I (h.cs.map pt).length]] true false),(1,.row 1 [[Bo false]] true false),(0,.row 9 [h.cells] true false)],4⟩) (Ti [] rfl (kps) (kps)) ?_
   refine rngV (itW hf) rfl rfl rfl rfl (Zdi (S:=Unit) (fun _=>[(3,.row 5 [[I wn,I wa,I wb,I wc,I wd]] true false),(2,.row 1 [[I (h.cs.map pt).length]] true false),(1,.row 1 [[Bo false]] true false),(0,.row 9 [h.cells] true false)]) 4 4
    (fun xs _=>∃ m:List Wl,xs=m.map (fun w=>[w.av])/\(m.all (fun b=>Zc3 h.cs.length ⟨wn,wa,wb,wc,wd⟩ b)&&(l.all fun a=>(wls h.cs).all fun b=>Zc3 h.cs.length a b))=Xl h) ?_ ?_ _ () ⟨_,rfl,h2⟩)
   ·rintro u us s ⟨m,h1,h3⟩
    cases m with
    | nil=>simp at h1
    | cons b m =>
     simp only [Wb,Rl] at h1
     obtain ⟨rfl,rfl⟩:=h1
     obtain ⟨vn,va,vb,vc,vd⟩:=b
     refine ⟨rfl,bs.av (sx:=nos) Zaw ?_⟩
     repeat'(first|refine wk0 ?_|(refine wk2 ?_ ?_<;>intro _)|fail)
     refine Dg (bs.av (sx:=nos) Zaw ?_)
     repeat'(first|refine wk0 ?_|(refine wk2 ?_ ?_<;>intro _)|fail)
     all_goals (clear h2)
     all_goals first
      | exact Zc (by rw [<-h3]; simp_all [Zc3]<;>omega)
      | exact Qr ⟨(),[],rfl,kps,m,rfl,by rw [<-h3]; simp_all [Zc3]<;>omega⟩
   ·rintro s ⟨m,h1,h3⟩
    cases m with
    | cons w l=>simp at h1
    | nil =>
     repeat'(first|refine wk0 ?_|(refine wk2 ?_ ?_<;>intro _)|fail)
     exact Qr ⟨(),[],rfl,kps,l,rfl,h3⟩
 ·rintro s ⟨l,h1,h2⟩
  cases l with
  | cons w l=>simp at h1
  | nil =>
   repeat'(first|refine wk0 ?_|(refine wk2 ?_ ?_<;>intro _)|fail)
   exact Zc h2
def Zg8 (n:Int):Bool:=(decide (97<=n)&&decide (n<=122))||(decide (65<=n)&&decide (n<=90))
def Zhv (first:Bool) (n:Int):Bool:=Zg8 n||(!first&&(decide (n=45)||(decide (48<=n)&&decide (n<=57))))
def Zbm:Bool->List UInt8->Bool
 | _,[]=>true
 | b,c::l=>Zhv b c.toNat&&Zbm false l
def Ve (s:ByteArray):Bool:=Zbm true s.data.toList&&(!(s==⟨#[]⟩)&&decide ((s.size:Int)<=12))
theorem Zty (s:ByteArray):(bytesOf s).length=s.data.toList.length:=by simp [bytesOf]
theorem Ybk {s:ByteArray} {k:Nat} (h:k<s.data.toList.length):(bytesOf s)[((k:Nat):Int).toNat]?=some [.int .u8 (s.data.toList[k]).toNat]:=by
 simp only [bytesOf,Sk,List.getElem?_map]
 rw [List.getElem?_eq_getElem h]; rfl
theorem Zgx (b:Bool) (c:UInt8) (l:List UInt8):Zbm b (c::l)=(Zhv b c.toNat&&Zbm false l):=rfl
theorem c131 {s:ByteArray} (hs:s.data.toList.length<100000):PCall Tryz.prog 116 [.str s] ⟨Bo (Ve s),[]⟩:=by
 refine pn Zf Tryz.func116 ?_
 refine Zo (S:=Nat × Int) (fun t=>s.data.toList.length-t.1) (fun t=>[(0,.str s),(7,.isl 1 (bytesOf s)),(8,I (bytesOf s).length),(9,I t.2)]) (fun _=>[]) 0 0 (fun t=>t.2=t.1/\t.1<=s.data.toList.length/\Zbm (decide (t.1=0)) (s.data.toList.drop t.1)=Zbm true s.data.toList) (0,0) ⟨rfl,Qk _,rfl⟩ (Qd _) [] rfl (kps) (kps) ?_
 rintro ⟨k,i⟩ ⟨hi,hk,hh⟩
 dsimp only at hi hk hh ⊢
 subst hi
 refine bs.av (sx:=nos) Zf ?_
 have e3:=Zty s
 by_cases hlt:k<s.data.toList.length
 ·have e1:=Ybk hlt
  rw [Qg hlt,Zgx] at hh
  generalize (s.data.toList[k]).toNat=c at *
  repeat'(first|refine wk1 ?_|(refine wk2 ?_ ?_<;>intro _)|fail)
  all_goals (clear e1 e3)
  all_goals first
   | exact Zc (by
     have hg:Zhv (decide (k=0)) c=false:=by clear hh; simp_all [Zhv,Zg8]<;>omega
     rw [hg,Bool.false_and] at hh
     rw [Ve,<-hh]; rfl)
   | exact Qr ⟨(k+1,_),[],rfl,kps,trivial,⟨Zg (by omega),hlt,by
     have hg:Zhv (decide (k=0)) c=true:=by clear hh; simp_all [Zhv,Zg8]<;>omega
     rw [hg,Bool.true_and] at hh
     exact hh⟩,by dsimp only; omega⟩
 ·rw [Qj (by omega)] at hh
  have hn:Zbm true s.data.toList=true:=hh.symm
  clear hh
  repeat'(first|refine wk1 ?_|(refine wk2 ?_ ?_<;>intro _)|fail)
  all_goals exact Zc (by simp_all [Ve])
def Zt (s:ByteArray) (ns:List ByteArray):Int:=if Ve s then (if Va s ns then 5 else 0) else 4
def r131:List AV->Option PRes
 | [.str s]=>asr (decide (s.data.toList.length<100000)) ⟨Bo (Ve s),[]⟩
 | _=>none
def kG5:PC:=ins 116 r131 kG4
theorem Zbo:PCOK Tryz.prog kG5:=by
 refine Zj (fun a res h=>?_) Zaw
 unfold r131 at h; split at h
 ·obtain ⟨h1,rfl⟩:=Xc h
  exact c131 (of_decide_eq_true h1)
 ·cases h
noncomputable def one (a0:List AV) (r:PRes) (a:List AV):Option PRes:=by
 classical exact if a=a0 then some r else none
theorem Zgv (a:List AV) (r:PRes):one a r a=some r:=by unfold one; simp
theorem Zi {f0:FuncId} {a0:List AV} {r:PRes} {pt:PC} (h0:PCall Tryz.prog f0 a0 r) (h:PCOK Tryz.prog pt):PCOK Tryz.prog (ins f0 (one a0 r) pt):=by
 refine Zj (fun a res hr=>?_) h
 unfold one at hr
 split at hr
 ·rename_i e; cases hr; rw [e]; exact h0
 ·cases hr
def thou (n:Int):Bool:=within n 0 1000
def Xx (m:Mat):Int:=if thou m.a&&thou m.b&&thou m.c&&thou m.d&&thou m.sc then 0 else 2
theorem c138 (m:Mat):PCall Tryz.prog 124 [.agg m.av] ⟨I (Xx m),[]⟩:=by
 refine pn Zbo Tryz.func124 ?_
 repeat'(first|refine wk0 ?_|(refine wk2 ?_ ?_<;>intro _)|fail)
 refine Tx 6 ?_
 iterate 6
  all_goals try (refine Rn (bs.av (sx:=nos) Zbo ?_))
  repeat'(first|refine wk0 ?_|(refine wk2 ?_ ?_<;>intro _)|fail)
 all_goals exact Zb (by simp_all [Xx,thou])
def Zce (ht:Int):Option Int->List Int->Int
 | _,[]=>0
 | p,n::l=>if within n 1 (Qa Qb (ht-1)) then (if (match p with
  | some q=>decide (n<=q)
  | none=>false) then 9 else Zce ht (some n) l) else 2
def Xg (hs:List Int):Nat->Option Int
 | 0=>none
 | k+1=>hs[k]?
def Zeh (h:Hal) (c:Can):Int :=
 if within c.hs.length 1 4 then (if Zce h.ht none c.hs=0 then (if Ze1 c.fx c.fy&&Ze1 c.tx c.ty then (if decide (c.fx=c.tx)||decide (c.fy=c.ty) then 11 else unl (Zdn h (rcOf c.fx c.fy c.tx c.ty)) 24) else 2) else Zce h.ht none c.hs) else 10
theorem Zir (ht:Int) (p:Option Int) (n:Int) (l:List Int):Zce ht p (n::l)=if within n 1 (Qa Qb (ht-1)) then (if (match p with
  | some q=>decide (n<=q)
  | none=>false) then 9 else Zce ht (some n) l) else 2:=rfl
theorem c155 {h:Hal} (hf:h.few) (c:Can) (hl:c.hs.length<1000):PCall Tryz.prog 140 [h.av,.agg c.av] ⟨I (Zeh h c),[]⟩:=by
 have hc:=c197 hf (rcOf c.fx c.fy c.tx c.ty)
 have hk:=Zi hc Zbo
 have e3:=Ze c.hs
 refine pn hk Tryz.func140 ?_
 repeat'(first|refine wk0 ?_|(refine wk2 ?_ ?_<;>intro _)|fail)
 ·exact Zb (by simp_all [Zeh])
 ·rename_i hw1
  have hw:within c.hs.length 1 4=true:=by rw [e3] at hw1; simpa using hw1
  refine Zo (S:=Nat × Int) (fun t=>c.hs.length-t.1) (fun t=>[(2,.ptr 0 0 0),(3,.ptr 1 0 0),(13,.isl 1 (nl c.hs)),(14,I (nl c.hs).length),(15,I t.2)]) (fun _=>[(1,.row 7 [c.av] true false),(0,.row 9 [h.cells] true false)]) 2 2
   (fun t=>t.2=t.1/\t.1<=c.hs.length/\Zce h.ht (Xg c.hs t.1) (c.hs.drop t.1)=Zce h.ht none c.hs) (0,0) ⟨rfl,Qk _,rfl⟩ (Qd _) [] rfl (kps) (kps) ?_
  rintro ⟨k,i⟩ ⟨hi,hk',hh⟩
  dsimp only at hi hk' hh ⊢
  subst hi
  refine bs.av (sx:=nos) hk ?_
  by_cases hlt:k<c.hs.length
  ·have e1:=Yz hlt
   rw [Qg hlt,Zir] at hh
   have e4:Qa Qb ((k:Int)-1)=(k:Int)-1:=W_eq (by omega) (by omega)
   have hh:=hh.symm
   cases k with
   | zero =>
    repeat'(first|refine wk1 ?_|(refine wk2 ?_ ?_<;>intro _)|fail)
    all_goals first
     | exact Zb (by simp_all [Zeh,Xg])
     | exact Qr ⟨(1,_),[],rfl,kps,kps,⟨by exact Zg (k:=0) (by omega),hlt,by simp_all [Xg]⟩,by dsimp only; omega⟩
   | succ k =>
    have e5:(nl c.hs)[(Qa Qb (((k+1:Nat):Int)-1)).toNat]?=some [I c.hs[k]]:=by
     rw [e4,show ((k+1:Nat):Int)-1=(k:Int) by omega]; exact Yz (by omega)
    have e6:Xg c.hs (k+1)=some c.hs[k]:=by simp [Xg,show k<c.hs.length by omega]
    rw [e6] at hh
    repeat'(first|refine wk1 ?_|(refine wk2 ?_ ?_<;>intro _)|fail)
    all_goals (clear e1 e5)
    all_goals first
     | exact Zb (by simp_all [Zeh])
     | exact Qr ⟨(k+2,_),[],rfl,kps,kps,⟨by exact Zg (k:=k+1) (by omega),hlt,by rw [hh,if_pos (by clear hh; simp_all),if_neg (by clear hh; simp_all)]; simp [Xg,hlt]⟩,by dsimp only; omega⟩
  ·rw [Qj (by omega)] at hh
   have hh:Zce h.ht none c.hs=0:=by rw [<-hh]; cases Xg c.hs k<;>rfl
   repeat'(first|refine wk1 ?_|(refine wk2 ?_ ?_<;>intro _)|fail)
   all_goals (clear hc hk)
   all_goals exact Zb (by simp_all [Zeh])
def Zvl (h:Hal) (x y z d:Int):Bool:=(decide (0<z)&&decide (z<Qa Qb (h.ht*d)))&&Xa h x y d
theorem c124 {h:Hal} (hf:h.few) (x y z d:Int):PCall Tryz.prog 153 [h.av,P4 x y z d] ⟨Bo (Zvl h x y z d),[]⟩:=by
 have hk:=Zi (c183 hf x y d) Zbo
 refine pn hk Tryz.func153 ?_
 repeat'(first|refine wk0 ?_|(refine wk2 ?_ ?_<;>intro _)|fail)
 all_goals (clear hk)
 all_goals exact Zc (by simp_all [Zvl]<;>omega)
def Zgr (h:Hal) (x y z:Int):Int:=if small x 5000&&small y 5000&&small z 5000 then (if Zvl h x y z 1 then 0 else 24) else 2
theorem c160 {h:Hal} (hf:h.few) (x y z:Int):PCall Tryz.prog 145 [h.av,P3 x y z] ⟨I (Zgr h x y z),[]⟩:=by
 have hk:=Zi (c124 hf x y z 1) Zbo
 refine pn hk Tryz.func145 ?_
 repeat'(first|refine wk0 ?_|(refine wk2 ?_ ?_<;>intro _)|fail)
 all_goals (clear hk)
 all_goals exact Zb (by simp_all [Zgr]<;>omega)
theorem c129 (b:Bool) (e:Int):PCall Tryz.prog 113 [Bo b,I e] ⟨.func 114 [] [.ptr 0 0 0,.ptr 1 0 0],[(1,[[Bo b]]),(1,[[I e]])]⟩:=by
 refine pn Zbo Tryz.func113 ?_
 repeat'(first|refine wk0 ?_|(refine wk2 ?_ ?_<;>intro _)|fail)
 exact Yh [0,1] rfl rfl rfl
theorem c130 (b:Bool) (e:Int):PCall Tryz.prog 114 [.ipt [Bo b],.ipt [I e]] ⟨.tup [I 0,I (unl b e)],[]⟩:=by
 refine pn Zbo Tryz.func114 ?_
 repeat'(first|refine wk0 ?_|(refine wk2 ?_ ?_<;>intro _)|fail)
 exact Zd rfl rfl
theorem c147 {h:Hal} (hf:h.few):PCall Tryz.prog 132 [.ipt h.cells] ⟨.tup [I 0,I (unl (Xl h) 24)],[]⟩:=by
 have hk:=Zi (c148 hf) Zbo
 refine pn hk Tryz.func132 ?_
 repeat'(first|refine wk0 ?_|(refine wk2 ?_ ?_<;>intro _)|fail)
 exact Zd rfl rfl
theorem c149 {h:Hal} (hf:h.few):PCall Tryz.prog 134 [.ipt h.cells] ⟨.tup [I 0,I (unl (decide (0<Ye h)) 9)],[]⟩:=by
 have hk:=Zi (c122 hf) Zbo
 refine pn hk Tryz.func134 ?_
 repeat'(first|refine wk0 ?_|(refine wk2 ?_ ?_<;>intro _)|fail)
 exact Zd rfl rfl
def r129:List AV->Option PRes
 | [.bool b,.int .i64 e]=>some ⟨.func 114 [] [.ptr 0 0 0,.ptr 1 0 0],[(1,[[Bo b]]),(1,[[I e]])]⟩
 | _=>none
def kG6:PC:=ins 113 r129 kG5
theorem Xo:PCOK Tryz.prog kG6:=by
 refine Zj (fun a res h=>?_) Zbo
 unfold r129 at h; split at h<;>cases h; exact c129 _ _
def Ybg:List AV:=[I 0,.func 114 [] [.ptr 13 0 0,.ptr 14 0 0],I 0,.func 114 [] [.ptr 21 0 0,.ptr 22 0 0],I 0,.func 114 [] [.ptr 30 0 0,.ptr 31 0 0],I 1,.func 117 [] [.ptr 0 0 0,.ptr 6 0 0],I 0,.func 125 [] [.ptr 6 0 0,.ptr 0 0 0],
 I 0,.func 114 [] [.ptr 52 0 0,.ptr 53 0 0],I 0,.func 114 [] [.ptr 61 0 0,.ptr 62 0 0],I 2,.func 126 [] [.ptr 0 0 0],I 3,.func 129 [] [.ptr 0 0 0,.ptr 2 0 0,.ptr 7 0 0,.ptr 6 0 0],I 0,.func 132 [] [.ptr 2 0 0],I 0,.func 134 [] [.ptr 2 0 0],
 I 0,.func 114 [] [.ptr 78 0 0,.ptr 79 0 0],I 4,.func 135 [] [.ptr 0 0 0,.ptr 7 0 0,.ptr 6 0 0,.ptr 2 0 0],I 0,.func 114 [] [.ptr 89 0 0,.ptr 90 0 0],I 5,.func 141 [] [.ptr 0 0 0,.ptr 8 0 0,.ptr 2 0 0]]
abbrev b1 (v:AV):ABlk:=.row 1 [[v]] true false
abbrev bp (v:AV):ABlk:=.row 1 [[v]] true true
structure Set7 where
 a:Bool
 b:Bool
 c:Bool
 d:Bool
 e:Bool
 f:Bool
 g:Bool
abbrev Zn (h:Hal) (s:Set7) (ms su se:List ByteArray):List (Nat × ABlk) :=
  [(90, bp (I 8)), (89, bp (Bo s.g)), (79, bp (I 8)), (78, bp (Bo s.f)), (62, bp (I 8)), (61, bp (Bo s.e)), (53, bp (I 10)), (52, bp (Bo s.d)), (31, bp (I 8)), (30, bp (Bo s.c)), (22, bp (I 2)), (21, bp (Bo s.b)), (14, bp (I 4)), (13, bp (Bo s.a)),
   (8, b1 (.amap 5)), (7, b1 (.amap 4)), (6, b1 (.amap 3)), (5, .set se), (4, .set su), (3, .set ms), (2, .row 9 [h.cells] true false), (1, .row 2 [[I 0, I 0]] true false), (0, .row 9 [h.cells] true false)]
abbrev Ua (k:Nat):Env:=[(2,.ptr 1 0 0),(93,.agg Ybg),(94,I k)]
def set7 (h:Hal):Set7:=⟨Ve h.nm,within h.ht 2 5000,decide ((h.ms.length:Int)<=10),decide (3<=(h.cs.length:Int))&&decide ((h.ws.length:Int)=h.cs.length),decide ((h.ws.length:Int)<=12),decide ((h.ks.length:Int)<=4),decide ((h.ss.length:Int)<=40)⟩
def Xy:ByteArray:=⟨#[102,108,111,111,114]⟩
def Za1:ByteArray:=⟨#[99,101,105,108,105,110,103]⟩
def su0:List ByteArray:=addK Za1 (addK Xy [])
def Znh:Nat->Code->Code
 | n+1,.seq _ y=>Znh n y
 | _,c=>c
def Zwx:Code->Code
 | .seq (.seq _ b) y=>.seq b y
 | .seq _ y=>y
 | c=>c
noncomputable def Zxf:Code:=match Tryz.f93.body with
 | some c=>c
 | none=>.skip
def r130:List AV->Option PRes
 | [.ipt [.bool b],.ipt [.int .i64 e]]=>some ⟨.tup [I 0,I (unl b e)],[]⟩
 | _=>none
def kG7 (h:Hal) (pt:PC):PC:=ins 114 r130 pt
theorem Yak (h:Hal) {pt:PC} (hp:PCOK Tryz.prog pt):PCOK Tryz.prog (kG7 h pt):=by
 refine Zj (fun a res h=>?_) hp
 unfold r130 at h; split at h<;>cases h; exact c130 _ _
noncomputable def lc63:Code:=match Zwx (Znh 5 Zxf) with
 | .seq (.block _ (.loop c)) _=>c
 | _=>.skip
noncomputable def tc63:Code:=match Zwx (Znh 5 Zxf) with
 | .seq _ y=>y
 | _=>.skip
abbrev R63 (res:PRes):Exit->Env->St->Prop:=retQ (tget tbl) Tryz.f93.results.toList fun v σ=>fA v fun v=>Ret res v σ
abbrev Q63 (res:PRes):Exit->Env->St->Prop:=Zfj 0 (seqQ (fun env' σ'=>bs.vcode nos kG6 Tryz.f93.ntmps tc63 env' σ' (R63 res)) (R63 res))
abbrev chkV (p:Int × Int × Int):AV:=.tup [P2 p.1 p.2.1,I p.2.2]
abbrev It63 (sx:FuncId->Bool) (pt:PC) (res:PRes) (k:Nat) (H:List (Nat × ABlk)) (K:Env->St->Prop):Prop :=
 bs.vcode sx pt Tryz.f93.ntmps lc63 (Ua k) ⟨H,98⟩ (seqQ (fun e s=>Done (K e s)) (Q63 res))
theorem it0 {h:Hal} {s:Set7} {ms su se:List ByteArray} {res:PRes} {K:Env->St->Prop} (hR:unl s.a 4≠0->res=⟨chkV (0,0,unl s.a 4),[]⟩)
  (hK:unl s.a 4=0->∀ e σ,Ren 98 e σ (Ua 1) ⟨Zn h s ms su se,98⟩->K e σ):It63 nos (kG7 h kG6) res 0 (Zn h s ms su se) K:=by
 unfold It63 Tj
 repeat'(first|refine wk0 ?_|(refine wk2 ?_ ?_<;>intro _)|fail)
 ·rw [hR (by simp_all)]; exact Zd rfl rfl
 ·exact ⟨hK (by simp_all) _ _ (Ti [] rfl (kps) (kps))⟩
theorem it1 {h:Hal} {s:Set7} {ms su se:List ByteArray} {res:PRes} {K:Env->St->Prop} (hR:unl s.b 2≠0->res=⟨chkV (0,0,unl s.b 2),[]⟩)
  (hK:unl s.b 2=0->∀ e σ,Ren 98 e σ (Ua 2) ⟨Zn h s ms su se,98⟩->K e σ):It63 nos (kG7 h kG6) res 1 (Zn h s ms su se) K:=by
 unfold It63 Tj
 repeat'(first|refine wk0 ?_|(refine wk2 ?_ ?_<;>intro _)|fail)
 ·rw [hR (by simp_all)]; exact Zd rfl rfl
 ·exact ⟨hK (by simp_all) _ _ (Ti [] rfl (kps) (kps))⟩
theorem it2 {h:Hal} {s:Set7} {ms su se:List ByteArray} {res:PRes} {K:Env->St->Prop} (hR:unl s.c 8≠0->res=⟨chkV (0,0,unl s.c 8),[]⟩)
  (hK:unl s.c 8=0->∀ e σ,Ren 98 e σ (Ua 3) ⟨Zn h s ms su se,98⟩->K e σ):It63 nos (kG7 h kG6) res 2 (Zn h s ms su se) K:=by
 unfold It63 Tj
 repeat'(first|refine wk0 ?_|(refine wk2 ?_ ?_<;>intro _)|fail)
 ·rw [hR (by simp_all)]; exact Zd rfl rfl
 ·exact ⟨hK (by simp_all) _ _ (Ti [] rfl (kps) (kps))⟩
theorem it5 {h:Hal} {s:Set7} {ms su se:List ByteArray} {res:PRes} {K:Env->St->Prop} (hR:unl s.d 10≠0->res=⟨chkV (0,0,unl s.d 10),[]⟩)
  (hK:unl s.d 10=0->∀ e σ,Ren 98 e σ (Ua 6) ⟨Zn h s ms su se,98⟩->K e σ):It63 nos (kG7 h kG6) res 5 (Zn h s ms su se) K:=by
 unfold It63 Tj
 repeat'(first|refine wk0 ?_|(refine wk2 ?_ ?_<;>intro _)|fail)
 ·rw [hR (by simp_all)]; exact Zd rfl rfl
 ·exact ⟨hK (by simp_all) _ _ (Ti [] rfl (kps) (kps))⟩
theorem it6 {h:Hal} {s:Set7} {ms su se:List ByteArray} {res:PRes} {K:Env->St->Prop} (hR:unl s.e 8≠0->res=⟨chkV (0,0,unl s.e 8),[]⟩)
  (hK:unl s.e 8=0->∀ e σ,Ren 98 e σ (Ua 7) ⟨Zn h s ms su se,98⟩->K e σ):It63 nos (kG7 h kG6) res 6 (Zn h s ms su se) K:=by
 unfold It63 Tj
 repeat'(first|refine wk0 ?_|(refine wk2 ?_ ?_<;>intro _)|fail)
 ·rw [hR (by simp_all)]; exact Zd rfl rfl
 ·exact ⟨hK (by simp_all) _ _ (Ti [] rfl (kps) (kps))⟩
theorem it11 {h:Hal} {s:Set7} {ms su se:List ByteArray} {res:PRes} {K:Env->St->Prop} (hR:unl s.f 8≠0->res=⟨chkV (0,0,unl s.f 8),[]⟩)
  (hK:unl s.f 8=0->∀ e σ,Ren 98 e σ (Ua 12) ⟨Zn h s ms su se,98⟩->K e σ):It63 nos (kG7 h kG6) res 11 (Zn h s ms su se) K:=by
 unfold It63 Tj
 repeat'(first|refine wk0 ?_|(refine wk2 ?_ ?_<;>intro _)|fail)
 ·rw [hR (by simp_all)]; exact Zd rfl rfl
 ·exact ⟨hK (by simp_all) _ _ (Ti [] rfl (kps) (kps))⟩
theorem it13 {h:Hal} {s:Set7} {ms su se:List ByteArray} {res:PRes} {K:Env->St->Prop} (hR:unl s.g 8≠0->res=⟨chkV (0,0,unl s.g 8),[]⟩)
  (hK:unl s.g 8=0->∀ e σ,Ren 98 e σ (Ua 14) ⟨Zn h s ms su se,98⟩->K e σ):It63 nos (kG7 h kG6) res 13 (Zn h s ms su se) K:=by
 unfold It63 Tj
 repeat'(first|refine wk0 ?_|(refine wk2 ?_ ?_<;>intro _)|fail)
 ·rw [hR (by simp_all)]; exact Zd rfl rfl
 ·exact ⟨hK (by simp_all) _ _ (Ti [] rfl (kps) (kps))⟩
theorem it9 {h:Hal} {s:Set7} {ms su se:List ByteArray} {res:PRes} {K:Env->St->Prop} (hR:unl (Xl h) 24≠0->res=⟨chkV (0,0,unl (Xl h) 24),[]⟩)
  (hK:unl (Xl h) 24=0->∀ e σ,Ren 98 e σ (Ua 10) ⟨Zn h s ms su se,98⟩->K e σ):It63 nos (ins 132 (one [.ipt h.cells] ⟨.tup [I 0,I (unl (Xl h) 24)],[]⟩) (kG7 h kG6)) res 9 (Zn h s ms su se) K:=by
 unfold It63 Tj
 repeat'(first|refine wk0 ?_|(refine wk2 ?_ ?_<;>intro _)|fail)
 ·rw [hR (by simp_all)]; exact Zd rfl rfl
 ·exact ⟨hK (by simp_all) _ _ (Ti [] rfl (kps) (kps))⟩
theorem it10 {h:Hal} {s:Set7} {ms su se:List ByteArray} {res:PRes} {K:Env->St->Prop} (hR:unl (decide (0<Ye h)) 9≠0->res=⟨chkV (0,0,unl (decide (0<Ye h)) 9),[]⟩)
  (hK:unl (decide (0<Ye h)) 9=0->∀ e σ,Ren 98 e σ (Ua 11) ⟨Zn h s ms su se,98⟩->K e σ):It63 nos (ins 134 (one [.ipt h.cells] ⟨.tup [I 0,I (unl (decide (0<Ye h)) 9)],[]⟩) (kG7 h kG6)) res 10 (Zn h s ms su se) K:=by
 unfold It63 Tj
 repeat'(first|refine wk0 ?_|(refine wk2 ?_ ?_<;>intro _)|fail)
 ·rw [hR (by simp_all)]; exact Zd rfl rfl
 ·exact ⟨hK (by simp_all) _ _ (Ti [] rfl (kps) (kps))⟩
def Zhy (h:Hal) (ms:List ByteArray):Int:=unl (Va h.fl ms&&Va h.ce ms) 6
theorem it4 {h:Hal} {s:Set7} {ms su se:List ByteArray} {res:PRes} {K:Env->St->Prop} (hR:Zhy h ms≠0->res=⟨chkV (0, 0, Zhy h ms), []⟩)
    (hK:Zhy h ms=0->∀ e σ, Ren 98 e σ (Ua 5) ⟨Zn h s ms su se, 98⟩->K e σ):It63 (fun f => Ql f 125) (kG7 h kG6) res 4 (Zn h s ms su se) K := by
  unfold It63 Tj
  repeat'(first|refine wk0 ?_|(refine wk2 ?_ ?_<;>intro _)|fail)
  refine bs.sv (sx := nos) Xo Tryz.func125 (by kernel_rfl) (by kernel_rfl) ?_
  repeat'(first|refine wk0 ?_|(refine wk2 ?_ ?_<;>intro _)|fail)
  all_goals first
    | (have e6:Zhy h ms=6 := (by clear hR hK; simp_all [Zhy, unl]; done)
       rw [hR (by rw [e6]; decide), e6]; exact Zd rfl rfl)
    | (rw [hR (by clear hR hK; simp_all [Zhy]; done)]; exact Zd (by clear hR hK; simp_all [Zhy]) rfl)
    | exact ⟨hK (by clear hR hK; simp_all [Zhy]) _ _ (Ti [] rfl (kps) (kps))⟩
theorem Un (l:List Mat):(l.map Mat.av).length=l.length:=by simp
theorem Zku {l:List Mat} {k:Nat} (h:k<l.length):(l.map Mat.av)[((k:Nat):Int).toNat]?=some (Mat.av l[k]):=by simp [h]
def Yp:Nat->List ByteArray->List Mat->Int × Int × List ByteArray
 | _,ns,[]=>(0,0,ns)
 | i,ns,m::l=>if Zt m.nm ns=0 then (if Xx m=0 then Yp (i+1) (addK m.nm ns) l else (i,Xx m,addK m.nm ns)) else (i,Zt m.nm ns,ns)
abbrev sx3:FuncId->Bool:=fun f=>Ql f 117||Ql f 118||Ql f 119||Ql f 120||Ql f 121||Ql f 122
def r138:List AV->Option PRes
 | [.agg [.str nm,.int .i64 a,.int .i64 b,.int .i64 c,.int .i64 d,.int .i64 sc]]=>some ⟨I (Xx ⟨nm,a,b,c,d,sc⟩),[]⟩
 | _=>none
def r137:List AV->Option PRes
 | [.ipt [.str nm,.int .i64 a,.int .i64 b,.int .i64 c,.int .i64 d,.int .i64 sc]]=>some ⟨I (Xx ⟨nm,a,b,c,d,sc⟩),[]⟩
 | _=>none
theorem Zyn:PCOK Tryz.prog (ins 124 r138 kG5):=by
 refine Zj (fun a res h=>?_) Zbo
 unfold r138 at h; split at h<;>cases h; exact c138 ⟨_,_,_,_,_,_⟩
theorem c137 (m:Mat):PCall Tryz.prog 123 [.ipt m.av] ⟨I (Xx m),[]⟩:=by
 refine pn Zyn Tryz.func123 ?_
 repeat'(first|refine wk0 ?_|(refine wk2 ?_ ?_<;>intro _)|fail)
 exact Zb rfl
theorem Zcc:PCOK Tryz.prog (ins 123 r137 kG5):=by
 refine Zj (fun a res h=>?_) Zbo
 unfold r137 at h; split at h<;>cases h; exact c137 ⟨_,_,_,_,_,_⟩
theorem it3 {h:Hal} (hf:h.few) (hnm:∀ m∈h.ms, m.nm.data.toList.length<100000) {s:Set7} {ms su se:List ByteArray} {res:PRes} {K:Env->St->Prop} (hR:(Yp 0 ms h.ms).2.1≠0->res=⟨chkV (1, (Yp 0 ms h.ms).1, (Yp 0 ms h.ms).2.1), []⟩)
    (hK:(Yp 0 ms h.ms).2.1=0->∀ e σ, Ren 98 e σ (Ua 4) ⟨Zn h s (Yp 0 ms h.ms).2.2 su se, 98⟩->K e σ):It63 sx3 (kG7 h kG6) res 3 (Zn h s ms su se) K := by
  unfold It63 Tj
  repeat'(first|refine wk0 ?_|(refine wk2 ?_ ?_<;>intro _)|fail)
  refine bs.sv (sx := sx3) Xo Tryz.func117 (by kernel_rfl) (by kernel_rfl) ?_
  repeat'(first|refine wk0 ?_|(refine wk2 ?_ ?_<;>intro _)|fail)
  refine bs.sv (sx := sx3) Xo Tryz.func118 (by kernel_rfl) (by kernel_rfl) ?_
  refine Zo (S := Nat × Int × List ByteArray) (fun t => h.ms.length-t.1) (fun t => [(1, .func 119 [] [.ptr 0 0 0, .ptr 6 0 0]), (8, I (h.ms.map Mat.av).length), (9, I t.2.1)]) (fun t => (98, .row 2 [[I 1, .func 117 [] [.ptr 0 0 0, .ptr 6 0 0]]] true false)::Zn h s t.2.2 su se) 99 99
    (fun t => t.2.1=t.1/\t.1<=h.ms.length/\Yp t.1 t.2.2 (h.ms.drop t.1)=Yp 0 ms h.ms) (0, 0, ms) ⟨rfl, Qk _, rfl⟩ (Qd _) [] rfl (kps) (kps) ?_
  rintro ⟨k, i, ns⟩ ⟨hi, hk, hh⟩
  dsimp only at hi hk hh ⊢
  subst hi
  generalize Yp 0 ms h.ms=R0 at *
  refine bs.av (sx := sx3) Zcc ?_
  have e3 := Un h.ms
  by_cases hlt:k<h.ms.length
  · have e1 := Zku hlt
    have hs := hnm _ (Qq hlt)
    have ha := Ue (res := ⟨Bo (Ve h.ms[k].nm), []⟩) hs
    rw [Qg hlt, Yp] at hh
    repeat'(first|refine wk1 ?_|(refine wk2 ?_ ?_<;>intro _)|fail)
    refine bs.sv (sx := sx3) Zcc Tryz.func119 (by kernel_rfl) (by kernel_rfl) ?_
    repeat'(first|refine wk1 ?_|(refine wk2 ?_ ?_<;>intro _)|fail)
    refine bs.sv (sx := sx3) Zcc Tryz.func120 (by kernel_rfl) (by kernel_rfl) ?_
    refine Tx 3 ?_
    refine Rn (bs.av (sx := sx3) Zcc ?_)
    repeat'(first|refine wk1 ?_|(refine wk2 ?_ ?_<;>intro _)|fail)
    refine bs.sv (sx := sx3) Zcc Tryz.func121 (by kernel_rfl) (by kernel_rfl) ?_
    repeat'(first|refine wk1 ?_|(refine wk2 ?_ ?_<;>intro _)|fail)
    refine bs.sv (sx := sx3) Zcc Tryz.func122 (by kernel_rfl) (by kernel_rfl) ?_
    repeat'(first|refine wk1 ?_|(refine wk2 ?_ ?_<;>intro _)|fail)
    all_goals try (refine Rn (bs.av (sx := sx3) Zcc ?_))
    repeat'(first|refine wk1 ?_|(refine wk2 ?_ ?_<;>intro _)|fail)
    all_goals try (refine Rn (bs.av (sx := sx3) Zcc ?_))
    repeat'(first|refine wk1 ?_|(refine wk2 ?_ ?_<;>intro _)|fail)
    all_goals (clear e1 ha e3)
    all_goals first
      | (have e:R0=((k:Int), 4, ns) := (by rw [<-hh]; clear hR hK hh; simp_all [Zt]; done)
         subst e; rw [hR (by simp)]; exact Zd rfl rfl)
      | (have e:R0=((k:Int), 5, ns) := (by rw [<-hh]; clear hR hK hh; simp_all [Zt]; done)
         subst e; rw [hR (by simp)]; exact Zd rfl rfl)
      | (have e:R0=((k:Int), Xx h.ms[k], addK h.ms[k].nm ns) := (by rw [<-hh]; clear hR hK hh; simp_all [Zt]; done)
         subst e; rw [hR (by clear hR hK hh; simp_all; done)]; exact Zd rfl rfl)
      | exact Qr ⟨(k+1, _, addK h.ms[k].nm ns), [], rfl, kps, kps, ⟨Zg (by have := hf.1; omega), hlt, by rw [<-hh]; clear hR hK hh; simp_all [Zt]; done⟩, by dsimp only; omega⟩
      | (exfalso; clear hR hK hh; simp_all; done)
  · rw [Qj (by omega)] at hh
    repeat'(first|refine wk1 ?_|(refine wk2 ?_ ?_<;>intro _)|fail)
    subst hh
    exact ⟨hK rfl _ _ (Ti [] rfl (kps) (kps))⟩
theorem Zl5 (l:List (Int × Int)):(l.map pt).length=l.length:=by simp
theorem Ybf {l:List (Int × Int)} {k:Nat} (h:k<l.length):(l.map pt)[((k:Nat):Int).toNat]?=some [I l[k].1,I l[k].2]:=by simp [h]
def Ze2:Nat->List (Int × Int)->Int × Int
 | _,[]=>(0,0)
 | i,p::l=>if Ze1 p.1 p.2 then Ze2 (i+1) l else (i,2)
abbrev sx7:FuncId->Bool:=fun f=>Ql f 126||Ql f 118||Ql f 127
theorem it7 {h:Hal} (hf:h.few) {s:Set7} {ms su se:List ByteArray} {res:PRes} {K:Env->St->Prop} (hR:(Ze2 0 h.cs).2≠0->res=⟨chkV (2,(Ze2 0 h.cs).1,(Ze2 0 h.cs).2),[]⟩)
  (hK:(Ze2 0 h.cs).2=0->∀ e σ,Ren 98 e σ (Ua 8) ⟨Zn h s ms su se,98⟩->K e σ):It63 sx7 (kG7 h kG6) res 7 (Zn h s ms su se) K:=by
 unfold It63 Tj
 repeat'(first|refine wk0 ?_|(refine wk2 ?_ ?_<;>intro _)|fail)
 refine bs.sv (sx:=sx7) Xo Tryz.func126 (by kernel_rfl) (by kernel_rfl) ?_
 repeat'(first|refine wk0 ?_|(refine wk2 ?_ ?_<;>intro _)|fail)
 refine bs.sv (sx:=sx7) Xo Tryz.func118 (by kernel_rfl) (by kernel_rfl) ?_
 refine Zo (S:=Nat × Int) (fun t=>h.cs.length-t.1) (fun t=>[(1,.func 127 [] [.ptr 0 0 0]),(8,I (h.cs.map pt).length),(9,I t.2)]) (fun t=>(98,.row 2 [[I 2,.func 126 [] [.ptr 0 0 0]]] true false)::Zn h s ms su se) 99 99
  (fun t=>t.2=t.1/\t.1<=h.cs.length/\Ze2 t.1 (h.cs.drop t.1)=Ze2 0 h.cs) (0,0) ⟨rfl,Qk _,rfl⟩ (Qd _) [] rfl (kps) (kps) ?_
 rintro ⟨k,i⟩ ⟨hi,hk,hh⟩
 dsimp only at hi hk hh ⊢
 subst hi
 generalize Ze2 0 h.cs=R0 at *
 refine bs.av (sx:=sx7) Xo ?_
 have e3:=Zl5 h.cs
 by_cases hlt:k<h.cs.length
 ·have e1:=Ybf hlt
  rw [Qg hlt,Ze2] at hh
  repeat'(first|refine wk1 ?_|(refine wk2 ?_ ?_<;>intro _)|fail)
  refine bs.sv (sx:=sx7) Xo Tryz.func127 (by kernel_rfl) (by kernel_rfl) ?_
  cases hcor:Ze1 h.cs[k].1 h.cs[k].2 with
  | false =>
   rw [hcor,if_neg (by simp)] at hh
   subst hh
   repeat'(first|refine wk1 ?_|(refine wk2 ?_ ?_<;>intro _)|fail)
   ·rw [hR (by simp),hcor]; exact Zd rfl rfl
   all_goals (exfalso; clear hR hK; simp_all [unl]; done)
  | true =>
   rw [hcor,if_pos rfl] at hh
   repeat'(first|refine wk1 ?_|(refine wk2 ?_ ?_<;>intro _)|fail)
   ·exfalso; clear hR hK hh; simp_all [unl]; done
   ·exfalso; clear hR hK hh; simp_all [unl]; done
   ·exact Qr ⟨(k+1,_),[],rfl,kps,kps,⟨Zg (by have:=hf.2.1; omega),hlt,hh⟩,by dsimp only; omega⟩
 ·rw [Qj (by omega)] at hh
  repeat'(first|refine wk1 ?_|(refine wk2 ?_ ?_<;>intro _)|fail)
  subst hh
  exact ⟨hK rfl _ _ (Ti [] rfl (kps) (kps))⟩
theorem Ybj {h:Hal} (hf:h.few) {k:Nat} (hk:k<h.cs.length):PCall Tryz.prog 99 [h.av,I k] ⟨(wlOf h.cs k).av,[]⟩:=by
 have e1:=Zdb hk
 have e2:=Zdb (ps:=h.cs) (i:=(k+1)%h.cs.length) (Pf _ (by omega))
 have e3:(h.cs.map pt).length=h.cs.length:=by simp
 exact c145 (by rw [e3]; exact hf.2.1) e1 (by rw [e3]; exact e2)
theorem Yn (l:List Wal):(l.map Wal.av).length=l.length:=by simp
theorem Zf4 {l:List Wal} {k:Nat} (h:k<l.length):(l.map Wal.av)[((k:Nat):Int).toNat]?=some (Wal.av l[k]):=by simp [h]
def Zca (w:Wl):Int:=if decide (w.fx=w.tx)&&decide (w.fy=w.ty) then 11 else if w.straight then 0 else 15
def Zqz (L:Wl) (ms:List ByteArray) (w:Wal):Int:=if Va w.mt ms&&((w.cu==⟨#[]⟩)||Va w.cu ms) then Zca L else 6
def wErr (cs:List (Int × Int)) (ms:List ByteArray) (i:Nat) (w:Wal):Int:=Zqz (wlOf cs i) ms w
theorem Zrt {l k E:Int} {R0:Int × Int × List ByteArray} {res:PRes} {σ:St} (hR:R0.2.1≠0->res=⟨chkV (l,R0.1,R0.2.1),[]⟩) (h1:R0.1=k) (h2:R0.2.1=E) (h3:E≠0):Ret res (.tup [.agg [I l,I k],I E]) σ:=by
 rw [hR (by rw [h2]; exact h3),h1,h2]; exact Zd rfl rfl
def Zbs (cs:List (Int × Int)) (ms:List ByteArray):Nat->List ByteArray->List Wal->Int × Int × List ByteArray
 | _,ns,[]=>(0,0,ns)
 | i,ns,w::l=>if Zt w.nm ns=0 then (if wErr cs ms i w=0 then Zbs cs ms (i+1) (addK w.nm ns) l else (i,wErr cs ms i w,addK w.nm ns)) else (i,Zt w.nm ns,ns)
abbrev sx8:FuncId->Bool:=fun f=>Ql f 129||Ql f 118||Ql f 130||Ql f 122
theorem it8 {h:Hal} (hf:h.few) (hnm:∀ m∈h.ws,m.nm.data.toList.length<100000) (hwc:h.ws.length<=h.cs.length) {s:Set7} {ms su se:List ByteArray} {res:PRes} {K:Env->St->Prop} (hR:(Zbs h.cs ms 0 su h.ws).2.1≠0->res=⟨chkV (3,(Zbs h.cs ms 0 su h.ws).1,(Zbs h.cs ms 0 su h.ws).2.1),[]⟩)
  (hK:(Zbs h.cs ms 0 su h.ws).2.1=0->∀ e σ,Ren 98 e σ (Ua 9) ⟨Zn h s ms (Zbs h.cs ms 0 su h.ws).2.2 se,98⟩->K e σ):It63 sx8 (kG7 h kG6) res 8 (Zn h s ms su se) K:=by
 unfold It63 Tj
 repeat'(first|refine wk0 ?_|(refine wk2 ?_ ?_<;>intro _)|fail)
 refine bs.sv (sx:=sx8) Xo Tryz.func129 (by kernel_rfl) (by kernel_rfl) ?_
 repeat'(first|refine wk0 ?_|(refine wk2 ?_ ?_<;>intro _)|fail)
 refine bs.sv (sx:=sx8) Xo Tryz.func118 (by kernel_rfl) (by kernel_rfl) ?_
 refine Zo (S:=Nat × Int × List ByteArray) (fun t=>h.ws.length-t.1) (fun t=>[(1,.func 130 [] [.ptr 0 0 0,.ptr 2 0 0,.ptr 7 0 0,.ptr 6 0 0]),(8,I (h.ws.map Wal.av).length),(9,I t.2.1)]) (fun t=>(98,.row 2 [[I 3,.func 129 [] [.ptr 0 0 0,.ptr 2 0 0,.ptr 7 0 0,.ptr 6 0 0]]] true false)::Zn h s ms t.2.2 se) 99 99
  (fun t=>t.2.1=t.1/\t.1<=h.ws.length/\Zbs h.cs ms t.1 t.2.2 (h.ws.drop t.1)=Zbs h.cs ms 0 su h.ws) (0,0,su) ⟨rfl,Qk _,rfl⟩ (Qd _) [] rfl (kps) (kps) ?_
 rintro ⟨k,i,ns⟩ ⟨hi,hk,hh⟩
 dsimp only at hi hk hh ⊢
 subst hi
 generalize Zbs h.cs ms 0 su h.ws=R0 at *
 have e3:=Yn h.ws
 by_cases hlt:k<h.ws.length
 ·have e1:=Zf4 hlt
  have hs:=hnm _ (Qq hlt)
  have ha:=Ue (res:=⟨Bo (Ve h.ws[k].nm),[]⟩) hs
  have hk2:=Zi (Ybj hf (show k<h.cs.length by omega)) Xo
  rw [Qg hlt,Zbs] at hh
  unfold wErr at hh
  generalize wlOf h.cs k=L at *
  obtain ⟨ln,la,lb,lc,ld⟩:=L
  refine bs.av (sx:=sx8) hk2 ?_
  repeat'(first|refine wk1 ?_|(refine wk2 ?_ ?_<;>intro _)|fail)
  refine bs.sv (sx:=sx8) hk2 Tryz.func130 (by kernel_rfl) (by kernel_rfl) ?_
  repeat'(first|refine wk1 ?_|(refine wk2 ?_ ?_<;>intro _)|fail)
  refine bs.sv (sx:=sx8) hk2 Tryz.func122 (by kernel_rfl) (by kernel_rfl) ?_
  repeat'(first|refine wk1 ?_|(refine wk2 ?_ ?_<;>intro _)|fail)
  all_goals (clear e1 ha e3 hk2)
  all_goals first
   | exact Zrt hR (by rw [<-hh]; clear hR hK hh; by_cases hla:la=lc<;>by_cases hlb:lb=ld<;>simp_all [Zt,Zqz,Zca]; done) (by rw [<-hh]; clear hR hK hh; by_cases hla:la=lc<;>by_cases hlb:lb=ld<;>simp_all [Zt,Zqz,Zca]; done) (by decide)
   | exact Qr ⟨(k+1,_,addK h.ws[k].nm ns),[],rfl,kps,kps,⟨Zg (by have:=hf.2.2.1; omega),hlt,by rw [<-hh]; clear hR hK hh; by_cases hla:la=lc<;>by_cases hlb:lb=ld<;>simp_all [Zt,Zqz,Zca]; done⟩,by dsimp only; omega⟩
   | (exfalso; clear hR hK hh; simp_all; done)
 ·rw [Qj (by omega)] at hh
  refine bs.av (sx:=sx8) Xo ?_
  repeat'(first|refine wk1 ?_|(refine wk2 ?_ ?_<;>intro _)|fail)
  subst hh
  exact ⟨hK rfl _ _ (Ti [] rfl (kps) (kps))⟩
theorem Xq (l:List Can):(l.map Can.av).length=l.length:=by simp
theorem Zfi {l:List Can} {k:Nat} (h:k<l.length):(l.map Can.av)[((k:Nat):Int).toNat]?=some (Can.av l[k]):=by simp [h]
def cErr (h:Hal) (ms:List ByteArray) (c:Can):Int:=if Va c.mt ms then Zeh h c else 6
def Zbt (h:Hal) (ms:List ByteArray):Nat->List ByteArray->List Can->Int × Int × List ByteArray
 | _,ns,[]=>(0,0,ns)
 | i,ns,c::l=>if Zt c.nm ns=0 then (if cErr h ms c=0 then Zbt h ms (i+1) (addK c.nm ns) l else (i,cErr h ms c,addK c.nm ns)) else (i,Zt c.nm ns,ns)
abbrev sx12:FuncId->Bool:=fun f=>Ql f 135||Ql f 118||Ql f 136||Ql f 120||Ql f 137||Ql f 122||Ql f 138||Ql f 139
theorem Za8 {l k E:Int} {R0:Int × Int × List ByteArray} {res:PRes} {σ:St} (hR:R0.2.1≠0->res=⟨chkV (l,R0.1,R0.2.1),[]⟩) (h1:R0.1=k/\R0.2.1=E) (h3:E≠0):Ret res (.tup [.agg [I l,I k],I E]) σ:=Zrt hR h1.1 h1.2 h3
theorem it12 {h:Hal} (hf:h.few) (hnm:∀ m∈h.ks,m.nm.data.toList.length<100000) {s:Set7} {ms su se:List ByteArray} {res:PRes} {K:Env->St->Prop} (hR:(Zbt h ms 0 su h.ks).2.1≠0->res=⟨chkV (4,(Zbt h ms 0 su h.ks).1,(Zbt h ms 0 su h.ks).2.1),[]⟩)
  (hK:(Zbt h ms 0 su h.ks).2.1=0->∀ e σ,Ren 98 e σ (Ua 13) ⟨Zn h s ms (Zbt h ms 0 su h.ks).2.2 se,98⟩->K e σ):It63 sx12 (kG7 h kG6) res 12 (Zn h s ms su se) K:=by
 unfold It63 Tj
 repeat'(first|refine wk0 ?_|(refine wk2 ?_ ?_<;>intro _)|fail)
 refine bs.sv (sx:=sx12) Xo Tryz.func135 (by kernel_rfl) (by kernel_rfl) ?_
 repeat'(first|refine wk0 ?_|(refine wk2 ?_ ?_<;>intro _)|fail)
 refine bs.sv (sx:=sx12) Xo Tryz.func118 (by kernel_rfl) (by kernel_rfl) ?_
 refine Zo (S:=Nat × Int × List ByteArray) (fun t=>h.ks.length-t.1) (fun t=>[(1,.func 136 [] [.ptr 0 0 0,.ptr 7 0 0,.ptr 6 0 0,.ptr 2 0 0]),(8,I (h.ks.map Can.av).length),(9,I t.2.1)]) (fun t=>(98,.row 2 [[I 4,.func 135 [] [.ptr 0 0 0,.ptr 7 0 0,.ptr 6 0 0,.ptr 2 0 0]]] true false)::Zn h s ms t.2.2 se) 99 99
  (fun t=>t.2.1=t.1/\t.1<=h.ks.length/\Zbt h ms t.1 t.2.2 (h.ks.drop t.1)=Zbt h ms 0 su h.ks) (0,0,su) ⟨rfl,Qk _,rfl⟩ (Qd _) [] rfl (kps) (kps) ?_
 rintro ⟨k,i,ns⟩ ⟨hi,hk,hh⟩
 dsimp only at hi hk hh ⊢
 subst hi
 generalize Zbt h ms 0 su h.ks=R0 at *
 have e3:=Xq h.ks
 by_cases hlt:k<h.ks.length
 ·have e1:=Zfi hlt
  have hs:=hnm _ (Qq hlt)
  have ha:=Ue (res:=⟨Bo (Ve h.ks[k].nm),[]⟩) hs
  have hk2:=Zi (c155 hf h.ks[k] (hf.2.2.2.2.2 _ (Qq hlt))) Xo
  rw [Qg hlt,Zbt] at hh
  generalize hce:Zeh h h.ks[k]=ce at *
  refine bs.av (sx:=sx12) hk2 ?_
  repeat'(first|refine wk1 ?_|(refine wk2 ?_ ?_<;>intro _)|fail)
  refine bs.sv (sx:=sx12) hk2 Tryz.func136 (by kernel_rfl) (by kernel_rfl) ?_
  repeat'(first|refine wk1 ?_|(refine wk2 ?_ ?_<;>intro _)|fail)
  refine bs.sv (sx:=sx12) hk2 Tryz.func120 (by kernel_rfl) (by kernel_rfl) ?_
  refine Tx 4 ?_
  refine Rn (bs.av (sx:=sx12) hk2 ?_)
  repeat'(first|refine wk1 ?_|(refine wk2 ?_ ?_<;>intro _)|fail)
  refine bs.sv (sx:=sx12) hk2 Tryz.func137 (by kernel_rfl) (by kernel_rfl) ?_
  repeat'(first|refine wk1 ?_|(refine wk2 ?_ ?_<;>intro _)|fail)
  refine bs.sv (sx:=sx12) hk2 Tryz.func122 (by kernel_rfl) (by kernel_rfl) ?_
  repeat'(first|refine wk1 ?_|(refine wk2 ?_ ?_<;>intro _)|fail)
  ·exact Za8 hR (by rw [<-hh]; clear hR hK hh hk2 ha e1 e3; simp_all [Zt]; done) (by decide)
  ·exact Za8 hR (by rw [<-hh]; clear hR hK hh hk2 ha e1 e3; simp_all [Zt]; done) (by decide)
  refine Rn (bs.av (sx:=sx12) hk2 ?_)
  repeat'(first|refine wk1 ?_|(refine wk2 ?_ ?_<;>intro _)|fail)
  refine bs.sv (sx:=sx12) hk2 Tryz.func138 (by kernel_rfl) (by kernel_rfl) ?_
  have hadd:Zt h.ks[k].nm ns=0:=by clear hR hK hh hk2 ha e1 e3; simp_all [Zt]; done
  rw [hadd,if_pos rfl,cErr,hce] at hh
  cases hel:Va h.ks[k].mt ms with
  | false =>
   rw [hel,if_neg (by simp),if_neg (by decide)] at hh
   subst hh
   repeat'(first|refine wk1 ?_|(refine wk2 ?_ ?_<;>intro _)|fail)
   ·rw [hel]; exact Za8 hR ⟨rfl,rfl⟩ (by decide)
   all_goals (exfalso; clear hR hK hk2 ha e1 e3; simp_all [unl]; done)
  | true =>
   rw [hel,if_pos rfl] at hh
   repeat'(first|refine wk1 ?_|(refine wk2 ?_ ?_<;>intro _)|fail)
   all_goals try (exfalso; clear hR hK hh hk2 ha e1 e3; simp_all [unl]; done)
   refine Rn (bs.av (sx:=sx12) hk2 ?_)
   repeat'(first|refine wk1 ?_|(refine wk2 ?_ ?_<;>intro _)|fail)
   refine bs.sv (sx:=sx12) hk2 Tryz.func139 (by kernel_rfl) (by kernel_rfl) ?_
   by_cases hz:ce=0
   ·subst hz
    rw [if_pos rfl] at hh
    repeat'(first|refine wk1 ?_|(refine wk2 ?_ ?_<;>intro _)|fail)
    all_goals try (refine Rn (bs.av (sx:=sx12) hk2 ?_))
    repeat'(first|refine wk1 ?_|(refine wk2 ?_ ?_<;>intro _)|fail)
    exact Qr ⟨(k+1,_,addK h.ks[k].nm ns),[],rfl,kps,kps,⟨Zg (by have:=hf.2.2.2.1; omega),hlt,hh⟩,by dsimp only; omega⟩
   ·rw [if_neg hz] at hh
    subst hh
    repeat'(first|refine wk1 ?_|(refine wk2 ?_ ?_<;>intro _)|fail)
    ·exact Za8 hR ⟨rfl,rfl⟩ hz
    all_goals (exfalso; clear hR hK hk2 ha e1 e3; simp_all; done)
 ·rw [Qj (by omega)] at hh
  refine bs.av (sx:=sx12) Xo ?_
  repeat'(first|refine wk1 ?_|(refine wk2 ?_ ?_<;>intro _)|fail)
  subst hh
  exact ⟨hK rfl _ _ (Ti [] rfl (kps) (kps))⟩
theorem Zb1 (l:List Sea):(l.map Sea.av).length=l.length:=by simp
theorem Zn2 {l:List Sea} {k:Nat} (h:k<l.length):(l.map Sea.av)[((k:Nat):Int).toNat]?=some (Sea.av l[k]):=by simp [h]
def Za5 (h:Hal):Nat->List ByteArray->List Sea->Int × Int × List ByteArray
 | _,ns,[]=>(0,0,ns)
 | i,ns,c::l=>if Zt c.nm ns=0 then (if Zgr h c.x c.y c.z=0 then Za5 h (i+1) (addK c.nm ns) l else (i,Zgr h c.x c.y c.z,addK c.nm ns)) else (i,Zt c.nm ns,ns)
abbrev sx14:FuncId->Bool:=fun f=>Ql f 141||Ql f 118||Ql f 142||Ql f 120||Ql f 143||Ql f 122||Ql f 144
theorem it14 {h:Hal} (hf:h.few) (hnm:∀ m∈h.ss,m.nm.data.toList.length<100000) {s:Set7} {ms su se:List ByteArray} {res:PRes} {K:Env->St->Prop} (hR:(Za5 h 0 se h.ss).2.1≠0->res=⟨chkV (5,(Za5 h 0 se h.ss).1,(Za5 h 0 se h.ss).2.1),[]⟩)
  (hK:(Za5 h 0 se h.ss).2.1=0->∀ e σ,Ren 98 e σ (Ua 15) ⟨Zn h s ms su (Za5 h 0 se h.ss).2.2,98⟩->K e σ):It63 sx14 (kG7 h kG6) res 14 (Zn h s ms su se) K:=by
 unfold It63 Tj
 repeat'(first|refine wk0 ?_|(refine wk2 ?_ ?_<;>intro _)|fail)
 refine bs.sv (sx:=sx14) Xo Tryz.func141 (by kernel_rfl) (by kernel_rfl) ?_
 repeat'(first|refine wk0 ?_|(refine wk2 ?_ ?_<;>intro _)|fail)
 refine bs.sv (sx:=sx14) Xo Tryz.func118 (by kernel_rfl) (by kernel_rfl) ?_
 refine Zo (S:=Nat × Int × List ByteArray) (fun t=>h.ss.length-t.1) (fun t=>[(1,.func 142 [] [.ptr 0 0 0,.ptr 8 0 0,.ptr 2 0 0]),(8,I (h.ss.map Sea.av).length),(9,I t.2.1)]) (fun t=>(98,.row 2 [[I 5,.func 141 [] [.ptr 0 0 0,.ptr 8 0 0,.ptr 2 0 0]]] true false)::Zn h s ms su t.2.2) 99 99
  (fun t=>t.2.1=t.1/\t.1<=h.ss.length/\Za5 h t.1 t.2.2 (h.ss.drop t.1)=Za5 h 0 se h.ss) (0,0,se) ⟨rfl,Qk _,rfl⟩ (Qd _) [] rfl (kps) (kps) ?_
 rintro ⟨k,i,ns⟩ ⟨hi,hk,hh⟩
 dsimp only at hi hk hh ⊢
 subst hi
 generalize Za5 h 0 se h.ss=R0 at *
 have e3:=Zb1 h.ss
 by_cases hlt:k<h.ss.length
 ·have e1:=Zn2 hlt
  have hs:=hnm _ (Qq hlt)
  have ha:=Ue (res:=⟨Bo (Ve h.ss[k].nm),[]⟩) hs
  have hk2:=Zi (c160 hf h.ss[k].x h.ss[k].y h.ss[k].z) Xo
  rw [Qg hlt,Za5] at hh
  generalize hce:Zgr h h.ss[k].x h.ss[k].y h.ss[k].z=ce at *
  refine bs.av (sx:=sx14) hk2 ?_
  repeat'(first|refine wk1 ?_|(refine wk2 ?_ ?_<;>intro _)|fail)
  refine bs.sv (sx:=sx14) hk2 Tryz.func142 (by kernel_rfl) (by kernel_rfl) ?_
  repeat'(first|refine wk1 ?_|(refine wk2 ?_ ?_<;>intro _)|fail)
  refine bs.sv (sx:=sx14) hk2 Tryz.func120 (by kernel_rfl) (by kernel_rfl) ?_
  refine Tx 3 ?_
  refine Rn (bs.av (sx:=sx14) hk2 ?_)
  repeat'(first|refine wk1 ?_|(refine wk2 ?_ ?_<;>intro _)|fail)
  refine bs.sv (sx:=sx14) hk2 Tryz.func143 (by kernel_rfl) (by kernel_rfl) ?_
  repeat'(first|refine wk1 ?_|(refine wk2 ?_ ?_<;>intro _)|fail)
  refine bs.sv (sx:=sx14) hk2 Tryz.func122 (by kernel_rfl) (by kernel_rfl) ?_
  repeat'(first|refine wk1 ?_|(refine wk2 ?_ ?_<;>intro _)|fail)
  ·exact Za8 hR (by rw [<-hh]; clear hR hK hh hk2 ha e1 e3; simp_all [Zt]; done) (by decide)
  ·exact Za8 hR (by rw [<-hh]; clear hR hK hh hk2 ha e1 e3; simp_all [Zt]; done) (by decide)
  refine Rn (bs.av (sx:=sx14) hk2 ?_)
  repeat'(first|refine wk1 ?_|(refine wk2 ?_ ?_<;>intro _)|fail)
  refine bs.sv (sx:=sx14) hk2 Tryz.func144 (by kernel_rfl) (by kernel_rfl) ?_
  have hadd:Zt h.ss[k].nm ns=0:=by clear hR hK hh hk2 ha e1 e3; simp_all [Zt]; done
  rw [hadd,if_pos rfl] at hh
  by_cases hz:ce=0
  ·subst hz
   rw [if_pos rfl] at hh
   repeat'(first|refine wk1 ?_|(refine wk2 ?_ ?_<;>intro _)|fail)
   all_goals try (refine Rn (bs.av (sx:=sx14) hk2 ?_))
   repeat'(first|refine wk1 ?_|(refine wk2 ?_ ?_<;>intro _)|fail)
   exact Qr ⟨(k+1,_,addK h.ss[k].nm ns),[],rfl,kps,kps,⟨Zg (by have:=hf.2.2.2.2.1; omega),hlt,hh⟩,by dsimp only; omega⟩
  ·rw [if_neg hz] at hh
   subst hh
   repeat'(first|refine wk1 ?_|(refine wk2 ?_ ?_<;>intro _)|fail)
   ·exact Za8 hR ⟨rfl,rfl⟩ hz
   all_goals (exfalso; clear hR hK hk2 ha e1 e3; simp_all; done)
 ·rw [Qj (by omega)] at hh
  refine bs.av (sx:=sx14) Xo ?_
  repeat'(first|refine wk1 ?_|(refine wk2 ?_ ?_<;>intro _)|fail)
  subst hh
  exact ⟨hK rfl _ _ (Ti [] rfl (kps) (kps))⟩
def Zr:List (Int × Int × Int)->Int × Int × Int
 | []=>(0,0,0)
 | x::l=>if x.2.2=0 then Zr l else x
def Hal.names (h:Hal):List ByteArray:=(Yp 0 [] h.ms).2.2
def Hal.wal (h:Hal):Int × Int × List ByteArray:=Zbs h.cs h.names 0 su0 h.ws
def Hal.can (h:Hal):Int × Int × List ByteArray:=Zbt h h.names 0 h.wal.2.2 h.ks
def Zno (h:Hal):List (Int × Int × Int) :=
  [(0, 0, unl (set7 h).a 4), (0, 0, unl (set7 h).b 2), (0, 0, unl (set7 h).c 8), (1, (Yp 0 [] h.ms).1, (Yp 0 [] h.ms).2.1), (0, 0, Zhy h h.names), (0, 0, unl (set7 h).d 10), (0, 0, unl (set7 h).e 8), (2, (Ze2 0 h.cs).1, (Ze2 0 h.cs).2),
   (3, h.wal.1, h.wal.2.1), (0, 0, unl (Xl h) 24), (0, 0, unl (decide (0<Ye h)) 9), (0, 0, unl (set7 h).f 8), (4, h.can.1, h.can.2.1), (0, 0, unl (set7 h).g 8), (5, (Za5 h 0 [] h.ss).1, (Za5 h 0 [] h.ss).2.1)]
def chk (h:Hal):Int × Int × Int:=Zr (Zno h)
structure Hal.texts (h:Hal):Prop where
 nm:h.nm.data.toList.length<100000
 ms:∀ m∈h.ms,m.nm.data.toList.length<100000
 ws:∀ m∈h.ws,m.nm.data.toList.length<100000
 ks:∀ m∈h.ks,m.nm.data.toList.length<100000
 ss:∀ m∈h.ss,m.nm.data.toList.length<100000
theorem LpR.it {P:Program} {N n0 m:Nat} {c:Code} {Q:Exit->Env->St->Prop} {env env2:Env} {σ σ2:St} (hr:Ren n0 env σ env2 σ2) (h:Awp P N c env2 σ2 (seqQ (fun e s=>Done (LpR P N n0 c Q m e s)) Q)):LpR P N n0 c Q (m+1) env σ :=
 LpR.go hr (h.seqMono fun _ _ k=>k.1)
theorem Yu {res:PRes} {x:Int × Int × Int} {l:List (Int × Int × Int)} (h:res=⟨chkV (Zr (x::l)),[]⟩):x.2.2≠0->res=⟨chkV x,[]⟩:=fun hx=>by rw [h,Zr,if_neg hx]
theorem Yv {res:PRes} {x:Int × Int × Int} {l:List (Int × Int × Int)} (h:res=⟨chkV (Zr (x::l)),[]⟩) (hx:x.2.2=0):res=⟨chkV (Zr l),[]⟩:=by rw [h,Zr,if_pos hx]
theorem Vr {b:Bool} {e:Int} (h:unl b e=0) (he:e≠0):b=true:=by cases b; exact (he h).elim; rfl
theorem Zzx {h:Hal} (hf:h.few) (ht:h.texts) {res:PRes} (h0:res=⟨chkV (chk h),[]⟩):Lp Tryz.prog Tryz.f93.ntmps lc63 (Ua 0) ⟨Zn h (set7 h) [] su0 [],98⟩ (Q63 res):=by
 have hg:=Yak h Xo
 refine LpR.start 16 98 (Qd _) ?_
 refine LpR.it (Ti [] rfl (kps) (kps)) (bs.av hg (it0 (Yu h0) fun z0 e σ hr=>?_))
 have h1:=Yv h0 z0
 refine LpR.it hr (bs.av hg (it1 (Yu h1) fun z1 e σ hr=>?_))
 have h2:=Yv h1 z1
 refine LpR.it hr (bs.av hg (it2 (Yu h2) fun z2 e σ hr=>?_))
 have h3:=Yv h2 z2
 refine LpR.it hr (bs.av hg (it3 hf ht.ms (Yu h3) fun z3 e σ hr=>?_))
 have h4:=Yv h3 z3
 refine LpR.it hr (bs.av hg (it4 (Yu h4) fun z4 e σ hr=>?_))
 have h5:=Yv h4 z4
 refine LpR.it hr (bs.av hg (it5 (Yu h5) fun z5 e σ hr=>?_))
 have h6:=Yv h5 z5
 refine LpR.it hr (bs.av hg (it6 (Yu h6) fun z6 e σ hr=>?_))
 have h7:=Yv h6 z6
 refine LpR.it hr (bs.av hg (it7 hf (Yu h7) fun z7 e σ hr=>?_))
 have h8:=Yv h7 z7
 have hwc:h.ws.length<=h.cs.length:=by
  have:=Vr z5 (by decide)
  simp only [set7,Qc,decide_eq_true_eq] at this
  omega
 refine LpR.it hr (bs.av hg (it8 hf ht.ws hwc (Yu h8) fun z8 e σ hr=>?_))
 have h9:=Yv h8 z8
 refine LpR.it hr (bs.av (Zi (c147 hf) hg) (it9 (Yu h9) fun z9 e σ hr=>?_))
 have h10:=Yv h9 z9
 refine LpR.it hr (bs.av (Zi (c149 hf) hg) (it10 (Yu h10) fun z10 e σ hr=>?_))
 have h11:=Yv h10 z10
 refine LpR.it hr (bs.av hg (it11 (Yu h11) fun z11 e σ hr=>?_))
 have h12:=Yv h11 z11
 refine LpR.it hr (bs.av hg (it12 hf ht.ks (Yu h12) fun z12 e σ hr=>?_))
 have h13:=Yv h12 z12
 refine LpR.it hr (bs.av hg (it13 (Yu h13) fun z13 e σ hr=>?_))
 have h14:=Yv h13 z13
 refine LpR.it hr (bs.av hg (it14 hf ht.ss (Yu h14) fun z14 e σ hr=>?_))
 have h15:=Yv h14 z14
 refine LpR.go hr (bs.av (sx:=nos) hg ?_)
 repeat'(first|refine wk0 ?_|(refine wk2 ?_ ?_<;>intro _)|fail)
 rw [h15]
 exact Zd rfl rfl
theorem c63 {h:Hal} (hf:h.few) (ht:h.texts):PCall Tryz.prog 93 [h.av] ⟨chkV (chk h),[]⟩:=by
 have ha:=Ue (res:=⟨Bo (Ve h.nm),[]⟩) ht.nm
 have l1:(h.ms.map Mat.av).length=h.ms.length:=by simp
 have l2:(h.cs.map pt).length=h.cs.length:=by simp
 have l3:(h.ws.map Wal.av).length=h.ws.length:=by simp
 have l4:(h.ks.map Can.av).length=h.ks.length:=by simp
 have l5:(h.ss.map Sea.av).length=h.ss.length:=by simp
 have key:=Zzx hf ht rfl
 refine pn Xo Tryz.func93 ?_
 repeat'(first|refine wk0 ?_|(refine wk2 ?_ ?_<;>intro _)|fail)
 ·rename_i hb
  have e7:set7 h=⟨Ve h.nm,within h.ht 2 5000,decide (((h.ms.map Mat.av).length:Int)<=10),decide (((h.ws.map Wal.av).length:Int)=(h.cs.map pt).length),decide (((h.ws.map Wal.av).length:Int)<=12),decide (((h.ks.map Can.av).length:Int)<=4),decide (((h.ss.map Sea.av).length:Int)<=40)⟩:=by
   rw [l2] at hb
   rw [l1,l2,l3,l4,l5,set7,hb]; rfl
  rw [e7] at key
  refine Lp.ren (Ti [] rfl (kps) (kps)) key
 ·rename_i hb
  have e7:set7 h=⟨Ve h.nm,within h.ht 2 5000,decide (((h.ms.map Mat.av).length:Int)<=10),false,decide (((h.ws.map Wal.av).length:Int)<=12),decide (((h.ks.map Can.av).length:Int)<=4),decide (((h.ss.map Sea.av).length:Int)<=40)⟩:=by
   rw [l2] at hb
   rw [l1,l3,l4,l5,set7,hb]; rfl
  rw [e7] at key
  refine Lp.ren (Ti [] rfl (kps) (kps)) key
structure Ln where
 x:Int
 y:Int
 dx:Int
 dy:Int
abbrev Ln.av (l:Ln):AV:=.agg [I l.x,I l.y,I l.dx,I l.dy]
structure Pt where
 x:Int
 y:Int
 z:Int
 d:Int
abbrev Pt.av (p:Pt):AV:=.agg [I p.x,I p.y,I p.z,I p.d]
def Ln.n (l:Ln):Int:=imax (size l.dx) (size l.dy)
def Ln.sx (l:Ln):Int:=Qa Qb (Int.tdiv l.dx l.n)
def Ln.sy (l:Ln):Int:=Qa Qb (Int.tdiv l.dy l.n)
theorem c125 (n:Int):PCall Tryz.prog 63 [I n] ⟨I (size n),[]⟩:=by
 refine pn Zf Tryz.func63 ?_
 repeat'(first|refine wk0 ?_|(refine wk2 ?_ ?_<;>intro _)|fail)
 exact Zb rfl
theorem c119 (n:Int):PCall Tryz.prog 89 [I n] ⟨I (sgn n),[]⟩:=by
 refine pn Zf Tryz.func89 ?_
 repeat'(first|refine wk0 ?_|(refine wk2 ?_ ?_<;>intro _)|fail)
 all_goals exact Zb (by simp_all [sgn]<;>omega)
theorem c163 (n:Int):PCall Tryz.prog 41 [I n] ⟨Bo (within n (-5000) 5000),[]⟩:=by
 refine pn Zc5 Tryz.func41 ?_
 repeat'(first|refine wk0 ?_|(refine wk2 ?_ ?_<;>intro _)|fail)
 exact Zc rfl
theorem c162 (a b c:Int):PCall Tryz.prog 39 [I a,I b,I c] ⟨.tup [P2 a b,I c],[]⟩:=by
 refine pn Zc5 Tryz.func39 ?_
 repeat'(first|refine wk0 ?_|(refine wk2 ?_ ?_<;>intro _)|fail)
 exact Zd rfl rfl
theorem c201 (x y:Int):PCall Tryz.prog 70 [P2 x y] ⟨P4 x y 0 1,[]⟩:=by
 refine pn Zc5 Tryz.func70 ?_
 repeat'(first|refine wk0 ?_|(refine wk2 ?_ ?_<;>intro _)|fail)
 exact Zd rfl rfl
def rS1:List AV->Option PRes
 | [.int .i64 n]=>some ⟨I (size n),[]⟩
 | _=>none
def rS2:List AV->Option PRes
 | [.int .i64 n]=>some ⟨I (sgn n),[]⟩
 | _=>none
def r163:List AV->Option PRes
 | [.int .i64 n]=>some ⟨Bo (within n (-5000) 5000),[]⟩
 | _=>none
def r162:List AV->Option PRes
 | [.int .i64 a,.int .i64 b,.int .i64 c]=>some ⟨.tup [P2 a b,I c],[]⟩
 | _=>none
def r201:List AV->Option PRes
 | [.agg [.int .i64 x,.int .i64 y]]=>some ⟨P4 x y 0 1,[]⟩
 | _=>none
def r36R:List AV->Option PRes
 | [.agg [.int .i64 x,.int .i64 y,.int .i64 z]]=>some ⟨P4 x y z 1,[]⟩
 | _=>none
def kR1:PC:=ins 63 rS1 (ins 89 rS2 (ins 41 r163 (ins 39 r162 (ins 70 r201 (ins 72 r36R k93)))))
theorem Zw2:PCOK Tryz.prog kR1:=by
 refine Zj (fun a res h=>?_) (Zj (fun a res h=>?_) (Zj (fun a res h=>?_) (Zj (fun a res h=>?_) (Zj (fun a res h=>?_) (Zj (fun a res h=>?_) Zc5)))))
 ·unfold rS1 at h; split at h<;>cases h; exact c125 _
 ·unfold rS2 at h; split at h<;>cases h; exact c119 _
 ·unfold r163 at h; split at h<;>cases h; exact c163 _
 ·unfold r162 at h; split at h<;>cases h; exact c162 _ _ _
 ·unfold r201 at h; split at h<;>cases h; exact c201 _ _
 ·unfold r36R at h; split at h<;>cases h; exact c36 _ _ _
theorem c212 (l:Ln) (hn:l.n≠0):PCall Tryz.prog 112 [l.av] ⟨.tup [I l.n,I l.sx,I l.sy],[]⟩:=by
 have hn' : ¬ imax (size l.dx) (size l.dy)=0:=hn
 refine pn Zw2 Tryz.func112 ?_
 repeat'(first|refine wk1 ?_|(refine wk2 ?_ ?_<;>intro _)|fail)
 exact Zd rfl rfl
def r212:List AV->Option PRes
 | [.agg [.int .i64 x,.int .i64 y,.int .i64 dx,.int .i64 dy]]=>asr (decide ((Ln.mk x y dx dy).n≠0)) ⟨.tup [I (Ln.mk x y dx dy).n,I (Ln.mk x y dx dy).sx,I (Ln.mk x y dx dy).sy],[]⟩
 | _=>none
def kR2:PC:=ins 112 r212 kR1
theorem Zol:PCOK Tryz.prog kR2:=by
 refine Zj (fun a res h=>?_) Zw2
 unfold r212 at h; split at h
 ·obtain ⟨h1,rfl⟩:=Xc h; exact c212 ⟨_,_,_,_⟩ (of_decide_eq_true h1)
 ·cases h
def Ln.beside (l:Ln) (p:Pt):Int:=Qa Qb (Qa Qb (l.sx*Qa Qb (p.y-Qa Qb (l.y*p.d)))-Qa Qb (l.sy*Qa Qb (p.x-Qa Qb (l.x*p.d))))
def Ln.along (l:Ln) (p:Pt):Int:=Qa Qb (Qa Qb (l.sx*Qa Qb (p.x-Qa Qb (l.x*p.d)))+Qa Qb (l.sy*Qa Qb (p.y-Qa Qb (l.y*p.d))))
def Ln.full (l:Ln):Int:=Qa Qb (l.n*Qa Qb (Qa Qb (l.sx*l.sx)+Qa Qb (l.sy*l.sy)))
theorem c185 (l:Ln) (p:Pt) (hn:l.n≠0):PCall Tryz.prog 90 [l.av,p.av] ⟨I (l.beside p),[]⟩:=by
 obtain ⟨x,y,dx,dy⟩:=l
 have ha:=Ue (res:=⟨.tup [I (Ln.mk x y dx dy).n,I (Ln.mk x y dx dy).sx,I (Ln.mk x y dx dy).sy],[]⟩) hn
 refine pn Zol Tryz.func90 ?_
 repeat'(first|refine wk0 ?_|(refine wk2 ?_ ?_<;>intro _)|fail)
 exact Zb rfl
theorem c186 (l:Ln) (p:Pt) (hn:l.n≠0):PCall Tryz.prog 91 [l.av,p.av] ⟨I (l.along p),[]⟩:=by
 obtain ⟨x,y,dx,dy⟩:=l
 have ha:=Ue (res:=⟨.tup [I (Ln.mk x y dx dy).n,I (Ln.mk x y dx dy).sx,I (Ln.mk x y dx dy).sy],[]⟩) hn
 refine pn Zol Tryz.func91 ?_
 repeat'(first|refine wk0 ?_|(refine wk2 ?_ ?_<;>intro _)|fail)
 exact Zb rfl
theorem c188 (l:Ln) (hn:l.n≠0):PCall Tryz.prog 92 [l.av] ⟨I l.full,[]⟩:=by
 obtain ⟨x,y,dx,dy⟩:=l
 have ha:=Ue (res:=⟨.tup [I (Ln.mk x y dx dy).n,I (Ln.mk x y dx dy).sx,I (Ln.mk x y dx dy).sy],[]⟩) hn
 refine pn Zol Tryz.func92 ?_
 repeat'(first|refine wk0 ?_|(refine wk2 ?_ ?_<;>intro _)|fail)
 exact Zb rfl
def r185:List AV->Option PRes
 | [.agg [.int .i64 x,.int .i64 y,.int .i64 dx,.int .i64 dy],.agg [.int .i64 a,.int .i64 b,.int .i64 c,.int .i64 d]]=>asr (decide ((Ln.mk x y dx dy).n≠0)) ⟨I ((Ln.mk x y dx dy).beside ⟨a,b,c,d⟩),[]⟩
 | _=>none
def r186:List AV->Option PRes
 | [.agg [.int .i64 x,.int .i64 y,.int .i64 dx,.int .i64 dy],.agg [.int .i64 a,.int .i64 b,.int .i64 c,.int .i64 d]]=>asr (decide ((Ln.mk x y dx dy).n≠0)) ⟨I ((Ln.mk x y dx dy).along ⟨a,b,c,d⟩),[]⟩
 | _=>none
def r188:List AV->Option PRes
 | [.agg [.int .i64 x,.int .i64 y,.int .i64 dx,.int .i64 dy]]=>asr (decide ((Ln.mk x y dx dy).n≠0)) ⟨I (Ln.mk x y dx dy).full,[]⟩
 | _=>none
def kR3:PC:=ins 90 r185 (ins 91 r186 (ins 92 r188 kR2))
theorem Zsf:PCOK Tryz.prog kR3:=by
 refine Zj (fun a res h=>?_) (Zj (fun a res h=>?_) (Zj (fun a res h=>?_) Zol))
 ·unfold r185 at h; split at h
  ·obtain ⟨h1,rfl⟩:=Xc h; exact c185 ⟨_,_,_,_⟩ ⟨_,_,_,_⟩ (of_decide_eq_true h1)
  ·cases h
 ·unfold r186 at h; split at h
  ·obtain ⟨h1,rfl⟩:=Xc h; exact c186 ⟨_,_,_,_⟩ ⟨_,_,_,_⟩ (of_decide_eq_true h1)
  ·cases h
 ·unfold r188 at h; split at h
  ·obtain ⟨h1,rfl⟩:=Xc h; exact c188 ⟨_,_,_,_⟩ (of_decide_eq_true h1)
  ·cases h
def Ln.has (l:Ln) (p:Pt):Bool:=decide (l.beside p=0)&&within (l.along p) 0 (Qa Qb (l.full*p.d))
theorem c189 (l:Ln) (p:Pt) (hn:l.n≠0):PCall Tryz.prog 66 [l.av,p.av] ⟨Bo (l.has p),[]⟩:=by
 obtain ⟨x,y,dx,dy⟩:=l
 obtain ⟨a,b,c,d⟩:=p
 refine pn Zsf Tryz.func66 ?_
 repeat'(first|refine wk0 ?_|(refine wk2 ?_ ?_<;>intro _)|fail)
 all_goals exact Zc (by clear hn; simp_all [Ln.has])
def Ln.a (l:Ln):Pt:=⟨l.x,l.y,0,1⟩
def Ln.b (l:Ln):Pt:=⟨Qa Qb (l.x+l.dx),Qa Qb (l.y+l.dy),0,1⟩
theorem c199 (l:Ln):PCall Tryz.prog 65 [l.av] ⟨.tup [l.a.av,l.b.av],[]⟩:=by
 refine pn Zsf Tryz.func65 ?_
 repeat'(first|refine wk0 ?_|(refine wk2 ?_ ?_<;>intro _)|fail)
 exact Zd rfl rfl
def r189:List AV->Option PRes
 | [.agg [.int .i64 x,.int .i64 y,.int .i64 dx,.int .i64 dy],.agg [.int .i64 a,.int .i64 b,.int .i64 c,.int .i64 d]]=>asr (decide ((Ln.mk x y dx dy).n≠0)) ⟨Bo ((Ln.mk x y dx dy).has ⟨a,b,c,d⟩),[]⟩
 | _=>none
def r199:List AV->Option PRes
 | [.agg [.int .i64 x,.int .i64 y,.int .i64 dx,.int .i64 dy]]=>some ⟨.tup [P4 x y 0 1,P4 (Qa Qb (x+dx)) (Qa Qb (y+dy)) 0 1],[]⟩
 | _=>none
def kR4:PC:=ins 66 r189 (ins 65 r199 kR3)
theorem Zc4:PCOK Tryz.prog kR4:=by
 refine Zj (fun a res h=>?_) (Zj (fun a res h=>?_) Zsf)
 ·unfold r189 at h; split at h
  ·obtain ⟨h1,rfl⟩:=Xc h; exact c189 ⟨_,_,_,_⟩ ⟨_,_,_,_⟩ (of_decide_eq_true h1)
  ·cases h
 ·unfold r199 at h; split at h<;>cases h; exact c199 ⟨_,_,_,_⟩
def Ln.touch (l m:Ln):Bool :=
 (l.has m.a||l.has m.b||m.has l.a||m.has l.b)||(decide (Qa Qb (sgn (l.beside m.a)*sgn (l.beside m.b))<0)&&decide (Qa Qb (sgn (m.beside l.a)*sgn (m.beside l.b))<0))
theorem c198 (l m:Ln) (hn:l.n≠0) (hm:m.n≠0):PCall Tryz.prog 64 [l.av,m.av] ⟨Bo (l.touch m),[]⟩:=by
 obtain ⟨x,y,dx,dy⟩:=l
 obtain ⟨u,v,du,dv⟩:=m
 refine pn Zc4 Tryz.func64 ?_
 repeat'(first|refine wk0 ?_|(refine wk2 ?_ ?_<;>intro _)|fail)
 all_goals exact Zc (by clear hn hm; simp_all [Ln.touch,Ln.a,Ln.b]<;>first|rfl|(intro hx; exact absurd (of_decide_eq_true hx) (by omega)))
def Zh3 (c:Can):Ln:=⟨c.fx,c.fy,Qa Qb (c.tx-c.fx),0⟩
def Zh2 (c:Can):Ln:=⟨c.tx,c.fy,0,Qa Qb (c.ty-c.fy)⟩
def Zh1 (c:Can):Ln:=⟨c.tx,c.ty,Qa Qb (0-Qa Qb (c.tx-c.fx)),0⟩
def Zh0 (c:Can):Ln:=⟨c.fx,c.ty,0,Qa Qb (0-Qa Qb (c.ty-c.fy))⟩
theorem c200 (c:Can):PCall Tryz.prog 67 [.agg c.av] ⟨.agg [I (Zh3 c).x,I (Zh3 c).y,I (Zh3 c).dx,I (Zh3 c).dy,I (Zh2 c).x,I (Zh2 c).y,I (Zh2 c).dx,I (Zh2 c).dy,I (Zh1 c).x,I (Zh1 c).y,I (Zh1 c).dx,I (Zh1 c).dy,I (Zh0 c).x,I (Zh0 c).y,I (Zh0 c).dx,I (Zh0 c).dy],[]⟩:=by
 refine pn Zc4 Tryz.func67 ?_
 repeat'(first|refine wk0 ?_|(refine wk2 ?_ ?_<;>intro _)|fail)
 exact Zd rfl rfl
def Zfq (c:Can) (p:Pt):Bool:=within p.x (Qa Qb (imin c.fx c.tx*p.d)) (Qa Qb (imax c.fx c.tx*p.d))&&within p.y (Qa Qb (imin c.fy c.ty*p.d)) (Qa Qb (imax c.fy c.ty*p.d))
theorem c191 (c:Can) (p:Pt):PCall Tryz.prog 69 [.agg c.av,p.av] ⟨Bo (Zfq c p),[]⟩:=by
 refine pn Zc4 Tryz.func69 ?_
 repeat'(first|refine wk0 ?_|(refine wk2 ?_ ?_<;>intro _)|fail)
 all_goals exact Zc (by simp_all [Zfq])
def lnOf (cs:List (Int × Int)) (i:Nat):Ln:=⟨(cor cs i).1,(cor cs i).2,Qa Qb ((cor cs ((i+1)%cs.length)).1-(cor cs i).1),Qa Qb ((cor cs ((i+1)%cs.length)).2-(cor cs i).2)⟩
theorem c105 {h:Hal} (hf:h.few) {k:Nat} (hk:k<h.cs.length):PCall Tryz.prog 62 [h.av,I k] ⟨(lnOf h.cs k).av,[]⟩:=by
 have e1:=Zdb hk
 have e2:=Zdb (ps:=h.cs) (i:=(k+1)%h.cs.length) (Pf _ (by omega))
 have e3:(h.cs.map pt).length=h.cs.length:=by simp
 have hl:=hf.2.1
 have hw:Qa Qb ((k:Int)+1)=((k+1:Nat):Int):=Nf _ ⟨by omega,by omega⟩
 have hm:(Qa Qb ((k:Int)+1)).tmod ((h.cs.map pt).length:Int)=(((k+1)%h.cs.length:Nat):Int):=by rw [hw,e3]; rfl
 have e4:(h.cs.map pt)[((k:Nat):Int).toNat]?=some [I (cor h.cs k).1,I (cor h.cs k).2]:=by simpa using e1
 have e5:(h.cs.map pt)[((Qa Qb ((k:Int)+1)).tmod ((h.cs.map pt).length:Int)).toNat]?=some [I (cor h.cs ((k+1)%h.cs.length)).1,I (cor h.cs ((k+1)%h.cs.length)).2]:=by rw [hm,Sk]; exact e2
 refine pn Zc4 Tryz.func62 ?_
 repeat'(first|refine wk1 ?_|(refine wk2 ?_ ?_<;>intro _)|fail)
 exact Zd rfl rfl
end Go.Proofs.YtkmjliccopgocaaGreat
