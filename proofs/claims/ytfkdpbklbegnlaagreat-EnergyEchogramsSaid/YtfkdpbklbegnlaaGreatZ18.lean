/- A part of the proof: lemmas. -/
import Derived.Test.YtfkdpbklbegnlaaGreatZ11
import Derived.Test.YtfkdpbklbegnlaaGreatZ14
set_option linter.unusedVariables false
set_option linter.unusedSimpArgs false
set_option maxRecDepth 100000
set_option maxHeartbeats 16000000
namespace Go.Proofs.YtfkdpbklbegnlaaGreat
open Go Go.Sx
theorem Ykf {m:Nat} {x:List AV} (hw:WT TT (m+10+1) 28 x):∃ h:Hal,x=h.cells:=by
 have h0:=(Vl (T:=TT) (t:=28) rfl rfl hw).1
 have h0:x.length=9:=h0
 match x,h0 with
 | [x0,x1,x2,x3,x4,x5,x6,x7,x8],_ =>
  obtain ⟨s,hs,hs2⟩:=wStr (Zp (T:=TT) (t:=28) rfl rfl hw 0 rfl rfl)
  obtain ⟨n,hn⟩:=wInt (Zp (T:=TT) (t:=28) rfl rfl hw 1 rfl rfl)
  obtain ⟨t,ht,ht2⟩:=wStr (Zp (T:=TT) (t:=28) rfl rfl hw 2 rfl rfl)
  obtain ⟨u,hu,hu2⟩:=wStr (Zp (T:=TT) (t:=28) rfl rfl hw 3 rfl rfl)
  obtain ⟨e4,h4,_,g4⟩:=Zez (T:=TT) (t:=22) rfl rfl rfl (Zp (T:=TT) (t:=28) rfl rfl hw 4 rfl rfl)
  obtain ⟨e5,h5,_,g5⟩:=Zez (T:=TT) (t:=23) rfl rfl rfl (Zp (T:=TT) (t:=28) rfl rfl hw 5 rfl rfl)
  obtain ⟨e6,h6,_,g6⟩:=Zez (T:=TT) (t:=24) rfl rfl rfl (Zp (T:=TT) (t:=28) rfl rfl hw 6 rfl rfl)
  obtain ⟨e7,h7,_,g7⟩:=Zez (T:=TT) (t:=25) rfl rfl rfl (Zp (T:=TT) (t:=28) rfl rfl hw 7 rfl rfl)
  obtain ⟨e8,h8,_,g8⟩:=Zez (T:=TT) (t:=26) rfl rfl rfl (Zp (T:=TT) (t:=28) rfl rfl hw 8 rfl rfl)
  obtain ⟨l4,k4,_⟩:=Zvh (f:=Mat.av) (fun x hx=>wMat hx) e4 g4
  obtain ⟨l5,k5,_⟩:=Zvh (f:=pt) (P:=fun _=>True) (fun x hx=>(wP2 hx).imp fun p hp=>⟨hp,trivial⟩) e5 g5
  obtain ⟨l6,k6,_⟩:=Zvh (f:=Wal.av) (fun x hx=>wWal hx) e6 g6
  obtain ⟨l7,k7,_⟩:=Zvh (f:=Can.av) (fun x hx=>wCan hx) e7 g7
  obtain ⟨l8,k8,_⟩:=Zvh (f:=Sea.av) (fun x hx=>wSea hx) e8 g8
  have hs:[x0]=[.str s]:=hs
  have hn:[x1]=[I n]:=hn
  have ht:[x2]=[.str t]:=ht
  have hu:[x3]=[.str u]:=hu
  have h4:[x4]=[.isl 6 e4]:=h4
  have h5:[x5]=[.isl 2 e5]:=h5
  have h6:[x6]=[.isl 3 e6]:=h6
  have h7:[x7]=[.isl 7 e7]:=h7
  have h8:[x8]=[.isl 4 e8]:=h8
  cases hs; cases hn; cases ht; cases hu; cases h4; cases h5; cases h6; cases h7; cases h8
  exact ⟨⟨s,n,t,u,l4,l5,l6,l7,l8⟩,by rw [k4,k5,k6,k7,k8]⟩
theorem wStg {m:Nat} {x:List AV} (hw:WT TT (m+10+1) 31 x):∃ s:Stg,x=s.cells:=by
 have h0:=(Vl (T:=TT) (t:=31) rfl rfl hw).1
 have h0:x.length=2:=h0
 match x,h0 with
 | [x0,x1],_ =>
  obtain ⟨a,ha⟩:=Ye6 (Zp (T:=TT) (t:=31) rfl rfl hw 0 rfl rfl)
  obtain ⟨b,hb⟩:=Ye6 (Zp (T:=TT) (t:=31) rfl rfl hw 1 rfl rfl)
  have ha:[x0]=[.isl 1 (nl a)]:=ha
  have hb:[x1]=[.isl 1 (nl b)]:=hb
  cases ha; cases hb
  exact ⟨⟨a,b⟩,rfl⟩
theorem Ybo {a:AV} (h:WTA TT 33 a):∃ (h:Hal) (s:Stg),a = .agg (stgL h s):=by
 obtain ⟨x,m,rfl,hw⟩:=Zro (T:=TT) (t:=33) h rfl rfl 11
 have h0:=(Vl (T:=TT) (t:=33) rfl rfl hw).1
 have h0:x.length=11:=h0
 match x,h0 with
 | [x0,x1,x2,x3,x4,x5,x6,x7,x8,x9,x10],_ =>
  obtain ⟨hl,hh⟩:=Ykf (Zp (T:=TT) (t:=33) rfl rfl hw 0 rfl rfl)
  obtain ⟨st,hs⟩:=wStg (Zp (T:=TT) (t:=33) rfl rfl hw 1 rfl rfl)
  have hh:[x0,x1,x2,x3,x4,x5,x6,x7,x8]=hl.cells:=hh
  have hs:[x9,x10]=st.cells:=hs
  cases hh; cases hs
  exact ⟨hl,st,rfl⟩
theorem Yj9 {a:AV} (h:WTA TT 37 a):∃ b:Ask,a=b.av:=by
 obtain ⟨x,m,rfl,hw⟩:=Zro (T:=TT) (t:=37) h rfl rfl 11
 have h0:=(Vl (T:=TT) (t:=37) rfl rfl hw).1
 have h0:x.length=7:=h0
 match x,h0 with
 | [x0,x1,x2,x3,x4,x5,x6],_ =>
  obtain ⟨n1,e1,l1,_⟩:=Zjy (T:=TT) (t:=35) rfl rfl rfl (Zp (T:=TT) (t:=37) rfl rfl hw 0 rfl rfl)
  obtain ⟨n2,e2,l2,_⟩:=Zjy (T:=TT) (t:=35) rfl rfl rfl (Zp (T:=TT) (t:=37) rfl rfl hw 1 rfl rfl)
  obtain ⟨n,hn⟩:=wInt (Zp (T:=TT) (t:=37) rfl rfl hw 2 rfl rfl)
  have l1:n1.length=3:=l1
  have l2:n2.length=3:=l2
  have hn:[x6]=[I n]:=hn
  match n1,l1,n2,l2 with
  | [a,b,c],_,[d,e,f],_ =>
   have e1:[x0,x1,x2]=[I a,I b,I c]:=e1;have e2:[x3,x4,x5]=[I d,I e,I f]:=e2;cases e1; cases e2; cases hn;exact ⟨⟨a,b,c,d,e,f,n⟩,rfl⟩
theorem Yjh {a:AV} (h:WTA TT 39 a):∃ x y z:Int,a=P3 x y z:=by
 obtain ⟨x,m,rfl,hw⟩:=Zro (T:=TT) (t:=39) h rfl rfl 4
 obtain ⟨ns,h1,h2,_⟩:=Zjy (T:=TT) (t:=39) rfl rfl rfl hw
 have h2:ns.length=3:=h2
 match ns,h2 with
 | [p,q,r],_=>exact ⟨p,q,r,by rw [h1]; rfl⟩
def tysU:List TypeId:=[33,37,39,35,28,31,22,23,24,25,26,29,67,69,119,103,124,101,9,3]
theorem Yhp:tysU.all (Zj8 (tget tbl) tysU)=true:=by kernel_rfl
end Go.Proofs.YtfkdpbklbegnlaaGreat
