/- A part of the proof: lemmas. -/
import Derived.Test.YtkmjliccopgocaaGreatZ12
import Derived.Test.YtkmjliccopgocaaGreatZ7
set_option linter.unusedVariables false
set_option linter.unusedSimpArgs false
set_option maxRecDepth 100000
set_option maxHeartbeats 16000000
namespace Go.Sx
open Go Go.RowKit
variable {T:Tab} {d:Nat} {t:TypeId} {zs:List AV}
theorem Zj3 {ti te:TI} {e:TypeId} (ht:T t=some ti) (hd:ti.desc = .slice e) (he:T e=some te) (h:WTB T (d+1) t zs):∃ els,zs=[.isl te.size els]/\els.length*te.bytes<=reachBytes/\∀ x∈els,WTB T d e x:=by
 unfold WTB at h; rw [ht] at h; dsimp only at h; rw [hd] at h; dsimp only at h; rw [he] at h
 obtain ⟨els,h1,_,h2,h3⟩:=h
 exact ⟨els,h1,h2,h3⟩
theorem Zh8 {ti:TI} {fs:Array Field} (ht:T t=some ti) (hd:ti.desc = .struct fs) (h:WTB T (d+1) t zs):zs.length=ti.size/\∀ f∈fs.toList,∃ tf,T f.type=some tf/\WTB T d f.type ((zs.drop f.offset).take tf.size):=by
 unfold WTB at h; rw [ht] at h; dsimp only at h; rw [hd] at h; dsimp only at h
 refine ⟨h.1,fun f hf=>?_⟩
 have:=h.2 f hf
 cases hq:T f.type with
 | none=>rw [hq] at this; exact this.elim
 | some tf=>rw [hq] at this; exact ⟨tf,rfl,this⟩
theorem Zj4 {ti:TI} {fs:Array Field} (ht:T t=some ti) (hd:ti.desc = .struct fs) (h:WTB T (d+1) t zs) (i:Nat) {f:Field} (hf:fs.toList[i]?=some f) {tf:TI} (htf:T f.type=some tf):WTB T d f.type ((zs.drop f.offset).take tf.size):=by
 obtain ⟨tf',e,w⟩:=(Zh8 ht hd h).2 f (List.mem_of_getElem? hf)
 rw [htf] at e
 cases e
 exact w
theorem Zuh {a:AV} (h:WTAB T t a):WTA T t a:=fun n=>by
 obtain ⟨m,zs,h1,h2⟩:=h n
 exact ⟨m,zs,Zj2 _ h1,h2⟩
end Go.Sx
namespace Go.Proofs.YtkmjliccopgocaaGreat
open Go Go.Sx Go.En
theorem Zqy {d:Nat} {x:List AV} (h:WTB TT (d+2) 30 x):∃ ns:List Int,x=[.isl 1 (nl ns)]/\ns.length<=17592186044416:=by
 obtain ⟨ns,rfl⟩:=Zzl (Zj2 _ h)
 obtain ⟨els,h1,h2,_⟩:=Zj3 (T:=TT) (t:=30) rfl rfl rfl h
 have h1:[AV.isl 1 (nl ns)]=[AV.isl 1 els]:=h1
 cases h1
 have h2:(nl ns).length*8<=140737488351232:=h2
 rw [Ze] at h2
 exact ⟨ns,rfl,by omega⟩
theorem Zzk {d:Nat} {x:List AV} (h:WTB TT (d+3) 29 x):∃ rows:List (List Int),x=[.isl 1 (rows.map rv)]/\∀ r∈rows,r.length<=17592186044416:=by
 obtain ⟨els,h1,_,h3⟩:=Zj3 (T:=TT) (t:=29) rfl rfl rfl h
 obtain ⟨l,hl,hb⟩:=Zmi (f:=rv) (P:=fun r=>r.length<=17592186044416) (Q:=fun x=>WTB TT (d+2) 30 x) (fun x hx=>Zqy hx) els h3
 exact ⟨l,by rw [<-hl]; exact h1,hb⟩
theorem Ya5 {a:AV} (h:WTAB TT 32 a):∃ (rows:List (List Int)) (ls:List Int),a=exA rows ls/\(∀ r∈rows,r.length<=17592186044416)/\ls.length<=17592186044416:=by
 obtain ⟨m,x,hw,ha⟩:=h 4
 have ha:a = .agg x:=ha
 subst ha
 have hw:WTB TT (m+3+1) 32 x:=hw
 have h0:=(Zh8 (T:=TT) (t:=32) rfl rfl hw).1
 have h0:x.length=2:=h0
 match x,h0 with
 | [x0,x1],_ =>
  obtain ⟨rows,h1,b1⟩:=Zzk (d:=m) (Zj4 (T:=TT) (t:=32) rfl rfl hw 0 rfl rfl)
  obtain ⟨ls,h2,b2⟩:=Zqy (d:=m+1) (Zj4 (T:=TT) (t:=32) rfl rfl hw 1 rfl rfl)
  have h1:[x0]=[.isl 1 (rows.map rv)]:=h1
  have h2:[x1]=[.isl 1 (nl ls)]:=h2
  cases h1; cases h2
  exact ⟨rows,ls,rfl,b1,b2⟩
theorem Zvf {a:AV} (h:WTAB TT 30 a):∃ ns:List Int,a = .isl 1 (nl ns)/\ns.length<=17592186044416:=by
 obtain ⟨m,zs,hm,ha⟩:=h 3
 have ha:zs=[a]:=ha
 obtain ⟨ns,h1,b⟩:=Zqy (d:=m+1) hm
 rw [ha] at h1
 cases h1
 exact ⟨ns,rfl,b⟩
theorem d3 (h:Hal) {rows:List (List Int)} {ls e:List Int} (hx:∀ r∈rows,r.length<=17592186044416) (hl:ls.length<=17592186044416) (he:e.length<=17592186044416):PCall Tryz.prog 3 [h.av,exA rows ls,.isl 1 (nl e)] ⟨Bo true,[]⟩:=by
 by_cases b:bad3 h rows ls
 ·exact Ycj b
 unfold bad3 at b
 simp only [not_or] at b
 obtain ⟨b1,b2,b3,b4,b5⟩:=b
 have r:few2 h=true:=by simpa using b1
 have z:h.err=0:=Decidable.not_not.1 b2
 have hk:=Zs8 r
 cases hE:ls with
 | nil=>rw [hE] at b4; exact absurd rfl b4
 | cons p t =>
  have hp:within p 0 1000=true:=by
   cases hw:within p 0 1000 with
   | true=>rfl
   | false=>exact absurd ⟨p,t,hE,hw⟩ b5
  obtain ⟨a,c,E,h12,hE2⟩:=Ycb hk z (within_iff.1 hp)
  have h0:=Zw3 r (Yai hk h12)
  rw [z] at h0
  rw [<-hE]
  exact d3m (h:=h) (E:=E) (a:=a) (c:=c) (p:=p) (t:=t) h0 hk.f.1 hk.f.2.2.2.1 ⟨by omega,hx,hl⟩ hE hp (by omega) he hE2
end Go.Proofs.YtkmjliccopgocaaGreat
