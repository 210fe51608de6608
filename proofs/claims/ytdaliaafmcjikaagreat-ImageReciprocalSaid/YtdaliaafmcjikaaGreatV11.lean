/- A part of the proof: lemmas. -/
import Derived.Test.YtdaliaafmcjikaaGreatV10
import Derived.Test.YtdaliaafmcjikaaGreatV6
import Derived.Test.YtdaliaafmcjikaaGreatV7
import Derived.Test.YtdaliaafmcjikaaGreatV9
import Derived.Test.YtdaliaafmcjikaaGreatV8
import Derived.Test.YtdaliaafmcjikaaGreatRows
set_option linter.unusedVariables false
set_option linter.unusedSimpArgs false
namespace Go.Proofs.YtdaliaafmcjikaaGreat
open Go Go.Sx
structure Sit (h : Hal) (s : Stg) : Prop where
 ok : h.ok
 fine : h.fine
 sf : s.few
 set : SetOk h s
theorem Zk2 {h : Hal} (hk : h.ok) {s : Stg} (hs : s.few) (h0 : serr h s = 0) : Sit h s := by
 unfold serr at h0
 split at h0
 ·rename_i he
  exact ⟨hk,Zjt hk he,hs,Ydk hk.f h0⟩
 ·rename_i he; exact absurd h0 he
inductive SK (h : Hal) : Int -> Prop
 | wall (k : Nat) (hk : k < h.ws.length) : SK h k
 | floor : SK h h.ws.length
 | ceil : SK h ((h.ws.length : Int) + 1)
 | can (j : Nat) (hj : j < h.ks.length) : SK h ((h.ws.length : Int) + 2 + j)
theorem Zmb {h : Hal} {i : Int} (h0 : 0 <= i) (h1 : i < nsur h) : SK h i := by
 unfold nsur at h1
 by_cases c1 : i < h.ws.length
 ·have := SK.wall (h := h) i.toNat (by omega)
  rwa [Int.toNat_of_nonneg h0] at this
 by_cases c2 : i = h.ws.length
 ·rw [c2]; exact .floor
 by_cases c3 : i = (h.ws.length : Int) + 1
 ·rw [c3]; exact .ceil
 have := SK.can (h := h) (i - h.ws.length - 2).toNat (by omega)
 rwa [Int.toNat_of_nonneg (by omega),show (h.ws.length : Int) + 2 + (i - h.ws.length - 2) = i by omega] at this
theorem Znd {h : Hal} {s : Stg} {i : Int} (h0 : surE h s i = 0) : serr h s = 0 /\ 0 <= i /\ i < nsur h := by
 unfold surE at h0
 split at h0
 ·rename_i he
  split at h0
  ·rename_i hw
   have := within_iff.1 hw
   exact ⟨he,by omega,by omega⟩
  ·cases h0
 ·rename_i he; exact absurd h0 he
def kix (h : Hal) (i : Int) : Nat := (i - h.ws.length - 2).toNat
def kat (h : Hal) (i : Int) : Can := (h.ks[kix h i]?).getD ⟨⟨#[]⟩,⟨#[]⟩,0,0,0,0,[]⟩
theorem Zse {h : Hal} {j : Nat} (hj : j < h.ks.length) : kat h ((h.ws.length : Int) + 2 + j) = h.ks[j] := by
 unfold kat kix
 rw [show ((h.ws.length : Int) + 2 + j - h.ws.length - 2).toNat = j by omega,List.getElem?_eq_getElem hj]; rfl
def isK (h : Hal) (i : Int) : Bool := decide ((h.ws.length : Int) + 2 <= i)
abbrev canZ : List AV := [.str ⟨#[]⟩,.str ⟨#[]⟩,I 0,I 0,I 0,I 0,.nils]
def canV (h : Hal) (i : Int) : AV := .agg (match isK h i with
 | true => (kat h i).av
 | false => canZ)
set_option maxHeartbeats 4000000 in
theorem c87 {h : Hal} (hf : h.few) (s : Stg) {i : Int} (hi : SK h i) : PCall Tryz.prog 257 [.agg (stgL h s),I i] ⟨.tup [canV h i,Bo (isK h i)],[]⟩ := by
 have l := Yo h.ws
 have l2 := Xe h.ks
 obtain ⟨_,_,f3,f4,_⟩ := hf
 have low : ∀ i : Int,0 <= i -> i < (h.ws.length : Int) + 2 -> PCall Tryz.prog 257 [.agg (stgL h s),I i] ⟨.tup [.agg canZ,Bo false],[]⟩ := by
  intro i h0 h1
  have hv : IntKind.i64.wrap (IntKind.i64.wrap (i - ((h.ws.map Wal.av).length : Int)) - 2) = i - h.ws.length - 2 := by rw [W_eq (n := i - ((h.ws.map Wal.av).length : Int)) (by omega) (by omega),W_eq (by omega) (by omega)]; omega
  refine bs.pv (sx := nos) Zd Tryz.func257 (by kernel_rfl) (by kernel_rfl) rfl ?_
  have hn : ¬ (0 <= IntKind.i64.wrap (IntKind.i64.wrap (i - ((h.ws.map Wal.av).length : Int)) - 2)) := by rw [hv]; omega
  repeat' (first | refine wk0 ?_ | (refine wk2 ?_ ?_ <;> intro _) | refine wk4 ?_ | fail); all_goals (conv => whnf)
  all_goals first
   | exact Zg rfl rfl
   | (exfalso; rename_i hx; have := of_decide_eq_true hx; rw [hv] at this; omega)
   | (exfalso; rename_i hx; have := of_decide_eq_true hx; exact hn this)
 cases hi with
 | wall k hk =>
  have e1 : isK h k = false := decide_eq_false (by omega)
  unfold canV; rw [e1]; exact low _ (by omega) (by omega)
 | floor =>
  have e1 : isK h h.ws.length = false := decide_eq_false (by omega)
  unfold canV; rw [e1]; exact low _ (by omega) (by omega)
 | ceil =>
  have e1 : isK h ((h.ws.length : Int) + 1) = false := decide_eq_false (by omega)
  unfold canV; rw [e1]; exact low _ (by omega) (by omega)
 | can j hj =>
  have e1 : isK h ((h.ws.length : Int) + 2 + j) = true := decide_eq_true (by omega)
  unfold canV
  rw [e1]
  dsimp only
  rw [Zse hj]
  have hv : IntKind.i64.wrap (IntKind.i64.wrap ((h.ws.length : Int) + 2 + j - ((h.ws.map Wal.av).length : Int)) - 2) = j := by rw [W_eq (n := (h.ws.length : Int) + 2 + j - ((h.ws.map Wal.av).length : Int)) (by omega) (by omega),W_eq (by omega) (by omega)]; omega
  have e2 : (h.ks.map Can.av)[(IntKind.i64.wrap (IntKind.i64.wrap ((h.ws.length : Int) + 2 + j - ((h.ws.map Wal.av).length : Int)) - 2)).toNat]? = some (Can.av h.ks[j]) := by rw [hv]; exact Zd6 hj
  have e3 : 0 <= IntKind.i64.wrap (IntKind.i64.wrap ((h.ws.length : Int) + 2 + j - ((h.ws.map Wal.av).length : Int)) - 2) := by omega
  have e4 : decide (0 <= IntKind.i64.wrap (IntKind.i64.wrap ((h.ws.length : Int) + 2 + j - ((h.ws.map Wal.av).length : Int)) - 2)) = true := decide_eq_true e3
  refine bs.pv (sx := nos) Zd Tryz.func257 (by kernel_rfl) (by kernel_rfl) rfl ?_
  repeat' (first | refine wk0 ?_ | (refine wk2 ?_ ?_ <;> intro _) | refine wk4 ?_ | fail); all_goals (conv => whnf)
  all_goals first
   | exact Zg rfl rfl
   | (exfalso; rename_i hx; rw [e4] at hx; cases hx)
def Zcr (h : Hal) (s : Stg) (j : Nat) : Int := match h.ks[j]?,s.hs[j]? with
 | some c,some n => c.hs.getD n.toNat 0
 | _,_ => 0
theorem Zoj {h : Hal} {s : Stg} (g : SetOk h s) {j : Nat} (hj : j < h.ks.length) : ∃ n,(nl s.hs)[((j : Nat) : Int).toNat]? = some [I n] /\ 0 <= n /\ n < h.ks[j].hs.length /\ (nl h.ks[j].hs)[n.toNat]? = some [I (Zcr h s j)] := by
 have h2 : j < s.hs.length := by rw [g.len]; exact hj
 obtain ⟨g1,g2⟩ := g.hs j hj h2
 refine ⟨s.hs[j],Ue h2,g1,g2,?_⟩
 have h3 : s.hs[j].toNat < h.ks[j].hs.length := by omega
 have e : Zcr h s j = h.ks[j].hs[s.hs[j].toNat] := by unfold Zcr; rw [List.getElem?_eq_getElem hj,List.getElem?_eq_getElem h2]; simp [h3]
 rw [e]
 simp [nl,h3]
set_option maxHeartbeats 4000000 in
theorem c192 {h : Hal} {s : Stg} (g : Sit h s) {j : Nat} (hj : j < h.ks.length) : PCall Tryz.prog 255 [.agg (stgL h s),I j] ⟨I (Zcr h s j),[]⟩ := by
 obtain ⟨n,e1,e2,e3,e4⟩ := Zoj g.set hj
 have e5 := Zd6 hj
 generalize h.ks[j] = c at *
 have e6 := Zl c.hs
 refine bs.pv (sx := nos) Zd Tryz.func255 (by kernel_rfl) (by kernel_rfl) rfl ?_
 repeat' (first | refine wk1 ?_ | (refine wk2 ?_ ?_ <;> intro _) | refine wk4 ?_ | fail); all_goals (conv => whnf)
 exact Za rfl
def plW (w : Wl) : Int × Int := if w.dx = 0 then (0,w.fx) else if w.dy = 0 then (1,w.fy) else if w.dx = w.dy then (4,IntKind.i64.wrap (w.fx - w.fy)) else (3,IntKind.i64.wrap (w.fx + w.fy))
def Ze (h : Hal) (s : Stg) (i : Int) : Int × Int := if i < h.ws.length then plW (wlOf h.cs i.toNat) else if i = h.ws.length then (2,0) else if i = (h.ws.length : Int) + 1 then (2,h.ht) else (2,Zcr h s (kix h i))
theorem Zaz {h : Hal} {s : Stg} {k : Nat} (hk : k < h.ws.length) : Ze h s k = plW (wlOf h.cs k) := by unfold Ze; rw [if_pos (by omega)]; rfl
theorem Zbj {h : Hal} {s : Stg} : Ze h s h.ws.length = (2,0) := by unfold Ze; rw [if_neg (by omega),if_pos rfl]
theorem Zcm {h : Hal} {s : Stg} : Ze h s ((h.ws.length : Int) + 1) = (2,h.ht) := by unfold Ze; rw [if_neg (by omega),if_neg (by omega),if_pos rfl]
theorem Zee {h : Hal} {s : Stg} {j : Nat} : Ze h s ((h.ws.length : Int) + 2 + j) = (2,Zcr h s j) := by
 unfold Ze kix
 rw [if_neg (by omega),if_neg (by omega),if_neg (by omega),show ((h.ws.length : Int) + 2 + j - h.ws.length - 2).toNat = j by omega]
noncomputable def kP (h : Hal) (s : Stg) : PC := ins 253 (one [.agg (stgL h s)] ⟨I (h.ws.length : Int),[]⟩) (ins 254 (one [.agg (stgL h s)] ⟨I ((h.ws.length : Int) + 1),[]⟩) kG4)
theorem Ygi {h : Hal} {s : Stg} (g : Sit h s) : PCOK Tryz.prog (kP h s) := Zf (c172 s) (Zf (c173 g.ok.f s) Uu)
set_option maxRecDepth 100000 in
set_option maxHeartbeats 8000000 in
theorem c112 {h : Hal} {s : Stg} (g : Sit h s) {i : Int} (hi : SK h i) : PCall Tryz.prog 165 [.agg (stgL h s),I i] ⟨P2 (Ze h s i).1 (Ze h s i).2,[]⟩ := by
 have hk0 := Ygi g
 have f3 := g.ok.f.2.2.1
 have f4 := g.ok.f.2.2.2.1
 cases hi with
 | wall k hk =>
  have hk2 : k < h.cs.length := by have := g.fine.le; omega
  rw [Zaz hk]
  have hk1 := Zf (Ye9 g.ok.f hk2) hk0
  refine bs.pv (sx := nos) hk1 Tryz.func165 (by kernel_rfl) (by kernel_rfl) rfl ?_
  generalize wlOf h.cs k = w at *
  repeat' (first | refine wk1 ?_ | (refine wk2 ?_ ?_ <;> intro _) | refine wk4 ?_ | fail); all_goals (conv => whnf)
  all_goals exact Zg (by clear hk0 hk1; simp_all [plW]) rfl
 | floor =>
  rw [Zbj]
  refine bs.pv (sx := nos) hk0 Tryz.func165 (by kernel_rfl) (by kernel_rfl) rfl ?_
  repeat' (first | refine wk1 ?_ | (refine wk2 ?_ ?_ <;> intro _) | refine wk4 ?_ | fail); all_goals (conv => whnf)
  exact Zg rfl rfl
 | ceil =>
  rw [Zcm]
  refine bs.pv (sx := nos) hk0 Tryz.func165 (by kernel_rfl) (by kernel_rfl) rfl ?_
  repeat' (first | refine wk1 ?_ | (refine wk2 ?_ ?_ <;> intro _) | refine wk4 ?_ | fail); all_goals (conv => whnf)
  exact Zg rfl rfl
 | can j hj =>
  rw [Zee]
  have hv : IntKind.i64.wrap (IntKind.i64.wrap ((h.ws.length : Int) + 2 + j - ((h.ws.length : Int) + 1)) - 1) = j := by rw [W_eq (n := (h.ws.length : Int) + 2 + j - ((h.ws.length : Int) + 1)) (by omega) (by omega),W_eq (by omega) (by omega)]; omega
  have hc := c192 g hj
  rw [<-hv] at hc
  have hk1 := Zf hc hk0
  refine bs.pv (sx := nos) hk1 Tryz.func165 (by kernel_rfl) (by kernel_rfl) rfl ?_
  repeat' (first | refine wk1 ?_ | (refine wk2 ?_ ?_ <;> intro _) | refine wk4 ?_ | fail); all_goals (conv => whnf)
  exact Zg rfl rfl
def Zhx (h : Hal) (s : Stg) (i : Int) : Int × Int := if surE h s i = 0 then Ze h s i else (0,0)
set_option maxRecDepth 100000 in
set_option maxHeartbeats 8000000 in
theorem c54 {h : Hal} (hk : h.ok) {s : Stg} (hs : s.few) (i : Int) : PCall Tryz.prog 136 [h.av,s.av,I i] ⟨.tup [P2 (Zhx h s i).1 (Zhx h s i).2,I (surE h s i)],[]⟩ := by
 have hk0 := Zf (c109 hk hs i) Zd
 by_cases he : surE h s i = 0
 ·have e := Znd he
  have g := Zk2 hk hs e.1
  have hk1 := Zf (c112 g (Zmb e.2.1 e.2.2)) hk0
  have e2 : Zhx h s i = Ze h s i := by unfold Zhx; rw [if_pos he]
  rw [e2]
  rw [he] at hk1 ⊢
  refine bs.pv (sx := nos) hk1 Tryz.func136 (by kernel_rfl) (by kernel_rfl) rfl ?_
  repeat' (first | refine wk1 ?_ | (refine wk2 ?_ ?_ <;> intro _) | refine wk4 ?_ | fail); all_goals (conv => whnf)
  exact Zg rfl rfl
 ·have e2 : Zhx h s i = (0,0) := by unfold Zhx; rw [if_neg he]
  rw [e2]
  refine bs.pv (sx := nos) hk0 Tryz.func136 (by kernel_rfl) (by kernel_rfl) rfl ?_
  repeat' (first | refine wk1 ?_ | (refine wk2 ?_ ?_ <;> intro _) | refine wk4 ?_ | fail); all_goals (conv => whnf)
  exact Zg rfl rfl
theorem Zm0 {h : Hal} {i : Int} (hi : i < (h.ws.length : Int) + 2) : canV h i = .agg canZ /\ isK h i = false := by
 have e1 : isK h i = false := decide_eq_false (by omega)
 unfold canV; rw [e1]; exact ⟨rfl,rfl⟩
theorem Ya4 {h : Hal} {j : Nat} (hj : j < h.ks.length) : canV h ((h.ws.length : Int) + 2 + j) = .agg (Can.av h.ks[j]) /\ isK h ((h.ws.length : Int) + 2 + j) = true := by
 have e1 : isK h ((h.ws.length : Int) + 2 + j) = true := decide_eq_true (by omega)
 unfold canV; rw [e1,<-Zse hj]; exact ⟨rfl,rfl⟩
theorem d87 (a b c d : Int) : PCall Tryz.prog 87 [P2 a b,P2 c d] ⟨P2 (IntKind.i64.wrap (c - a)) (IntKind.i64.wrap (d - b)),[]⟩ := by
 refine bs.pv (sx := nos) Zd Tryz.func87 (by kernel_rfl) (by kernel_rfl) rfl ?_
 repeat' (first | refine wk3 ?_ | (refine wk2 ?_ ?_ <;> intro _) | refine wk4 ?_ | fail); all_goals (conv => whnf)
 exact Zg rfl rfl
def Zkh (ax ay : Int) (vis : Int × Int -> Bool) : List (Int × Int) -> List (List AV)
 | [] => []
 | p :: l => if p.1 = ax /\ p.2 = ay then Zkh ax ay vis l else if vis p = true then [P2 (IntKind.i64.wrap (p.1 - ax)) (IntKind.i64.wrap (p.2 - ay))] :: Zkh ax ay vis l else Zkh ax ay vis l
theorem Ztq (ax ay : Int) (vis : Int × Int -> Bool) (p : Int × Int) (l : List (Int × Int)) : Zkh ax ay vis (p :: l) = if p.1 = ax /\ p.2 = ay then Zkh ax ay vis l else if vis p = true then [P2 (IntKind.i64.wrap (p.1 - ax)) (IntKind.i64.wrap (p.2 - ay))] :: Zkh ax ay vis l else Zkh ax ay vis l := rfl
def rFr : List AV -> Option PRes
 | [.agg [.int .i64 a,.int .i64 b],.agg [.int .i64 c,.int .i64 d]] => some ⟨P2 (IntKind.i64.wrap (c - a)) (IntKind.i64.wrap (d - b)),[]⟩
 | _ => none
def LN (es : Nat) (a : AV) : Prop := a = .nils \/ ∃ L,a = .isl es L
structure Pl where
 nm : ByteArray
 ht : Int
 fl : ByteArray
 ce : ByteArray
 ms : List (List AV)
 ps : List (Int × Int)
 wa : List (List AV)
 ca : AV
 se : AV
abbrev Pl.c (p : Pl) : List AV := [.str p.nm,I p.ht,.str p.fl,.str p.ce,.isl 6 p.ms,.isl 2 (p.ps.map pt),.isl 3 p.wa,p.ca,p.se]
abbrev rayA (ax ay dx dy last : Int) : AV := .agg [I ax,I ay,I dx,I dy,I last]
set_option maxHeartbeats 4000000 in
theorem Yhv {q : Pl} (h1 : LN 7 q.ca) (h2 : LN 4 q.se) (hn : q.ps.length < 1000) (ax ay last : Int) (bB bA : Int × Int -> Bool)
  (hB : ∀ p ∈ q.ps,PCall Tryz.prog 250 [.agg q.c,rayA ax ay (IntKind.i64.wrap (p.1 - ax)) (IntKind.i64.wrap (p.2 - ay)) last,P2 1 1] ⟨Bo (bB p),[]⟩)
  (hA : ∀ p ∈ q.ps,PCall Tryz.prog 280 [.agg q.c,rayA ax ay (IntKind.i64.wrap (p.1 - ax)) (IntKind.i64.wrap (p.2 - ay)) last,P2 1 1] ⟨Bo (bA p),[]⟩) :
  ItOK Tryz.prog 279 [] [.ipt q.c,.ipt [I ax,I ay],.ipt [I last]] (Zkh ax ay (fun p => bB p && !bA p) q.ps) := by
 obtain ⟨nm,ht,fl,ce,ms,ps,wa,ca,se⟩ := q
 dsimp only at h1 h2 hn hB hA ⊢
 have l1 : (ps.map pt).length = ps.length := by simp
 refine bs.yiter (sx := nos) Zd Tryz.func279 (by kernel_rfl) rfl (by kernel_rfl) fun B Ig l JX hI => ?_
 rcases h1 with rfl | ⟨L1,rfl⟩ <;> rcases h2 with rfl | ⟨L2,rfl⟩
 all_goals
  conv => whnf
  refine Zt4 (S := Nat × Int) (fun t => ps.length - t.1) (fun t => [(0,.yld l),(1,.ipt [.str nm,I ht,.str fl,.str ce,.isl 6 ms,.isl 2 (ps.map pt),.isl 3 wa,_,_]),(2,.ipt [I ax,I ay]),(3,.ipt [I last]),(11,.isl 2 (ps.map pt)),(12,I (ps.map pt).length),(13,I t.2)]) (fun _ => []) (fun t => some (Zkh ax ay (fun p => bB p && !bA p) (ps.drop t.1))) 0 (fun _ => 0) (fun t => t.2 = t.1 /\ t.1 <= ps.length) (0,0) ⟨rfl,Nat.zero_le _⟩ (Nat.le_refl _) rfl [] rfl (kps) (kps) ?_
  rintro ⟨k,i⟩ ⟨hi,hk⟩
  dsimp only at hi hk
  subst hi
  by_cases hlt : k < ps.length
  ·have e1 : (ps.map pt)[((k : Nat) : Int).toNat]? = some (pt ps[k]) := by simp [hlt]
   have hm := List.getElem_mem hlt
   have hT := Zf (hB _ hm) (Zf (hA _ hm) (Zj (f0 := 87) (r := rFr) (fun a res h => by unfold rFr at h; split at h <;> cases h; exact d87 _ _ _ _) Zd))
   have hG : (IntKind.i64.wrap ((k : Int) + 1) = ((k + 1 : Nat) : Int) /\ k + 1 <= ps.length) /\ ps.length - (k + 1) < ps.length - k := ⟨⟨Zk (by omega),hlt⟩,by omega⟩
   dsimp only
   rw [List.drop_eq_getElem_cons hlt]
   rw [Ztq]
   generalize ps[k] = p at *
   clear hB hA hm
   obtain ⟨px,py⟩ := p
   dsimp only at e1 hT ⊢
   generalize bB (px,py) = b1 at *
   generalize bA (px,py) = b2 at *
   by_cases c : px = ax /\ py = ay
   ·rw [if_pos c]
    refine bs.yv hT hI (sx := nos) ?_
    repeat' (first | refine wk3 ?_ | (refine wk2 ?_ ?_ <;> intro _) | refine wk4 ?_ | fail); all_goals (conv => whnf)
    all_goals first
     | (refine Done.mk ?_; exact ⟨(k + 1,_),[],rfl,kps,kps,rfl,hG.1,hG.2⟩)
     | (exfalso; clear hT e1; simp_all; done)
   ·rw [if_neg c]
    cases b1 <;> cases b2
    all_goals
     refine bs.yv hT hI (sx := nos) ?_
     repeat' (first | refine wk3 ?_ | (refine wk2 ?_ ?_ <;> intro _) | refine wk4 ?_ | fail); all_goals (conv => whnf)
    all_goals first
     | (refine Done.mk ?_; exact ⟨(k + 1,_),[],rfl,kps,kps,rfl,hG.1,hG.2⟩)
     | (exfalso; rename_i q; simp at q; exact c q)
     | skip
    all_goals
     refine Yd.mk ⟨rfl,rfl,.same rfl,fun _ => rfl,?_,?_⟩
     all_goals repeat' (first | refine wk3 ?_ | (refine wk2 ?_ ?_ <;> intro _) | refine wk4 ?_ | fail); all_goals (conv => whnf)
    all_goals first
     | (refine Done.mk ?_; exact ⟨(k + 1,_),[],rfl,kps,kps,rfl,hG.1,hG.2⟩)
     | exact Done.mk (.inr rfl)
  ·dsimp only
   rw [List.drop_of_length_le (by omega)]
   unfold Zkh
   refine bs.yv Zd hI (sx := nos) ?_
   repeat' (first | refine wk3 ?_ | (refine wk2 ?_ ?_ <;> intro _) | refine wk4 ?_ | fail); all_goals (conv => whnf)
   exact Done.mk (.inl rfl)
def bxP : Pl := ⟨⟨⟨[104]⟩⟩,600,⟨⟨[119]⟩⟩,⟨⟨[119]⟩⟩,[[.str ⟨⟨[119]⟩⟩,I 100,I 100,I 100,I 100,I 0]],[(0,0),(1000,0),(1000,2000),(0,2000)],
 [[.str ⟨⟨[97]⟩⟩,.str ⟨⟨[119]⟩⟩,.str ⟨⟨[]⟩⟩],[.str ⟨⟨[98]⟩⟩,.str ⟨⟨[119]⟩⟩,.str ⟨⟨[]⟩⟩],[.str ⟨⟨[99]⟩⟩,.str ⟨⟨[119]⟩⟩,.str ⟨⟨[]⟩⟩],[.str ⟨⟨[100]⟩⟩,.str ⟨⟨[119]⟩⟩,.str ⟨⟨[]⟩⟩]],.nils,.nils⟩
abbrev Yfo (p : Int × Int) : List AV := [.agg bxP.c,rayA 500 1000 (IntKind.i64.wrap (p.1 - 500)) (IntKind.i64.wrap (p.2 - 1000)) (-1),P2 1 1]
noncomputable def allR (f : FuncId) (v : AV) (l : List (List AV)) : Bool := l.all fun a => isR v (pcF (exT [197] Zvj) f a)
set_option maxRecDepth 1000000 in
theorem sB : allR 250 (.bool true) (bxP.ps.map Yfo) = true := by kernel_rfl
set_option maxRecDepth 1000000 in
theorem sA : allR 280 (.bool false) (bxP.ps.map Yfo) = true := by kernel_rfl
theorem Zs8 {f : FuncId} {v : AV} {l : List (List AV)} (h : allR f v l = true) {a : List AV} (ha : a ∈ l) : PCall Tryz.prog f a ⟨v,[]⟩ := Zrz Zl6 (List.all_eq_true.1 h a ha)
def bxX : List (List AV) := [[P2 (-500) (-1000)],[P2 500 (-1000)],[P2 500 1000],[P2 (-500) 1000]]
theorem Yhr : ItOK Tryz.prog 279 [] [.ipt bxP.c,.ipt [I 500,I 1000],.ipt [I (-1)]] bxX :=
 Yhv (q := bxP) (.inl rfl) (.inl rfl) (by decide) 500 1000 (-1) (fun _ => true) (fun _ => false) (fun p hp => Zs8 sB (List.mem_map_of_mem hp)) (fun p hp => Zs8 sA (List.mem_map_of_mem hp))
def itT5 : ITab := fun g c0 c1 => cond (Nat.beq g 279 && (eqL c0 [] && eqL c1 [.ipt bxP.c,.ipt [I 500,I 1000],.ipt [I (-1)]])) (some bxX) (itT g c0 c1)
theorem Yef : ∀ g c0 c1 xs,itT5 g c0 c1 = some xs -> ItOK Tryz.prog g c0 c1 xs := by
 intro g c0 c1 xs h
 unfold itT5 at h
 cases hb : (Nat.beq g 279 && (eqL c0 [] && eqL c1 [.ipt bxP.c,.ipt [I 500,I 1000],.ipt [I (-1)]])) with
 | true =>
  rw [hb] at h
  cases h
  simp only [Bool.and_eq_true] at hb
  rw [Nat.eq_of_beq_eq_true hb.1,Ze9 _ _ hb.2.1,Ze9 _ _ hb.2.2]
  exact Yhr
 | false => rw [hb] at h; exact Ycg g c0 c1 xs h
noncomputable def exT5 (xs : List Nat) (pt : PC) : CF := exG Tryz.prog (tget tbl) (memN eqs) itT5 (memN xs) pt 1000 60
theorem Zxo {xs : List Nat} {pt : PC} (hpt : PCOK Tryz.prog pt) : CFOK Tryz.prog (exT5 xs pt) := Zjx Zzf eqOK Yef mixed hpt 60
theorem Yf {xs : List Nat} {pt : PC} (hpt : PCOK Tryz.prog pt) {f : FuncId} {a : List AV} {v : AV} (h : isR v (pcF (exT5 xs pt) f a) = true) : PCall Tryz.prog f a ⟨v,[]⟩ := Zmk (Zxo hpt) (Ych h)
mutual
def toFz (bl : List (Nat × List (List AV))) : AV -> Option AV
 | .asl id 0 len => match bl[id]? with
  | some (es,els) => cond (Nat.beq len els.length) (some (.isl es els)) none
  | none => none
 | .agg cs => match Ztj bl cs with
  | some ds => some (.agg ds)
  | none => none
 | .tup cs => match Ztj bl cs with
  | some ds => some (.tup ds)
  | none => none
 | .int k n => some (.int k n)
 | .bool b => some (.bool b)
 | .nils => some .nils
 | _ => none
def Ztj (bl : List (Nat × List (List AV))) : List AV -> Option (List AV)
 | [] => some []
 | c :: cs => match toFz bl c,Ztj bl cs with
  | some d,some ds => some (d :: ds)
  | _,_ => none
end
mutual
theorem Zvd (bl : List (Nat × List (List AV))) : ∀ (v : AV) {v' : AV},toFz bl v = some v' -> Frz bl v v'
 | .asl id 0 len,v',h => by
  simp only [toFz] at h
  split at h
  ·rename_i es els hb
   obtain ⟨h1,h⟩ := Zb h
   cases h
   exact ⟨hb,rfl,Nat.eq_of_beq_eq_true h1⟩
  ·cases h
 | .agg cs,v',h => by
  simp only [toFz] at h
  split at h
  ·rename_i ds hd
   cases h
   exact Zl4 bl cs hd
  ·cases h
 | .tup cs,v',h => by
  simp only [toFz] at h
  split at h
  ·rename_i ds hd
   cases h
   exact Zl4 bl cs hd
  ·cases h
 | .int k n,v',h => by simp only [toFz] at h; cases h; exact ⟨rfl,rfl⟩
 | .bool b,v',h => by simp only [toFz] at h; cases h; exact ⟨rfl,rfl⟩
 | .nils,v',h => by simp only [toFz] at h; cases h; exact ⟨rfl,rfl⟩
 | .any,_,h | .flt _ _,_,h | .cpx _ _ _,_,h | .str _,_,h | .ptr _ _ _,_,h | .ipt _,_,h | .nilp,_,h | .bsl _ _ _ _ _,_,h | .isl _ _,_,h | .amap _,_,h | .func _ _ _,_,h | .yld _,_,h | .asl _ (_ + 1) _,_,h => by simp [toFz] at h
theorem Zl4 (bl : List (Nat × List (List AV))) : ∀ (v : List AV) {v' : List AV},Ztj bl v = some v' -> FrzL bl v v'
 | [],v',h => by simp only [Ztj] at h; cases h; exact trivial
 | c :: cs,v',h => by
  simp only [Ztj] at h
  split at h
  ·rename_i d ds h1 h2
   cases h
   exact ⟨Zvd bl c h1,Zl4 bl cs h2⟩
  ·cases h
end
def isRF (v0 : AV) : Option PRes -> Bool
 | some ⟨v,bl⟩ => match toFz bl v with
  | some u => eqA u v0
  | none => false
 | _ => false
theorem Zi5 {xs : List Nat} {pt : PC} (hpt : PCOK Tryz.prog pt) {f : FuncId} {a : List AV} {v : AV} (h : isRF v (pcF (exT5 xs pt) f a) = true) : PCall Tryz.prog f a ⟨v,[]⟩ := by
 unfold isRF at h
 split at h
 ·rename_i u bl hu
  split at h
  ·rename_i d hd
   rw [<-Zxw _ _ h]
   exact (Zmk (Zxo hpt) hu).freeze (Zvd bl u hd)
  ·cases h
 ·cases h
set_option maxRecDepth 1000000 in
theorem Yh5 : isR (.tup [.agg [I 0,I 0],I 0]) (pcF (exT [197] Zvj) 153 [.agg bxP.c]) = true := by kernel_rfl
theorem Yhf : PCall Tryz.prog 153 [.agg bxP.c] ⟨.tup [.agg [I 0,I 0],I 0],[]⟩ := Zrz Zl6 Yh5
noncomputable def boxT : PC := Zba 153 [.agg bxP.c] (.tup [.agg [I 0,I 0],I 0]) Zvj
theorem Zyj : PCOK Tryz.prog boxT := Yg Yhf Zl6
set_option maxRecDepth 1000000 in
theorem aw77 : isR (I 0) (pcF (exT5 [153,197] boxT) 77 [.agg bxP.c,.agg [.nils,.nils]]) = true := by kernel_rfl
noncomputable def t77 : PC := Zba 77 [.agg bxP.c,.agg [.nils,.nils]] (I 0) boxT
theorem Ybs : PCOK Tryz.prog t77 := Yg (Yf Zyj aw77) Zyj
set_option maxRecDepth 1000000 in
theorem aw24 : isR (I 0) (pcF (exT5 [77,153,197] t77) 24 [.agg bxP.c,.agg [.nils,.nils],.agg [I 300,I 700,I 150,I 300,I 800,I 50,I 2]]) = true := by kernel_rfl
noncomputable def t24 : PC := Zba 24 [.agg bxP.c,.agg [.nils,.nils],.agg [I 300,I 700,I 150,I 300,I 800,I 50,I 2]] (I 0) t77
theorem Ybw : PCOK Tryz.prog t24 := Yg (Yf Ybs aw24) Ybs
set_option maxRecDepth 1000000 in
theorem aw64 : isR (I 0) (pcF (exT5 [24,77,153,197] t24) 64 [.agg bxP.c,.isl 1 [[I 1]]]) = true := by kernel_rfl
noncomputable def t64 : PC := Zba 64 [.agg bxP.c,.isl 1 [[I 1]]] (I 0) t24
theorem Ybt : PCOK Tryz.prog t64 := Yg (Yf Ybw aw64) Ybw
set_option maxRecDepth 1000000 in
theorem Yh7 : isR (.tup [.agg [I 1000,I 750,I 100,I 1],I 0]) (pcF (exT5 [24,64,77,153,197] t64) 124 [.agg bxP.c,.agg [.nils,.nils],.agg [I 1,I 1700,I 700,I 150,I 300,I 800,I 50,I 1]]) = true := by kernel_rfl
noncomputable def t124 : PC := Zba 124 [.agg bxP.c,.agg [.nils,.nils],.agg [I 1,I 1700,I 700,I 150,I 300,I 800,I 50,I 1]] (.tup [.agg [I 1000,I 750,I 100,I 1],I 0]) t64
theorem Zvf : PCOK Tryz.prog t124 := Yg (Yf Ybt Yh7) Ybt
set_option maxRecDepth 1000000 in
theorem Yhh : isR (.tup [.bool true,I 0]) (pcF (exT5 [24,64,77,124,153,197] t124) 125 [.agg bxP.c,.agg [.nils,.nils],.agg [I 300,I 700,I 150,I 1,I 1000,I 750,I 100,I 1]]) = true := by kernel_rfl
noncomputable def Ydj : PC := Zba 125 [.agg bxP.c,.agg [.nils,.nils],.agg [I 300,I 700,I 150,I 1,I 1000,I 750,I 100,I 1]] (.tup [.bool true,I 0]) t124
theorem Zro : PCOK Tryz.prog Ydj := Yg (Yf Zvf Yhh) Zvf
set_option maxRecDepth 1000000 in
theorem Yhg : isR (.tup [.bool true,I 0]) (pcF (exT5 [24,64,77,124,125,153,197] Ydj) 125 [.agg bxP.c,.agg [.nils,.nils],.agg [I 1000,I 750,I 100,I 1,I 300,I 800,I 50,I 1]]) = true := by kernel_rfl
noncomputable def Ydi : PC := Zba 125 [.agg bxP.c,.agg [.nils,.nils],.agg [I 1000,I 750,I 100,I 1,I 300,I 800,I 50,I 1]] (.tup [.bool true,I 0]) Ydj
theorem Zrn : PCOK Tryz.prog Ydi := Yg (Yf Zro Yhg) Zro
set_option maxRecDepth 1000000 in
theorem Yh6 : isR (.tup [.agg [I 0,I 1000],I 0]) (pcF (exT5 [24,64,77,124,125,153,197] Ydi) 136 [.agg bxP.c,.agg [.nils,.nils],I 1]) = true := by kernel_rfl
noncomputable def t136 : PC := Zba 136 [.agg bxP.c,.agg [.nils,.nils],I 1] (.tup [.agg [I 0,I 1000],I 0]) Ydi
theorem Zve : PCOK Tryz.prog t136 := Yg (Yf Zrn Yh6) Zrn
set_option maxRecDepth 1000000 in
theorem aw14 : isRF (.tup [.agg [.isl 1 [[I 1]],.isl 4 [[I 1000,I 750,I 100,I 1]],I 1980000],I 0]) (pcF (exT5 [24,64,77,124,125,136,153,197] t136) 14 [.agg bxP.c,.agg [.nils,.nils],.agg [I 300,I 700,I 150,I 300,I 800,I 50,I 2],.isl 1 [[I 1]]]) = true := by kernel_rfl
noncomputable def t14 : PC := Zba 14 [.agg bxP.c,.agg [.nils,.nils],.agg [I 300,I 700,I 150,I 300,I 800,I 50,I 2],.isl 1 [[I 1]]] (.tup [.agg [.isl 1 [[I 1]],.isl 4 [[I 1000,I 750,I 100,I 1]],I 1980000],I 0]) t136
theorem Ybx : PCOK Tryz.prog t14 := Yg (Zi5 Zve aw14) Zve
set_option maxRecDepth 1000000 in
theorem aw38 : isR (.tup [.agg [I 4159,I 4160],I 0]) (pcF (exT5 [14,24,64,77,124,125,136,153,197] t14) 38 [.agg [.nils,.nils,I 20000],I 34000]) = true := by kernel_rfl
noncomputable def t38 : PC := Zba 38 [.agg [.nils,.nils,I 20000],I 34000] (.tup [.agg [I 4159,I 4160],I 0]) t14
theorem Ybv : PCOK Tryz.prog t38 := Yg (Yf Ybx aw38) Ybx
set_option maxRecDepth 1000000 in
theorem Yh8 : isR (.tup [.agg bxP.c,I 0]) (pcF (exT5 [14,24,38,64,77,124,125,136,153,197] t38) 117 [.agg bxP.c,.agg [I 500,I 1000],I 0]) = true := by kernel_rfl
noncomputable def t117 : PC := Zba 117 [.agg bxP.c,.agg [I 500,I 1000],I 0] (.tup [.agg bxP.c,I 0]) t38
theorem Zvg : PCOK Tryz.prog t117 := Yg (Yf Ybv Yh8) Ybv
set_option maxRecDepth 1000000 in
theorem awn0 : isR (.tup [.agg [I 1000000,I 4000,I 2,.bool true],.bool true]) (pcF (exT5 [14,24,38,64,77,117,124,125,136,153,197] t117) 121 [.agg bxP.c,.agg [I 500,I 1000,I 0,I 4,I (-1)]]) = true := by kernel_rfl
noncomputable def tn0 : PC := Zba 121 [.agg bxP.c,.agg [I 500,I 1000,I 0,I 4,I (-1)]] (.tup [.agg [I 1000000,I 4000,I 2,.bool true],.bool true]) t117
theorem Ybr : PCOK Tryz.prog tn0 := Yg (Yf Zvg awn0) Zvg
set_option maxRecDepth 1000000 in
theorem awn1 : isR (.tup [.agg [I 1000000,I 4000,I 3,.bool true],.bool true]) (pcF (exT5 [14,24,38,64,77,117,121,124,125,136,153,197] tn0) 121 [.agg bxP.c,.agg [I 500,I 1000,I (-2),I 0,I (-1)]]) = true := by kernel_rfl
noncomputable def tn1 : PC := Zba 121 [.agg bxP.c,.agg [I 500,I 1000,I (-2),I 0,I (-1)]] (.tup [.agg [I 1000000,I 4000,I 3,.bool true],.bool true]) tn0
theorem Ybq : PCOK Tryz.prog tn1 := Yg (Yf Ybr awn1) Ybr
set_option maxRecDepth 1000000 in
theorem awn2 : isR (.tup [.agg [I 1000000,I 4000,I 0,.bool true],.bool true]) (pcF (exT5 [14,24,38,64,77,117,121,124,125,136,153,197] tn1) 121 [.agg bxP.c,.agg [I 500,I 1000,I 0,I (-4),I (-1)]]) = true := by kernel_rfl
noncomputable def tn2 : PC := Zba 121 [.agg bxP.c,.agg [I 500,I 1000,I 0,I (-4),I (-1)]] (.tup [.agg [I 1000000,I 4000,I 0,.bool true],.bool true]) tn1
theorem Ybp : PCOK Tryz.prog tn2 := Yg (Yf Ybq awn2) Ybq
set_option maxRecDepth 1000000 in
theorem awn3 : isR (.tup [.agg [I 1000000,I 4000,I 1,.bool true],.bool true]) (pcF (exT5 [14,24,38,64,77,117,121,124,125,136,153,197] tn2) 121 [.agg bxP.c,.agg [I 500,I 1000,I 2,I 0,I (-1)]]) = true := by kernel_rfl
noncomputable def tn3 : PC := Zba 121 [.agg bxP.c,.agg [I 500,I 1000,I 2,I 0,I (-1)]] (.tup [.agg [I 1000000,I 4000,I 1,.bool true],.bool true]) tn2
theorem Ybo : PCOK Tryz.prog tn3 := Yg (Yf Ybp awn3) Ybp
set_option maxRecDepth 1000000 in
theorem awr0 : isR (.tup [.agg [I 1000000,I 2000,I 1,.bool true],.bool true]) (pcF (exT5 [14,24,38,64,77,117,121,124,125,136,153,197] tn3) 121 [.agg bxP.c,.agg [I 500,I 1000,I 1,I 0,I (-1)]]) = true := by kernel_rfl
noncomputable def tr0 : PC := Zba 121 [.agg bxP.c,.agg [I 500,I 1000,I 1,I 0,I (-1)]] (.tup [.agg [I 1000000,I 2000,I 1,.bool true],.bool true]) tn3
theorem Ybn : PCOK Tryz.prog tr0 := Yg (Yf Ybo awr0) Ybo
set_option maxRecDepth 1000000 in
theorem awr1 : isR (.tup [.agg [I 3000000,I 2000,I 3,.bool true],.bool true]) (pcF (exT5 [14,24,38,64,77,117,121,124,125,136,153,197] tr0) 121 [.agg bxP.c,.agg [I 1500,I 1000,I (-1),I 0,I 1]]) = true := by kernel_rfl
noncomputable def tr1 : PC := Zba 121 [.agg bxP.c,.agg [I 1500,I 1000,I (-1),I 0,I 1]] (.tup [.agg [I 3000000,I 2000,I 3,.bool true],.bool true]) tr0
theorem Ybm : PCOK Tryz.prog tr1 := Yg (Yf Ybn awr1) Ybn
set_option maxRecDepth 1000000 in
theorem awr2 : isR (.tup [.agg [I 5000000,I 2000,I 1,.bool true],.bool true]) (pcF (exT5 [14,24,38,64,77,117,121,124,125,136,153,197] tr1) 121 [.agg bxP.c,.agg [I (-1500),I 1000,I 1,I 0,I 3]]) = true := by kernel_rfl
noncomputable def tr2 : PC := Zba 121 [.agg bxP.c,.agg [I (-1500),I 1000,I 1,I 0,I 3]] (.tup [.agg [I 5000000,I 2000,I 1,.bool true],.bool true]) tr1
theorem Ybl : PCOK Tryz.prog tr2 := Yg (Yf Ybm awr2) Ybm
set_option maxRecDepth 1000000 in
theorem aw61 : isRF (.tup [.isl 8 [[.nils,I 500,I 1000,I 1,I 2,I (-1),I 2,I 2],[.nils,I 500,I 1000,I (-1),I 2,I (-1),I (-2),I 3],[.nils,I 500,I 1000,I (-1),I (-2),I 1,I (-2),I 0],[.nils,I 500,I 1000,I 1,I (-2),I 1,I 2,I 1]],I 0]) (pcF (exT5 [14,24,38,64,77,117,121,124,125,136,153,197] tr2) 61 [.agg bxP.c,.agg [I 500,I 1000],I 0]) = true := by kernel_rfl
noncomputable def t61 : PC := Zba 61 [.agg bxP.c,.agg [I 500,I 1000],I 0] (.tup [.isl 8 [[.nils,I 500,I 1000,I 1,I 2,I (-1),I 2,I 2],[.nils,I 500,I 1000,I (-1),I 2,I (-1),I (-2),I 3],[.nils,I 500,I 1000,I (-1),I (-2),I 1,I (-2),I 0],[.nils,I 500,I 1000,I 1,I (-2),I 1,I 2,I 1]],I 0]) tr2
theorem Ybu : PCOK Tryz.prog t61 := Yg (Zi5 Ybl aw61) Ybl
set_option maxRecDepth 1000000 in
theorem aw62 : isRF (.tup [.isl 1 [[I 1],[I 3],[I 1]],I 0]) (pcF (exT5 [14,24,38,61,64,77,117,121,124,125,136,153,197] t61) 62 [.agg bxP.c,.agg [I 500,I 1000],.agg [I 1,I 0],I 3]) = true := by kernel_rfl
noncomputable def t62 : PC := Zba 62 [.agg bxP.c,.agg [I 500,I 1000],.agg [I 1,I 0],I 3] (.tup [.isl 1 [[I 1],[I 3],[I 1]],I 0]) t61
theorem Yfh : PCOK Tryz.prog t62 := Yg (Zi5 Ybu aw62) Ybu
set_option maxRecDepth 1000000 in
theorem aw12 : isR (.bool true) (pcF (exT5 [14,24,38,61,62,64,77,117,121,124,125,136,153,197] t62) 12 []) = true := by kernel_rfl
theorem Ybd : PCall Tryz.prog 12 [] ⟨.bool true,[]⟩ := Yf Yfh aw12
theorem own : ownKnob Tryz.prog.godebug = none := by kernel_rfl
theorem Yeb : laidOutB Tryz.prog = true := by kernel_rfl
theorem Yhy : laidOutB Tryz.checked.prog = true := by kernel_rfl
theorem Yhw : mapsRowed Tryz.checked.prog = true := by kernel_rfl
theorem Ygy : Tryz.checked.prog.plainKeys = Rows.imageDelaysRow.plainKeys := by kernel_rfl
theorem Yg1 : Tryz.checked.prog.stopsHeard = true := by kernel_rfl
theorem fMay : Tryz.checked.prog.mayEnter = true := by kernel_rfl
theorem Ygz : Tryz.checked.prog.liftsFinal = Rows.imageDelaysRow.lifted := by kernel_rfl
theorem Yhx : Tryz.checked.prog.make = some Rows.imageDelaysRow.make := by kernel_rfl
theorem Yb6 {a b c : Int} (hc : 0 < c) : a * c < b * c ↔ a < b := ⟨fun h => Int.lt_of_mul_lt_mul_right h (by omega),fun h => Int.mul_lt_mul_of_pos_right h hc⟩
theorem Zsc {a b c : Int} (hc : 0 < c) : a * c <= b * c ↔ a <= b := ⟨fun h => Int.le_of_mul_le_mul_right h hc,fun h => Int.mul_le_mul_of_nonneg_right h (by omega)⟩
theorem Zdr {a c : Int} (hc : 0 < c) : 0 < c * a ↔ 0 < a := by rw [Int.mul_comm]; have := Yb6 (a := 0) (b := a) hc; rwa [Int.zero_mul] at this
theorem Zf7 {a c : Int} (hc : 0 < c) : c * a < 0 ↔ a < 0 := by rw [Int.mul_comm]; have := Yb6 (a := a) (b := 0) hc; rwa [Int.zero_mul] at this
theorem nn_l {a c : Int} (hc : 0 < c) : 0 <= c * a ↔ 0 <= a := by rw [Int.mul_comm]; have := Zsc (a := 0) (b := a) hc; rwa [Int.zero_mul] at this
theorem np_l {a c : Int} (hc : 0 < c) : c * a <= 0 ↔ a <= 0 := by rw [Int.mul_comm]; have := Zsc (a := a) (b := 0) hc; rwa [Int.zero_mul] at this
theorem Zd0 (a b : Int) : imin a b = min a b := by
 unfold imin; by_cases h : b < a <;> simp [h] <;> omega
theorem Zd1 (a b : Int) : imax a b = max a b := by
 unfold imax; by_cases h : a < b <;> simp [h] <;> omega
theorem Zbp {a b d : Int} (hd : 0 < d) : min a b * d = min (a * d) (b * d) := by
 rcases Int.le_total a b with h | h
 ·rw [Int.min_eq_left h,Int.min_eq_left (Int.mul_le_mul_of_nonneg_right h (by omega))]
 ·rw [Int.min_eq_right h,Int.min_eq_right (Int.mul_le_mul_of_nonneg_right h (by omega))]
theorem Zbq {a b d : Int} (hd : 0 < d) : max a b * d = max (a * d) (b * d) := by
 rcases Int.le_total a b with h | h
 ·rw [Int.max_eq_right h,Int.max_eq_right (Int.mul_le_mul_of_nonneg_right h (by omega))]
 ·rw [Int.max_eq_left h,Int.max_eq_left (Int.mul_le_mul_of_nonneg_right h (by omega))]
def spans (a b c d : Int) : Prop := ∃ l m : Int,0 < l /\ 0 < m /\ 0 <= l * a + m * b /\ 0 <= l * c + m * d
theorem Zto {a b c d : Int} : spans a b c d ↔ spans b a d c :=
 ⟨fun ⟨l,m,h1,h2,h3,h4⟩ => ⟨m,l,h2,h1,by rw [Int.add_comm]; exact h3,by rw [Int.add_comm]; exact h4⟩,fun ⟨l,m,h1,h2,h3,h4⟩ => ⟨m,l,h2,h1,by rw [Int.add_comm]; exact h3,by rw [Int.add_comm]; exact h4⟩⟩
theorem Zzh {a b c d : Int} (h1 : 0 < a + c) (h2 : 0 < b + d) (he : a * d = b * c) : spans a b c d ↔ 0 <= a /\ 0 <= c := by
 constructor
 ·rintro ⟨l,m,hl,hm,e1,e2⟩
  have hp : 0 < l * (a + c) + m * (b + d) := by have := Int.mul_pos hl h1; have := Int.mul_pos hm h2; omega
  have k1 : (l * a + m * b) * (a + c) = (l * (a + c) + m * (b + d)) * a := by grind
  have k2 : (l * c + m * d) * (a + c) = (l * (a + c) + m * (b + d)) * c := by grind
  have q1 := Int.mul_nonneg e1 (Int.le_of_lt h1)
  have q2 := Int.mul_nonneg e2 (Int.le_of_lt h1)
  rw [k1,nn_l hp] at q1
  rw [k2,nn_l hp] at q2
  exact ⟨q1,q2⟩
 ·rintro ⟨ha,hc⟩
  refine ⟨1,1,by omega,by omega,?_,?_⟩
  ·have k : (a + c) * b = a * (b + d) := by grind
   have q := Int.mul_nonneg ha (Int.le_of_lt h2)
   rw [<-k,nn_l h1] at q
   omega
  ·have k : (a + c) * d = c * (b + d) := by grind
   have q := Int.mul_nonneg hc (Int.le_of_lt h2)
   rw [<-k,nn_l h1] at q
   omega
theorem Zl9 {a b c d : Int} (h1 : 0 < a + c) (h2 : 0 < b + d) (he : b * c < a * d) : spans a b c d ↔ 0 < a /\ 0 < d := by
 constructor
 ·rintro ⟨l,m,hl,hm,e1,e2⟩
  constructor
  ·by_cases ha : 0 < a
   ·exact ha
   exfalso
   have q : (b + d) * a <= 0 := (np_l h2).2 (by omega)
   have q2 : (a + c) * b < 0 := by
    have : (a + c) * b = (b + d) * a + (b * c - a * d) := by grind
    omega
   have hb := (Zf7 h1).1 q2
   have := (Zf7 hm).2 hb
   have := (np_l hl).2 (show a <= 0 by omega)
   omega
  ·by_cases hd : 0 < d
   ·exact hd
   exfalso
   have q : (a + c) * d <= 0 := (np_l h1).2 (by omega)
   have q2 : (b + d) * c < 0 := by
    have : (b + d) * c = (a + c) * d + (b * c - a * d) := by grind
    omega
   have hb := (Zf7 h2).1 q2
   have := (Zf7 hl).2 hb
   have := (np_l hm).2 (show d <= 0 by omega)
   omega
 ·rintro ⟨ha,hd⟩
  by_cases hb : 0 <= b
  ·refine ⟨1,c.natAbs + 1,by omega,by omega,?_,?_⟩
   ·have := Int.mul_nonneg (show (0 : Int) <= (c.natAbs : Int) + 1 by omega) hb
    omega
   ·have := Int.mul_le_mul_of_nonneg_left (show 1 <= d by omega) (show (0 : Int) <= (c.natAbs : Int) + 1 by omega)
    omega
  by_cases hc : 0 <= c
  ·refine ⟨-b,1,by omega,by omega,?_,?_⟩
   ·have := Int.mul_le_mul_of_nonneg_left (show 1 <= a by omega) (show (0 : Int) <= -b by omega)
    omega
   ·have := Int.mul_nonneg (show 0 <= -b by omega) hc
    omega
  ·refine ⟨-b,a,by omega,ha,?_,?_⟩
   ·have : -b * a + a * b = 0 := by grind
    omega
   ·have : -b * c + a * d = a * d - b * c := by grind
    omega
theorem Zrq {a b c d : Int} (h1 : 0 < a + c) (h2 : 0 < b + d) (he : a * d < b * c) : spans a b c d ↔ 0 < b /\ 0 < c := by
 rw [Zto]; exact Zl9 h2 h1 he
structure P2d where
 x : Int
 y : Int
 d : Int
def bsP (w : Wl) (sx sy : Int) (p : P2d) : Int := bes w sx sy p.x p.y p.d
def alP (w : Wl) (sx sy : Int) (p : P2d) : Int := alo w sx sy p.x p.y p.d
def ful (n sx sy : Int) : Int := n * (sx * sx + sy * sy)
def Uc (w : Wl) (n sx sy : Int) (p q : P2d) : Prop := ∃ l m : Int,0 < l /\ 0 < m /\ l * bsP w sx sy p + m * bsP w sx sy q = 0 /\ 0 <= l * alP w sx sy p + m * alP w sx sy q /\ l * alP w sx sy p + m * alP w sx sy q <= ful n sx sy * (l * p.d + m * q.d)
theorem Yeo {w : Wl} {n sx sy : Int} (h : Str w n sx sy) : 0 < ful n sx sy := by
 have hn := h.hn
 have hxy := h.hxy
 unfold ful
 rcases h.hx with rfl | rfl | rfl <;> rcases h.hy with rfl | rfl | rfl <;> (try (exact absurd ⟨rfl,rfl⟩ hxy)) <;> simp <;> omega
theorem meetW_swap {w : Wl} {n sx sy : Int} {p q : P2d} : Uc w n sx sy p q ↔ Uc w n sx sy q p := by
 have key : ∀ p q,Uc w n sx sy p q -> Uc w n sx sy q p := by
  rintro p q ⟨l,m,h1,h2,h3,h4,h5⟩
  refine ⟨m,l,h2,h1,by omega,by omega,?_⟩
  rw [Int.add_comm (m * q.d)]; omega
 exact ⟨key _ _,key _ _⟩
theorem Zlb {w : Wl} {n sx sy : Int} (h : Str w n sx sy) {p q : P2d} (h1 : bsP w sx sy p = 0) (h2 : bsP w sx sy q = 0) : Uc w n sx sy p q ↔ spans (alP w sx sy p) (alP w sx sy q) (ful n sx sy * p.d - alP w sx sy p) (ful n sx sy * q.d - alP w sx sy q) := by
 unfold Uc spans
 rw [h1,h2]
 constructor
 ·rintro ⟨l,m,hl,hm,_,e1,e2⟩
  exact ⟨l,m,hl,hm,e1,by grind⟩
 ·rintro ⟨l,m,hl,hm,e1,e2⟩
  exact ⟨l,m,hl,hm,by omega,e1,by grind⟩
theorem Zla {w : Wl} {n sx sy : Int} {p q : P2d} (h0 : ¬(bsP w sx sy p = 0 /\ bsP w sx sy q = 0)) (h1 : 0 <= sgn (bsP w sx sy p) * sgn (bsP w sx sy q)) : ¬ Uc w n sx sy p q := by
 rintro ⟨l,m,hl,hm,e,_⟩
 have hs : ¬ (sgn (bsP w sx sy p) * sgn (bsP w sx sy q) < 0) := by omega
 rw [sgn_mul_neg] at hs
 generalize bsP w sx sy p = a at *
 generalize bsP w sx sy q = b at *
 by_cases ha : 0 < a
 ·have := (Zdr hl).2 ha
  have := (nn_l hm).2 (show 0 <= b by omega)
  omega
 by_cases hb : a < 0
 ·have := (Zf7 hl).2 hb
  have := (np_l hm).2 (show b <= 0 by omega)
  omega
 have : a = 0 := by omega
 subst this
 have : m * b ≠ 0 := Int.mul_ne_zero (by omega) (by omega)
 omega
theorem Zco {w : Wl} {n sx sy : Int} {p q : P2d} {f g : Int} (hf : bsP w sx sy p = f) (hg : bsP w sx sy q = g) (h1 : f < 0 /\ 0 < g) : Uc w n sx sy p q ↔ 0 <= g * alP w sx sy p - f * alP w sx sy q /\ g * alP w sx sy p - f * alP w sx sy q <= ful n sx sy * (g * p.d - f * q.d) := by
 unfold Uc
 rw [hf,hg]
 generalize alP w sx sy p = a
 generalize alP w sx sy q = b
 generalize ful n sx sy = F
 constructor
 ·rintro ⟨l,m,hl,hm,e,e1,e2⟩
  have k1 : g * (l * a + m * b) = l * (g * a - f * b) := by grind
  have k2 : g * (F * (l * p.d + m * q.d) - (l * a + m * b)) = l * (F * (g * p.d - f * q.d) - (g * a - f * b)) := by grind
  have q1 := (nn_l h1.2).2 e1
  have q2 := (nn_l h1.2).2 (show 0 <= F * (l * p.d + m * q.d) - (l * a + m * b) by omega)
  rw [k1,nn_l hl] at q1
  rw [k2,nn_l hl] at q2
  exact ⟨q1,by omega⟩
 ·rintro ⟨e1,e2⟩
  refine ⟨g,-f,h1.2,by omega,by grind,?_,?_⟩
  ·have : g * a + -f * b = g * a - f * b := by grind
   omega
  ·have : g * a + -f * b = g * a - f * b := by grind
   have : g * p.d + -f * q.d = g * p.d - f * q.d := by grind
   rw [this]; omega
theorem Ztp {a b : Int} : sgn a * sgn b <= 0 ↔ ¬((0 < a /\ 0 < b) \/ (a < 0 /\ b < 0)) := by
 unfold sgn
 split <;> split <;> (try split) <;> (try split) <;> simp <;> omega
theorem Zrx {r : Rc} (hr : RcOk r) {x y d : Int} (hd : 0 < d /\ d <= 1000000000000000) : r.has x y d = true ↔ 0 <= x - r.xl * d /\ 0 <= r.xh * d - x /\ 0 <= y - r.yl * d /\ 0 <= r.yh * d - y := by
 obtain ⟨h1,h2,h3,h4,h5,h6⟩ := hr
 have c1 := Zh (f := r.xl) (d := d) (by omega) hd.1
 have c2 := Zh (f := r.xh) (d := d) (by omega) hd.1
 have c3 := Zh (f := r.yl) (d := d) (by omega) hd.1
 have c4 := Zh (f := r.yh) (d := d) (by omega) hd.1
 unfold Rc.has
 rw [W_eq (n := r.xl * d) (by omega) (by omega),W_eq (n := r.xh * d) (by omega) (by omega),W_eq (n := r.yl * d) (by omega) (by omega),W_eq (n := r.yh * d) (by omega) (by omega),Bool.and_eq_true,within_iff,within_iff]
 omega
theorem Zed {r : Rc} (hr : RcOk r) {x y d : Int} (hd : 0 < d /\ d <= 1000000000000000) : r.holds x y d = true ↔ 0 < x - r.xl * d /\ 0 < r.xh * d - x /\ 0 < y - r.yl * d /\ 0 < r.yh * d - y := by
 obtain ⟨h1,h2,h3,h4,h5,h6⟩ := hr
 have c1 := Zh (f := r.xl) (d := d) (by omega) hd.1
 have c2 := Zh (f := r.xh) (d := d) (by omega) hd.1
 have c3 := Zh (f := r.yl) (d := d) (by omega) hd.1
 have c4 := Zh (f := r.yh) (d := d) (by omega) hd.1
 unfold Rc.holds
 rw [W_eq (n := r.xl * d) (by omega) (by omega),W_eq (n := r.xh * d) (by omega) (by omega),W_eq (n := r.yl * d) (by omega) (by omega),W_eq (n := r.yh * d) (by omega) (by omega)]
 simp only [Bool.and_eq_true,decide_eq_true_eq]
 omega
structure PtR (p : Pt) : Prop where
 d0 : 0 < p.d
 d1 : p.d <= 100000
 x : -(5000 * p.d) <= p.x /\ p.x <= 5000 * p.d
 y : -(5000 * p.d) <= p.y /\ p.y <= 5000 * p.d
theorem PtR.ok {p : Pt} (h : PtR p) : PtOk p.x p.y p.d := by
 obtain ⟨h1,h2,h3,h4⟩ := h
 exact ⟨h1,by omega,by omega,by omega⟩
def Pt.pl (p : Pt) : P2d := ⟨p.x,p.y,p.d⟩
def cmpQ (n d m k : Int) : Int := sgn (n * k - m * d)
def Zwg (l : Ln) (a b : Pt) : Bool :=
  if l.beside a = 0 /\ l.beside b = 0 then
    (if cmpQ (l.along a) a.d (l.along b) b.d = 0 then within (l.along a) 0 (IntKind.i64.wrap (l.full * a.d))
     else if cmpQ (l.along a) a.d (l.along b) b.d < 0 then decide (0 < l.along b) && decide (l.along a < IntKind.i64.wrap (l.full * a.d))
     else decide (0 < l.along a) && decide (l.along b < IntKind.i64.wrap (l.full * b.d)))
  else if 0 <= IntKind.i64.wrap (sgn (l.beside a) * sgn (l.beside b)) then false
  else if IntKind.i64.wrap (IntKind.i64.wrap (l.beside b * a.d) - IntKind.i64.wrap (l.beside a * b.d)) < 0 then
    decide (0 <= IntKind.i64.wrap (0 - IntKind.i64.wrap (IntKind.i64.wrap (l.along a * l.beside b) - IntKind.i64.wrap (l.along b * l.beside a)))) && decide (cmpQ (IntKind.i64.wrap (0 - IntKind.i64.wrap (IntKind.i64.wrap (l.along a * l.beside b) - IntKind.i64.wrap (l.along b * l.beside a)))) (IntKind.i64.wrap (0 - IntKind.i64.wrap (IntKind.i64.wrap (l.beside b * a.d) - IntKind.i64.wrap (l.beside a * b.d)))) l.full 1 <= 0)
  else decide (0 <= IntKind.i64.wrap (IntKind.i64.wrap (l.along a * l.beside b) - IntKind.i64.wrap (l.along b * l.beside a))) && decide (cmpQ (IntKind.i64.wrap (IntKind.i64.wrap (l.along a * l.beside b) - IntKind.i64.wrap (l.along b * l.beside a))) (IntKind.i64.wrap (IntKind.i64.wrap (l.beside b * a.d) - IntKind.i64.wrap (l.beside a * b.d))) l.full 1 <= 0)
theorem Yc1 {w : Wl} {n sx sy : Int} (h : Str w n sx sy) {p : Pt} (hp : PtR p) : (-2000000000 <= bsP w sx sy p.pl /\ bsP w sx sy p.pl <= 2000000000) /\ (-2000000000 <= alP w sx sy p.pl /\ alP w sx sy p.pl <= 2000000000) := by
 have a1 := Zh h.b1 hp.d0
 have a2 := Zh h.b2 hp.d0
 have a3 := hp.d1
 have a4 := hp.x
 have a5 := hp.y
 unfold bsP alP bes alo Pt.pl
 dsimp only
 generalize w.fx * p.d = A at *
 generalize w.fy * p.d = C at *
 rcases h.hx with rfl | rfl | rfl <;> rcases h.hy with rfl | rfl | rfl <;> omega
theorem Yco {w : Wl} {n sx sy : Int} (h : Str w n sx sy) : 0 < ful n sx sy /\ ful n sx sy <= 20000 := by
 refine ⟨Yeo h,?_⟩
 have := h.nle
 have := h.hn
 unfold ful
 rcases h.hx with rfl | rfl | rfl <;> rcases h.hy with rfl | rfl | rfl <;> omega
theorem Ydz {w : Wl} {n sx sy : Int} (h : Str w n sx sy) {p q : Pt} (hp : PtR p) (hq : PtR q) : Zwg w.ln p q = true ↔ Uc w n sx sy p.pl q.pl := by
 have ep : w.ln.beside p = bsP w sx sy p.pl := Zaa (z := p.z) h hp.ok
 have eq : w.ln.beside q = bsP w sx sy q.pl := Zaa (z := q.z) h hq.ok
 have ap : w.ln.along p = alP w sx sy p.pl := Zik (z := p.z) h hp.ok
 have aq : w.ln.along q = alP w sx sy q.pl := Zik (z := q.z) h hq.ok
 have ef : w.ln.full = ful n sx sy := Zqq h
 obtain ⟨b1,b2⟩ := Yc1 h hp
 obtain ⟨b3,b4⟩ := Yc1 h hq
 obtain ⟨f1,f2⟩ := Yco h
 have dp := hp.d0
 have dp1 := hp.d1
 have dq := hq.d0
 have dq1 := hq.d1
 have F1 := Zu (a := ful n sx sy) (b := p.d) (A := 20000) (B := 100000) (by omega) (by omega)
 have F2 := Zu (a := ful n sx sy) (b := q.d) (A := 20000) (B := 100000) (by omega) (by omega)
 have P1 := Int.mul_pos f1 dp
 have P2 := Int.mul_pos f1 dq
 unfold Zwg
 rw [ep,eq,ap,aq,ef]
 by_cases h0 : bsP w sx sy p.pl = 0 /\ bsP w sx sy q.pl = 0
 ·rw [if_pos h0,Zlb h h0.1 h0.2]
  rw [W_eq (n := ful n sx sy * p.d) (by omega) (by omega),W_eq (n := ful n sx sy * q.d) (by omega) (by omega)]
  unfold cmpQ
  show _ ↔ spans _ _ (ful n sx sy * p.d - _) (ful n sx sy * q.d - _)
  have key : alP w sx sy p.pl * (ful n sx sy * q.d - alP w sx sy q.pl) - alP w sx sy q.pl * (ful n sx sy * p.d - alP w sx sy p.pl) = ful n sx sy * (alP w sx sy p.pl * q.d - alP w sx sy q.pl * p.d) := by grind
  generalize alP w sx sy p.pl = a at *
  generalize alP w sx sy q.pl = b at *
  by_cases c1 : sgn (a * q.d - b * p.d) = 0
  ·rw [if_pos c1,within_iff]
   rw [Vk] at c1
   rw [c1] at key
   rw [Zzh (by omega) (by omega) (by omega)]
   omega
  ·rw [if_neg c1]
   by_cases c2 : sgn (a * q.d - b * p.d) < 0
   ·rw [if_pos c2,Bool.and_eq_true,decide_eq_true_eq,decide_eq_true_eq]
    rw [Uj,<-Zf7 f1] at c2
    rw [Zrq (by omega) (by omega) (by omega)]
    omega
   ·rw [if_neg c2,Bool.and_eq_true,decide_eq_true_eq,decide_eq_true_eq]
    have c3 : 0 < a * q.d - b * p.d := by
     rw [<-Ui]; omega
    rw [<-Zdr f1] at c3
    rw [Zl9 (by omega) (by omega) (by omega)]
    omega
 ·rw [if_neg h0,Zhq]
  by_cases h1 : 0 <= sgn (bsP w sx sy p.pl) * sgn (bsP w sx sy q.pl)
  ·rw [if_pos h1]
   exact ⟨fun h => by simp at h,fun h => absurd h (Zla h0 h1)⟩
  ·rw [if_neg h1]
   have h2 := sgn_mul_neg.1 (show sgn (bsP w sx sy p.pl) * sgn (bsP w sx sy q.pl) < 0 by omega)
   generalize hf : bsP w sx sy p.pl = f at *
   generalize hg : bsP w sx sy q.pl = g at *
   have m1 := Zu (a := alP w sx sy p.pl) (b := g) (A := 2000000000) (B := 2000000000) (by omega) (by omega)
   have m2 := Zu (a := alP w sx sy q.pl) (b := f) (A := 2000000000) (B := 2000000000) (by omega) (by omega)
   have m3 := Zu (a := g) (b := p.d) (A := 2000000000) (B := 100000) (by omega) (by omega)
   have m4 := Zu (a := f) (b := q.d) (A := 2000000000) (B := 100000) (by omega) (by omega)
   rw [W_eq (n := alP w sx sy p.pl * g) (by omega) (by omega),W_eq (n := alP w sx sy q.pl * f) (by omega) (by omega),W_eq (n := g * p.d) (by omega) (by omega),W_eq (n := f * q.d) (by omega) (by omega)]
   rw [W_eq (n := alP w sx sy p.pl * g - alP w sx sy q.pl * f) (by omega) (by omega),W_eq (n := g * p.d - f * q.d) (by omega) (by omega)]
   rcases h2 with h2 | h2
   ·have k1 := (Zdr dp).2 h2.2
    have k2 := (Zf7 dq).2 h2.1
    rw [if_neg (by rw [Int.mul_comm g,Int.mul_comm f]; omega),Zco hf hg h2,Bool.and_eq_true,decide_eq_true_eq,decide_eq_true_eq]
    unfold cmpQ
    rw [Zvn,Int.mul_one,Int.mul_comm (alP w sx sy p.pl),Int.mul_comm (alP w sx sy q.pl)]
    show _ ↔ _ /\ _ <= ful n sx sy * (g * p.d - f * q.d)
    omega
   ·have k1 := (Zf7 dp).2 h2.2
    have k2 := (Zdr dq).2 h2.1
    rw [if_pos (by rw [Int.mul_comm g,Int.mul_comm f]; omega),meetW_swap,Zco hg hf (by omega),Bool.and_eq_true,decide_eq_true_eq,decide_eq_true_eq]
    rw [W_eq (n := 0 - (alP w sx sy p.pl * g - alP w sx sy q.pl * f)) (by omega) (by omega),W_eq (n := 0 - (g * p.d - f * q.d)) (by omega) (by omega)]
    unfold cmpQ
    rw [Zvn,Int.mul_one,Int.mul_comm (alP w sx sy p.pl),Int.mul_comm (alP w sx sy q.pl),Int.zero_sub (g * p.d - f * q.d),Int.neg_sub]
    show _ ↔ _ /\ _ <= ful n sx sy * (f * q.d - g * p.d)
    omega
def Zps (p q : Pt) : Int := IntKind.i64.wrap (IntKind.i64.wrap (q.x * p.d) - IntKind.i64.wrap (p.x * q.d))
def Zpr (p q : Pt) : Int := IntKind.i64.wrap (IntKind.i64.wrap (q.y * p.d) - IntKind.i64.wrap (p.y * q.d))
def cmpP (a b c d : Int) : Int := sgn (a * b - c * d)
def Zgz (p q : Pt) (x y : Int) : Int := cmpP (Zps p q) (IntKind.i64.wrap (IntKind.i64.wrap (y * p.d) - p.y)) (Zpr p q) (IntKind.i64.wrap (IntKind.i64.wrap (x * p.d) - p.x))
def ovl (fr den to oth a b : Int) : Bool := decide (imin (IntKind.i64.wrap (fr * oth)) (IntKind.i64.wrap (to * den)) < IntKind.i64.wrap (IntKind.i64.wrap (imax a b * den) * oth)) && decide (IntKind.i64.wrap (IntKind.i64.wrap (imin a b * den) * oth) < imax (IntKind.i64.wrap (fr * oth)) (IntKind.i64.wrap (to * den)))
def touP (p q : Pt) (w : Wl) : Bool :=
 if Zps p q = 0 /\ Zpr p q = 0 then w.has p.x p.y p.d
 else if w.side p.x p.y p.d = 0 /\ w.side q.x q.y q.d = 0 then (if w.fx = w.tx then ovl p.y p.d q.y q.d w.fy w.ty else ovl p.x p.d q.x q.d w.fx w.tx)
 else if 0 <= IntKind.i64.wrap (w.side p.x p.y p.d * w.side q.x q.y q.d) then false
 else decide (IntKind.i64.wrap (Zgz p q w.fx w.fy * Zgz p q w.tx w.ty) <= 0)
theorem Ybj {p q : Pt} (hp : PtR p) (hq : PtR q) : Zps p q = q.x * p.d - p.x * q.d /\ Zpr p q = q.y * p.d - p.y * q.d := by
 obtain ⟨a1,a2,a3,a4⟩ := hp
 obtain ⟨b1,b2,b3,b4⟩ := hq
 have m1 := Zu (a := q.x) (b := p.d) (A := 500000000) (B := 100000) (by omega) (by omega)
 have m2 := Zu (a := p.x) (b := q.d) (A := 500000000) (B := 100000) (by omega) (by omega)
 have m3 := Zu (a := q.y) (b := p.d) (A := 500000000) (B := 100000) (by omega) (by omega)
 have m4 := Zu (a := p.y) (b := q.d) (A := 500000000) (B := 100000) (by omega) (by omega)
 unfold Zps Zpr
 rw [W_eq (n := q.x * p.d) (by omega) (by omega),W_eq (n := p.x * q.d) (by omega) (by omega),W_eq (n := q.y * p.d) (by omega) (by omega),W_eq (n := p.y * q.d) (by omega) (by omega)]
 exact ⟨W_eq (by omega) (by omega),W_eq (by omega) (by omega)⟩
theorem Zkw {p q : Pt} (hp : PtR p) (hq : PtR q) {x y : Int} (hx : -5000 <= x /\ x <= 5000) (hy : -5000 <= y /\ y <= 5000) : Zgz p q x y = sgn ((q.x * p.d - p.x * q.d) * (y * p.d - p.y) - (q.y * p.d - p.y * q.d) * (x * p.d - p.x)) := by
 obtain ⟨e1,e2⟩ := Ybj hp hq
 obtain ⟨a1,a2,a3,a4⟩ := hp
 have c1 := Zh hx a1
 have c2 := Zh hy a1
 unfold Zgz cmpP
 rw [e1,e2,W_eq (n := y * p.d) (by omega) (by omega),W_eq (n := x * p.d) (by omega) (by omega),W_eq (n := y * p.d - p.y) (by omega) (by omega),W_eq (n := x * p.d - p.x) (by omega) (by omega)]
theorem Zv6 {x d x' d' fx n e s : Int} (he : e = 1 \/ e = -1) (hn : 0 < n /\ n <= 10000) (hs : 0 < s) (hd : 0 < d /\ d <= 100000) (hd' : 0 < d' /\ d' <= 100000) (hx : -(5000 * d) <= x /\ x <= 5000 * d) (hx' : -(5000 * d') <= x' /\ x' <= 5000 * d') (hf : -5000 <= fx /\ fx <= 5000) (ht : -5000 <= fx + n * e /\ fx + n * e <= 5000) (hne : x' * d - x * d' ≠ 0) :
  ovl x d x' d' fx (fx + n * e) = true ↔ spans (s * (e * (x - fx * d))) (s * (e * (x' - fx * d'))) (n * s * d - s * (e * (x - fx * d))) (n * s * d' - s * (e * (x' - fx * d'))) := by
 have m1 := Zu (a := x) (b := d') (A := 500000000) (B := 100000) (by omega) (by omega)
 have m2 := Zu (a := x') (b := d) (A := 500000000) (B := 100000) (by omega) (by omega)
 have c1 := Zh hf hd.1
 have c2 := Zh ht hd.1
 have m3 := Zu (a := fx * d) (b := d') (A := 500000000) (B := 100000) (by omega) (by omega)
 have m4 := Zu (a := (fx + n * e) * d) (b := d') (A := 500000000) (B := 100000) (by omega) (by omega)
 unfold ovl
 rw [Zd0,Zd0,Zd1,Zd1,Zbp hd.1,Zbq hd.1]
 rw [W_eq (n := x * d') (by omega) (by omega),W_eq (n := x' * d) (by omega) (by omega),W_eq (n := min (fx * d) ((fx + n * e) * d)) (by omega) (by omega),W_eq (n := max (fx * d) ((fx + n * e) * d)) (by omega) (by omega)]
 rw [Zbp hd'.1,Zbq hd'.1,W_eq (n := min (fx * d * d') ((fx + n * e) * d * d')) (by omega) (by omega),W_eq (n := max (fx * d * d') ((fx + n * e) * d * d')) (by omega) (by omega)]
 rw [Bool.and_eq_true,decide_eq_true_eq,decide_eq_true_eq]
 have eT : (fx + n * e) * d * d' = fx * d * d' + e * (n * d * d') := by grind
 rw [eT]
 have hT : 0 < n * d * d' := Int.mul_pos (Int.mul_pos hn.1 hd.1) hd'.1
 have hsn : 0 < s * n := Int.mul_pos hs hn.1
 have g1 : 0 < s * (e * (x - fx * d)) + (n * s * d - s * (e * (x - fx * d))) := by
  have : s * (e * (x - fx * d)) + (n * s * d - s * (e * (x - fx * d))) = s * n * d := by grind
  rw [this]; exact Int.mul_pos hsn hd.1
 have g2 : 0 < s * (e * (x' - fx * d')) + (n * s * d' - s * (e * (x' - fx * d'))) := by
  have : s * (e * (x' - fx * d')) + (n * s * d' - s * (e * (x' - fx * d'))) = s * n * d' := by grind
  rw [this]; exact Int.mul_pos hsn hd'.1
 have key : s * (e * (x - fx * d)) * (n * s * d' - s * (e * (x' - fx * d'))) - s * (e * (x' - fx * d')) * (n * s * d - s * (e * (x - fx * d))) = s * (s * n) * (e * (x * d' - x' * d)) := by grind
 have hss : 0 < s * (s * n) := Int.mul_pos hs hsn
 have p1 : ∀ v : Int,0 < v ↔ 0 < v * d' := fun v => by rw [Int.mul_comm]; exact (Zdr hd'.1).symm
 have p2 : ∀ v : Int,0 < v ↔ 0 < v * d := fun v => by rw [Int.mul_comm]; exact (Zdr hd.1).symm
 have q1 : n * s * d - s * (e * (x - fx * d)) = s * (n * d - e * (x - fx * d)) := by grind
 have q2 : n * s * d' - s * (e * (x' - fx * d')) = s * (n * d' - e * (x' - fx * d')) := by grind
 have r1 : (e * (x - fx * d)) * d' = e * (x * d' - fx * d * d') := by grind
 have r2 : (e * (x' - fx * d')) * d = e * (x' * d - fx * d * d') := by grind
 have r3 : (n * d - e * (x - fx * d)) * d' = n * d * d' - e * (x * d' - fx * d * d') := by grind
 have r4 : (n * d' - e * (x' - fx * d')) * d = n * d * d' - e * (x' * d - fx * d * d') := by grind
 by_cases hc : 0 < e * (x * d' - x' * d)
 ·have := (Zdr hss).2 hc
  rw [Zl9 g1 g2 (by omega),Zdr hs,q2,Zdr hs,p1,p2 (n * d' - _),r1,r4]
  clear key g1 g2 q1 q2 r1 r2 r3 r4 eT
  generalize x * d' = U at *
  generalize x' * d = V at *
  generalize fx * d * d' = B at *
  generalize n * d * d' = T at *
  rcases he with rfl | rfl <;> omega
 ·have hc2 : e * (x * d' - x' * d) < 0 := by rcases he with rfl | rfl <;> omega
  have := (Zf7 hss).2 hc2
  rw [Zrq g1 g2 (by omega),Zdr hs,q1,Zdr hs,p2,p1 (n * d - _),r2,r3]
  clear key g1 g2 q1 q2 r1 r2 r3 r4 eT
  generalize x * d' = U at *
  generalize x' * d = V at *
  generalize fx * d * d' = B at *
  generalize n * d * d' = T at *
  rcases he with rfl | rfl <;> omega
theorem Zec {w : Wl} {n sx sy : Int} (h : Str w n sx sy) {p q : Pt} (hp : PtR p) (hq : PtR q) : touP p q w = true ↔ Uc w n sx sy p.pl q.pl := by
 obtain ⟨e1,e2⟩ := Ybj hp hq
 have s1 : w.side p.x p.y p.d = sgn (bsP w sx sy p.pl) := Xm h hp.ok
 have s2 : w.side q.x q.y q.d = sgn (bsP w sx sy q.pl) := Xm h hq.ok
 have t1 := Zkw hp hq h.b1 h.b2
 have t2 := Zkw hp hq h.b3 h.b4
 have dp := hp.d0
 have dq := hq.d0
 have hn := h.hn
 have hxy := h.hxy
 obtain ⟨f1,f2⟩ := Yco h
 have D1 : bsP w sx sy q.pl * p.d - bsP w sx sy p.pl * q.d = sx * (q.y * p.d - p.y * q.d) - sy * (q.x * p.d - p.x * q.d) := by unfold bsP bes Pt.pl; dsimp only; grind
 have D2 : alP w sx sy q.pl * p.d - alP w sx sy p.pl * q.d = sx * (q.x * p.d - p.x * q.d) + sy * (q.y * p.d - p.y * q.d) := by unfold alP alo Pt.pl; dsimp only; grind
 unfold touP
 rw [e1,e2]
 by_cases h0 : q.x * p.d - p.x * q.d = 0 /\ q.y * p.d - p.y * q.d = 0
 ·rw [if_pos h0,Zai h hp.ok]
  rw [h0.1,h0.2] at D1 D2
  unfold onW Uc
  show bsP w sx sy p.pl = 0 /\ 0 <= alP w sx sy p.pl /\ alP w sx sy p.pl <= ful n sx sy * p.d ↔ _
  show _ ↔ ∃ l m : Int,0 < l /\ 0 < m /\ _ /\ _ /\ _ <= ful n sx sy * (l * p.d + m * q.d)
  generalize bsP w sx sy p.pl = f at *
  generalize bsP w sx sy q.pl = g at *
  generalize alP w sx sy p.pl = a at *
  generalize alP w sx sy q.pl = b at *
  generalize ful n sx sy = F at *
  have D1 : g * p.d = f * q.d := by omega
  have D2 : b * p.d = a * q.d := by omega
  constructor
  ·rintro ⟨h1,h2,h3⟩
   refine ⟨1,1,by omega,by omega,?_,?_,?_⟩
   ·rw [h1] at D1
    have : g * p.d = 0 := by omega
    rcases Int.mul_eq_zero.1 this with k | k <;> omega
   ·have : 0 <= p.d * b := by rw [Int.mul_comm,D2]; exact Int.mul_nonneg h2 (by omega)
    have := (nn_l dp).1 this
    omega
   ·have : p.d * (F * q.d - b) = q.d * (F * p.d - a) := by grind
    have k := Int.mul_nonneg (show 0 <= q.d by omega) (show 0 <= F * p.d - a by omega)
    rw [<-this] at k
    have k := (nn_l dp).1 k
    have : F * (1 * p.d + 1 * q.d) = F * p.d + F * q.d := by grind
    omega
  ·rintro ⟨l,m,hl,hm,k1,k2,k3⟩
   have hz : 0 < l * p.d + m * q.d := by have := Int.mul_pos hl dp; have := Int.mul_pos hm dq; omega
   refine ⟨?_,?_,?_⟩
   ·have : (l * p.d + m * q.d) * f = p.d * (l * f + m * g) := by grind
    rw [k1,Int.mul_zero] at this
    rcases Int.mul_eq_zero.1 this with k | k <;> omega
   ·have : (l * p.d + m * q.d) * a = p.d * (l * a + m * b) := by grind
    have k := Int.mul_nonneg (show 0 <= p.d by omega) k2
    rw [<-this] at k
    exact (nn_l hz).1 k
   ·have : (l * p.d + m * q.d) * (F * p.d - a) = p.d * (F * (l * p.d + m * q.d) - (l * a + m * b)) := by grind
    have k := Int.mul_nonneg (show 0 <= p.d by omega) (show 0 <= F * (l * p.d + m * q.d) - (l * a + m * b) by omega)
    rw [<-this] at k
    have := (nn_l hz).1 k
    omega
 ·rw [if_neg h0,s1,s2]
  by_cases h1 : bsP w sx sy p.pl = 0 /\ bsP w sx sy q.pl = 0
  ·rw [if_pos (by rw [Vk,Vk]; exact h1),Zlb h h1.1 h1.2]
   rw [h1.1,h1.2] at D1
   have hnn := h.nle
   show _ ↔ spans _ _ (ful n sx sy * p.d - _) (ful n sx sy * q.d - _)
   obtain ⟨z1,z2⟩ := h1
   have b1 := h.b1
   have b2 := h.b2
   have b3 := h.b3
   have b4 := h.b4
   have etx := h.tx
   have ety := h.ty
   rw [etx] at b3
   rw [ety] at b4
   by_cases hs : sx = 0
   ·subst hs
    rw [if_pos (by rw [etx]; omega)]
    have hy : sy = 1 \/ sy = -1 := by have := h.hy; omega
    have k := Zv6 (s := 1) (e := sy) (x := p.y) (d := p.d) (x' := q.y) (d' := q.d) hy ⟨hn,hnn⟩ (by omega) ⟨dp,hp.d1⟩ ⟨dq,hq.d1⟩ hp.y hq.y b2 b4 (by
     rcases hy with rfl | rfl <;> omega)
    rw [<-ety] at k
    rw [k]
    have v1 : alP w 0 sy p.pl = 1 * (sy * (p.y - w.fy * p.d)) := by unfold alP alo Pt.pl; dsimp only; grind
    have v2 : alP w 0 sy q.pl = 1 * (sy * (q.y - w.fy * q.d)) := by unfold alP alo Pt.pl; dsimp only; grind
    have v3 : ful n 0 sy = n * 1 := by unfold ful; rcases hy with rfl | rfl <;> rfl
    rw [v1,v2,v3]
   ·have hx : sx = 1 \/ sx = -1 := by have := h.hx; omega
    rw [if_neg (by rw [etx]; rcases hx with rfl | rfl <;> omega)]
    have hsx : sx * sx = 1 := by rcases hx with rfl | rfl <;> rfl
    have hS : 0 < 1 + sy * sy := by rcases h.hy with rfl | rfl | rfl <;> decide
    have k := Zv6 (s := 1 + sy * sy) (e := sx) (x := p.x) (d := p.d) (x' := q.x) (d' := q.d) hx ⟨hn,hnn⟩ hS ⟨dp,hp.d1⟩ ⟨dq,hq.d1⟩ hp.x hq.x b1 b3 (by
     intro hz
     refine h0 ⟨hz,?_⟩
     rw [hz] at D1
     rcases hx with rfl | rfl <;> omega)
    rw [<-etx] at k
    rw [k]
    have w1 : sx * (p.y - w.fy * p.d) = sy * (p.x - w.fx * p.d) := by unfold bsP bes Pt.pl at z1; dsimp only at z1; omega
    have w2 : sx * (q.y - w.fy * q.d) = sy * (q.x - w.fx * q.d) := by unfold bsP bes Pt.pl at z2; dsimp only at z2; omega
    have v1 : alP w sx sy p.pl = (1 + sy * sy) * (sx * (p.x - w.fx * p.d)) := by
     unfold alP alo Pt.pl; dsimp only
     generalize p.x - w.fx * p.d = u at *
     generalize p.y - w.fy * p.d = v at *
     have : v = sx * (sy * u) := by rw [<-w1,<-Int.mul_assoc,hsx,Int.one_mul]
     rw [this]; grind
    have v2 : alP w sx sy q.pl = (1 + sy * sy) * (sx * (q.x - w.fx * q.d)) := by
     unfold alP alo Pt.pl; dsimp only
     generalize q.x - w.fx * q.d = u at *
     generalize q.y - w.fy * q.d = v at *
     have : v = sx * (sy * u) := by rw [<-w2,<-Int.mul_assoc,hsx,Int.one_mul]
     rw [this]; grind
    have v3 : ful n sx sy = n * (1 + sy * sy) := by unfold ful; rw [hsx]
    rw [v1,v2,v3]
  ·rw [if_neg (by rw [Vk,Vk]; exact h1),Zhq]
   by_cases h2 : 0 <= sgn (bsP w sx sy p.pl) * sgn (bsP w sx sy q.pl)
   ·rw [if_pos h2]
    exact ⟨fun h => by simp at h,fun h => absurd h (Zla h1 h2)⟩
   ·rw [if_neg h2,t1,t2,Zhq,decide_eq_true_eq]
    have h3 := sgn_mul_neg.1 (show sgn (bsP w sx sy p.pl) * sgn (bsP w sx sy q.pl) < 0 by omega)
    have K1 : (q.x * p.d - p.x * q.d) * (w.fy * p.d - p.y) - (q.y * p.d - p.y * q.d) * (w.fx * p.d - p.x) = p.d * ((p.x - w.fx * p.d) * (q.y - w.fy * q.d) - (q.x - w.fx * q.d) * (p.y - w.fy * p.d)) := by grind
    have K2 : (q.x * p.d - p.x * q.d) * (w.ty * p.d - p.y) - (q.y * p.d - p.y * q.d) * (w.tx * p.d - p.x) = p.d * ((p.x - w.fx * p.d) * (q.y - w.fy * q.d) - (q.x - w.fx * q.d) * (p.y - w.fy * p.d) - n * (bsP w sx sy q.pl * p.d - bsP w sx sy p.pl * q.d)) := by
     rw [h.tx,h.ty]; unfold bsP bes Pt.pl; dsimp only; grind
    rw [K1,K2,Zp1 dp,Zp1 dp,Ztp]
    have K3 : bsP w sx sy q.pl * alP w sx sy p.pl - bsP w sx sy p.pl * alP w sx sy q.pl = (sx * sx + sy * sy) * ((p.x - w.fx * p.d) * (q.y - w.fy * q.d) - (q.x - w.fx * q.d) * (p.y - w.fy * p.d)) := by
     unfold bsP bes alP alo Pt.pl; dsimp only; grind
    have hS : 0 < sx * sx + sy * sy := by rcases h.hx with rfl | rfl | rfl <;> rcases h.hy with rfl | rfl | rfl <;> (try (exact absurd ⟨rfl,rfl⟩ hxy)) <;> decide
    generalize (p.x - w.fx * p.d) * (q.y - w.fy * q.d) - (q.x - w.fx * q.d) * (p.y - w.fy * p.d) = K at *
    have e3 : ful n sx sy = (sx * sx + sy * sy) * n := by unfold ful; rw [Int.mul_comm]
    generalize sx * sx + sy * sy = S at *
    generalize hf : bsP w sx sy p.pl = f at *
    generalize hg : bsP w sx sy q.pl = g at *
    rcases h3 with h3 | h3
    ·have k1 := (Zdr dp).2 h3.2
     have k2 := (Zf7 dq).2 h3.1
     have hD : 0 < n * (g * p.d - f * q.d) := (Zdr hn).2 (by rw [Int.mul_comm g,Int.mul_comm f]; omega)
     rw [Zco hf hg h3,K3,e3]
     show _ ↔ _ /\ _ <= S * n * (g * p.d - f * q.d)
     rw [nn_l hS,Int.mul_assoc S n]
     have : S * K <= S * (n * (g * p.d - f * q.d)) ↔ K <= n * (g * p.d - f * q.d) := by rw [Int.mul_comm S,Int.mul_comm S]; exact Zsc hS
     rw [this]
     omega
    ·have k1 := (Zf7 dp).2 h3.2
     have k2 := (Zdr dq).2 h3.1
     have hD : n * (g * p.d - f * q.d) < 0 := (Zf7 hn).2 (by rw [Int.mul_comm g,Int.mul_comm f]; omega)
     have K4 : f * alP w sx sy q.pl - g * alP w sx sy p.pl = S * -K := by rw [Int.mul_neg,<-K3]; omega
     rw [meetW_swap,Zco hg hf (by omega),K4,e3]
     show _ ↔ _ /\ _ <= S * n * (f * q.d - g * p.d)
     have e4 : n * (f * q.d - g * p.d) = -(n * (g * p.d - f * q.d)) := by rw [<-Int.mul_neg,Int.neg_sub]
     rw [nn_l hS,Int.mul_assoc S n,e4]
     have : S * -K <= S * -(n * (g * p.d - f * q.d)) ↔ -K <= -(n * (g * p.d - f * q.d)) := by rw [Int.mul_comm S,Int.mul_comm S]; exact Zsc hS
     rw [this]
     omega
def crV (N M : P2d) (D x y : Int) : Int := (M.x - N.x) * (y * D - N.y) - (M.y - N.y) * (x * D - N.x)
def tch (N M : P2d) (D ax ay bx by' : Int) : Prop := ∃ s t l m : Int,0 <= s /\ 0 <= t /\ 0 < s + t /\ 0 <= l /\ 0 <= m /\ 0 < l + m /\ (l * N.x + m * M.x) * (s + t) = (l + m) * (D * (s * ax + t * bx)) /\ (l * N.y + m * M.y) * (s + t) = (l + m) * (D * (s * ay + t * by'))
theorem Zzc {N M : P2d} {D ax ay bx by' : Int} (h : tch N M D ax ay bx by') : tch N M D bx by' ax ay := by
 obtain ⟨s,t,l,m,h1,h2,h3,h4,h5,h6,h7,h8⟩ := h
 exact ⟨t,s,l,m,h2,h1,by omega,h4,h5,h6,by rw [Int.add_comm t s,Int.add_comm (t * bx)]; exact h7,by rw [Int.add_comm t s,Int.add_comm (t * by')]; exact h8⟩
theorem Zzb {N M : P2d} {D ax ay bx by' : Int} (h : tch N M D ax ay bx by') : tch M N D ax ay bx by' := by
 obtain ⟨s,t,l,m,h1,h2,h3,h4,h5,h6,h7,h8⟩ := h
 exact ⟨s,t,m,l,h1,h2,h3,h5,h4,by omega,by rw [Int.add_comm m l,Int.add_comm (m * M.x)]; exact h7,by rw [Int.add_comm m l,Int.add_comm (m * M.y)]; exact h8⟩
theorem Yfg {N M : P2d} {D ax ay bx by' : Int} (hy : N.y < M.y) {s t : Int} (hs : 0 <= s) (ht : 0 <= t) (hw : 0 < s + t) (h1 : N.y * (s + t) <= D * (s * ay + t * by')) (h2 : D * (s * ay + t * by') <= M.y * (s + t)) (h0 : s * crV N M D ax ay + t * crV N M D bx by' = 0) : tch N M D ax ay bx by' := by
 refine ⟨s,t,M.y * (s + t) - D * (s * ay + t * by'),D * (s * ay + t * by') - N.y * (s + t),hs,ht,hw,by omega,by omega,?_,?_,?_⟩
 ·have : (M.y - N.y) * (s + t) = M.y * (s + t) - N.y * (s + t) := Int.sub_mul _ _ _
  have := Int.mul_pos (show 0 < M.y - N.y by omega) hw
  omega
 ·unfold crV at h0
  grind
 ·grind
theorem Ydg {N M : P2d} {D ax ay bx by' : Int} (hy : N.y < M.y) {s t s' t' : Int} (hs : 0 <= s) (ht : 0 <= t) (hw : 0 < s + t) (hs' : 0 <= s') (ht' : 0 <= t') (hw' : 0 < s' + t') (h1 : N.y * (s + t) <= D * (s * ay + t * by')) (h2 : D * (s * ay + t * by') <= M.y * (s + t))
  (h1' : N.y * (s' + t') <= D * (s' * ay + t' * by')) (h2' : D * (s' * ay + t' * by') <= M.y * (s' + t')) (c1 : s * crV N M D ax ay + t * crV N M D bx by' < 0) (c2 : 0 <= s' * crV N M D ax ay + t' * crV N M D bx by') : tch N M D ax ay bx by' := by
 generalize hA : crV N M D ax ay = A at *
 generalize hB : crV N M D bx by' = B at *
 generalize hp : s * A + t * B = p at *
 generalize hq : s' * A + t' * B = q at *
 have k1 := Int.mul_nonneg c2 hs
 have k2 := Int.mul_nonneg c2 ht
 have k3 := Int.mul_nonneg (show 0 <= -p by omega) hs'
 have k4 := Int.mul_nonneg (show 0 <= -p by omega) ht'
 have k5 := Int.mul_pos (show 0 < -p by omega) hw'
 have k6 := Int.mul_nonneg c2 (Int.le_of_lt hw)
 have e0 : q * s + -p * s' + (q * t + -p * t') = q * (s + t) + -p * (s' + t') := by grind
 have eY : D * ((q * s + -p * s') * ay + (q * t + -p * t') * by') = q * (D * (s * ay + t * by')) + -p * (D * (s' * ay + t' * by')) := by grind
 have i1 := Int.mul_le_mul_of_nonneg_left h1 c2
 have i2 := Int.mul_le_mul_of_nonneg_left h2 c2
 have i3 := Int.mul_le_mul_of_nonneg_left h1' (show 0 <= -p by omega)
 have i4 := Int.mul_le_mul_of_nonneg_left h2' (show 0 <= -p by omega)
 refine Yfg hy (s := q * s + -p * s') (t := q * t + -p * t') (by omega) (by omega) (by omega) ?_ ?_ ?_
 ·rw [e0,eY]
  have : N.y * (q * (s + t) + -p * (s' + t')) = q * (N.y * (s + t)) + -p * (N.y * (s' + t')) := by grind
  omega
 ·rw [e0,eY]
  have : M.y * (q * (s + t) + -p * (s' + t')) = q * (M.y * (s + t)) + -p * (M.y * (s' + t')) := by grind
  omega
 ·rw [hA,hB]
  have : (q * s + -p * s') * A + (q * t + -p * t') * B = q * (s * A + t * B) + -p * (s' * A + t' * B) := by grind
  rw [this,hp,hq]; grind
def detE (p : P2d) (D ax ay bx by' : Int) : Int := (bx - ax) * (p.y - ay * D) - (by' - ay) * (p.x - ax * D)
def upE (p : P2d) (D ax ay bx by' : Int) : Prop := ay * D <= p.y /\ p.y < by' * D /\ 0 < detE p D ax ay bx by'
def rgE (N M : P2d) (D x y : Int) : Prop := N.y < y * D /\ y * D <= M.y /\ crV N M D x y < 0
theorem Zxx {N M : P2d} {D ax ay bx by' : Int} (hD : 0 < D) (hy : N.y <= M.y) (hab : ay <= by') (nt : ¬ tch N M D ax ay bx by') :
  (upE N D ax ay bx by' ↔ upE M D ax ay bx by') ↔ (rgE N M D ax ay ↔ rgE N M D bx by') := by
 have hm : ay * D <= by' * D := Int.mul_le_mul_of_nonneg_right hab (Int.le_of_lt hD)
 by_cases hyy : N.y = M.y
 ·
  have r1 : ∀ x y,¬ rgE N M D x y := by rintro x y ⟨a,b,_⟩; omega
  have key : upE N D ax ay bx by' ↔ upE M D ax ay bx by' := by
   by_cases hl : ay * D <= N.y /\ N.y < by' * D
   ·have dd : detE N D ax ay bx by' - detE M D ax ay bx by' = (by' - ay) * (M.x - N.x) := by unfold detE; rw [hyy]; grind
    have hw : by' * D - ay * D = (by' - ay) * D := by rw [Int.sub_mul]
    have t1 : ∀ s,s = by' * D - N.y -> ∀ t,t = N.y - ay * D -> D * (s * ax + t * bx) = N.x * ((by' - ay) * D) + D * detE N D ax ay bx by' := by
     rintro s rfl t rfl; unfold detE; grind
    have t2 : ∀ s,s = by' * D - N.y -> ∀ t,t = N.y - ay * D -> D * (s * ay + t * by') = N.y * ((by' - ay) * D) := by
     rintro s rfl t rfl; grind
    unfold upE
    rw [<-hyy]
    constructor
    ·rintro ⟨h1,h2,h3⟩
     refine ⟨h1,h2,?_⟩
     by_cases h4 : 0 < detE M D ax ay bx by'
     ·exact h4
     exfalso
     refine nt ⟨by' * D - N.y,N.y - ay * D,-detE M D ax ay bx by',detE N D ax ay bx by',by omega,by omega,by omega,by omega,by omega,by omega,?_,?_⟩
     ·rw [t1 _ rfl _ rfl,show by' * D - N.y + (N.y - ay * D) = (by' - ay) * D by omega]
      generalize detE N D ax ay bx by' = u at *
      generalize detE M D ax ay bx by' = v at *
      grind
     ·rw [t2 _ rfl _ rfl,show by' * D - N.y + (N.y - ay * D) = (by' - ay) * D by omega,<-hyy]
      generalize detE N D ax ay bx by' = u at *
      generalize detE M D ax ay bx by' = v at *
      grind
    ·rintro ⟨h1,h2,h3⟩
     refine ⟨h1,h2,?_⟩
     by_cases h4 : 0 < detE N D ax ay bx by'
     ·exact h4
     exfalso
     refine nt ⟨by' * D - N.y,N.y - ay * D,detE M D ax ay bx by',-detE N D ax ay bx by',by omega,by omega,by omega,by omega,by omega,by omega,?_,?_⟩
     ·rw [t1 _ rfl _ rfl,show by' * D - N.y + (N.y - ay * D) = (by' - ay) * D by omega]
      generalize detE N D ax ay bx by' = u at *
      generalize detE M D ax ay bx by' = v at *
      grind
     ·rw [t2 _ rfl _ rfl,show by' * D - N.y + (N.y - ay * D) = (by' - ay) * D by omega,<-hyy]
      generalize detE N D ax ay bx by' = u at *
      generalize detE M D ax ay bx by' = v at *
      grind
   ·unfold upE
    rw [<-hyy]
    constructor <;> (rintro ⟨h1,h2,h3⟩; exact absurd ⟨h1,h2⟩ hl)
  exact ⟨fun _ => ⟨fun h => absurd h (r1 _ _),fun h => absurd h (r1 _ _)⟩,fun _ => key⟩
 have hy : N.y < M.y := by omega
 have lvl : ∀ p : P2d,ay * D <= p.y -> p.y < by' * D -> 0 <= by' * D - p.y /\ 0 <= p.y - ay * D /\ 0 < (by' * D - p.y) + (p.y - ay * D) /\ D * ((by' * D - p.y) * ay + (p.y - ay * D) * by') = p.y * ((by' * D - p.y) + (p.y - ay * D)) := by
  intro p h1 h2
  refine ⟨by omega,by omega,by omega,by grind⟩
 have crN : (by' * D - N.y) * crV N M D ax ay + (N.y - ay * D) * crV N M D bx by' = -((M.y - N.y) * D * detE N D ax ay bx by') := by unfold crV detE; grind
 have crM : (by' * D - M.y) * crV N M D ax ay + (M.y - ay * D) * crV N M D bx by' = -((M.y - N.y) * D * detE M D ax ay bx by') := by unfold crV detE; grind
 have hp : 0 < (M.y - N.y) * D := Int.mul_pos (by omega) hD
 have sN : ∀ v,-((M.y - N.y) * D * v) < 0 ↔ 0 < v := fun v => by have := Zdr (a := v) hp; omega
 have sN2 : ∀ v,0 <= -((M.y - N.y) * D * v) ↔ v <= 0 := fun v => by have := np_l (a := v) hp; omega
 have one : D * (1 * ay + 0 * by') = ay * D /\ D * (0 * ay + 1 * by') = by' * D := by constructor <;> grind
 have cA : 1 * crV N M D ax ay + 0 * crV N M D bx by' = crV N M D ax ay := by omega
 have cB : 0 * crV N M D ax ay + 1 * crV N M D bx by' = crV N M D bx by' := by omega
 have two := fun {s t s' t' : Int} => @Ydg N M D ax ay bx by' hy s t s' t'
 by_cases a0 : ay * D <= N.y
 ·by_cases b0 : by' * D <= N.y
  ·unfold upE rgE; constructor <;> intro _ <;> constructor <;> (rintro ⟨h1,h2,h3⟩; omega)
  obtain ⟨l1,l2,l3,l4⟩ := lvl N a0 (by omega)
  by_cases b1 : by' * D <= M.y
  ·
   have key : 0 < detE N D ax ay bx by' ↔ crV N M D bx by' < 0 := by
    constructor
    ·intro h
     by_cases hc : crV N M D bx by' < 0
     ·exact hc
     exact absurd (two (s' := 0) (t' := 1) l1 l2 l3 (by omega) (by omega) (by omega) (by rw [l4]; omega) (by rw [l4]; exact Int.mul_le_mul_of_nonneg_right (Int.le_of_lt hy) (Int.le_of_lt l3)) (by rw [one.2]; omega) (by rw [one.2]; omega) (by rw [crN]; exact (sN _).2 h) (by rw [cB]; omega)) nt
    ·intro h
     by_cases hc : 0 < detE N D ax ay bx by'
     ·exact hc
     exact absurd (two (s := 0) (t := 1) (by omega) (by omega) (by omega) l1 l2 l3 (by rw [one.2]; omega) (by rw [one.2]; omega) (by rw [l4]; omega) (by rw [l4]; exact Int.mul_le_mul_of_nonneg_right (Int.le_of_lt hy) (Int.le_of_lt l3)) (by rw [cB]; exact h) (by rw [crN]; exact (sN2 _).2 (by omega))) nt
   unfold upE rgE
   rw [<-key]
   generalize detE N D ax ay bx by' = u at *
   constructor
   ·intro h
    constructor
    ·rintro ⟨h1,_,_⟩; omega
    ·rintro ⟨_,_,h3⟩
     have := h.1 ⟨a0,by omega,h3⟩
     omega
   ·intro h
    constructor
    ·rintro ⟨_,_,h3⟩
     have := h.2 ⟨by omega,b1,h3⟩
     omega
    ·rintro ⟨_,h2,_⟩; omega
  ·
   obtain ⟨m1,m2,m3,m4⟩ := lvl M (by omega) (by omega)
   have key : 0 < detE N D ax ay bx by' ↔ 0 < detE M D ax ay bx by' := by
    constructor
    ·intro h
     by_cases hc : 0 < detE M D ax ay bx by'
     ·exact hc
     exact absurd (two l1 l2 l3 m1 m2 m3 (by rw [l4]; omega) (by rw [l4]; exact Int.mul_le_mul_of_nonneg_right (Int.le_of_lt hy) (Int.le_of_lt l3)) (by rw [m4]; exact Int.mul_le_mul_of_nonneg_right (Int.le_of_lt hy) (Int.le_of_lt m3)) (by rw [m4]; omega) (by rw [crN]; exact (sN _).2 h) (by rw [crM]; exact (sN2 _).2 (by omega))) nt
    ·intro h
     by_cases hc : 0 < detE N D ax ay bx by'
     ·exact hc
     exact absurd (two m1 m2 m3 l1 l2 l3 (by rw [m4]; exact Int.mul_le_mul_of_nonneg_right (Int.le_of_lt hy) (Int.le_of_lt m3)) (by rw [m4]; omega) (by rw [l4]; omega) (by rw [l4]; exact Int.mul_le_mul_of_nonneg_right (Int.le_of_lt hy) (Int.le_of_lt l3)) (by rw [crM]; exact (sN _).2 h) (by rw [crN]; exact (sN2 _).2 (by omega))) nt
   unfold upE rgE
   rw [key]
   constructor
   ·intro _; constructor <;> (rintro ⟨h1,h2,h3⟩; omega)
   ·intro _
    constructor
    ·rintro ⟨_,_,h3⟩; exact ⟨by omega,by omega,h3⟩
    ·rintro ⟨_,_,h3⟩; exact ⟨by omega,by omega,h3⟩
 by_cases a1 : ay * D <= M.y
 ·by_cases b1 : by' * D <= M.y
  ·
   have key : crV N M D ax ay < 0 ↔ crV N M D bx by' < 0 := by
    constructor
    ·intro h
     by_cases hc : crV N M D bx by' < 0
     ·exact hc
     exact absurd (two (s := 1) (t := 0) (s' := 0) (t' := 1) (by omega) (by omega) (by omega) (by omega) (by omega) (by omega) (by rw [one.1]; omega) (by rw [one.1]; omega) (by rw [one.2]; omega) (by rw [one.2]; omega) (by rw [cA]; exact h) (by rw [cB]; omega)) nt
    ·intro h
     by_cases hc : crV N M D ax ay < 0
     ·exact hc
     exact absurd (two (s := 0) (t := 1) (s' := 1) (t' := 0) (by omega) (by omega) (by omega) (by omega) (by omega) (by omega) (by rw [one.2]; omega) (by rw [one.2]; omega) (by rw [one.1]; omega) (by rw [one.1]; omega) (by rw [cB]; exact h) (by rw [cA]; omega)) nt
   unfold upE rgE
   rw [key]
   constructor
   ·intro _
    constructor
    ·rintro ⟨_,_,h3⟩; exact ⟨by omega,by omega,h3⟩
    ·rintro ⟨_,_,h3⟩; exact ⟨by omega,by omega,h3⟩
   ·intro _; constructor <;> (rintro ⟨h1,h2,h3⟩; omega)
  ·
   obtain ⟨m1,m2,m3,m4⟩ := lvl M a1 (by omega)
   have key : 0 < detE M D ax ay bx by' ↔ crV N M D ax ay < 0 := by
    constructor
    ·intro h
     by_cases hc : crV N M D ax ay < 0
     ·exact hc
     exact absurd (two (s' := 1) (t' := 0) m1 m2 m3 (by omega) (by omega) (by omega) (by rw [m4]; exact Int.mul_le_mul_of_nonneg_right (Int.le_of_lt hy) (Int.le_of_lt m3)) (by rw [m4]; omega) (by rw [one.1]; omega) (by rw [one.1]; omega) (by rw [crM]; exact (sN _).2 h) (by rw [cA]; omega)) nt
    ·intro h
     by_cases hc : 0 < detE M D ax ay bx by'
     ·exact hc
     exact absurd (two (s := 1) (t := 0) (by omega) (by omega) (by omega) m1 m2 m3 (by rw [one.1]; omega) (by rw [one.1]; omega) (by rw [m4]; exact Int.mul_le_mul_of_nonneg_right (Int.le_of_lt hy) (Int.le_of_lt m3)) (by rw [m4]; omega) (by rw [cA]; exact h) (by rw [crM]; exact (sN2 _).2 (by omega))) nt
   unfold upE rgE
   rw [<-key]
   generalize detE M D ax ay bx by' = u at *
   constructor
   ·intro h
    constructor
    ·rintro ⟨_,_,h3⟩
     have := h.2 ⟨a1,by omega,h3⟩
     omega
    ·rintro ⟨_,h2,_⟩; omega
   ·intro h
    constructor
    ·rintro ⟨h1,_,_⟩; omega
    ·rintro ⟨_,_,h3⟩
     have := h.1 ⟨by omega,a1,h3⟩
     omega
 ·unfold upE rgE; constructor <;> intro _ <;> constructor <;> (rintro ⟨h1,h2,h3⟩; omega)
instance (p : P2d) (D ax ay bx by' : Int) : Decidable (upE p D ax ay bx by') := by unfold upE; exact inferInstance
instance (N M : P2d) (D x y : Int) : Decidable (rgE N M D x y) := by unfold rgE; exact inferInstance
def flZ (p : P2d) (w : Wl) : Bool := if w.fy <= w.ty then decide (upE p p.d w.fx w.fy w.tx w.ty) else decide (upE p p.d w.tx w.ty w.fx w.fy)
theorem Ye3 {w : Wl} {n sx sy : Int} (h : Str w n sx sy) (p : P2d) : detE p p.d w.fx w.fy w.tx w.ty = n * bsP w sx sy p /\ detE p p.d w.tx w.ty w.fx w.fy = -(n * bsP w sx sy p) := by
 unfold detE bsP bes
 rw [h.tx,h.ty]
 constructor <;> grind
theorem Yer {w : Wl} {n sx sy x y d : Int} (h : Str w n sx sy) (hp : PtOk x y d) : flips x y d w = flZ ⟨x,y,d⟩ w := by
 have a2 := Zh h.b2 hp.hd
 have a4 := Zh h.b4 hp.hd
 have hD := hp.hD
 have hd := hp.hd
 obtain ⟨e1,e2⟩ := Ye3 h ⟨x,y,d⟩
 have hn := h.hn
 unfold flips flZ
 rw [Xm h hp,W_eq (n := w.fy * d) (by omega) (by omega),W_eq (n := w.ty * d) (by omega) (by omega)]
 change detE ⟨x,y,d⟩ d w.fx w.fy w.tx w.ty = _ at e1
 change detE ⟨x,y,d⟩ d w.tx w.ty w.fx w.fy = _ at e2
 have p1 := Zdr (a := bsP w sx sy ⟨x,y,d⟩) hn
 have p2 := Zf7 (a := bsP w sx sy ⟨x,y,d⟩) hn
 have es : bes w sx sy x y d = bsP w sx sy ⟨x,y,d⟩ := rfl
 rw [es]
 have u1 : upE ⟨x,y,d⟩ d w.fx w.fy w.tx w.ty ↔ w.fy * d <= y /\ y < w.ty * d /\ 0 < n * bsP w sx sy ⟨x,y,d⟩ := by rw [<-e1]; exact Iff.rfl
 have u2 : upE ⟨x,y,d⟩ d w.tx w.ty w.fx w.fy ↔ w.ty * d <= y /\ y < w.fy * d /\ 0 < -(n * bsP w sx sy ⟨x,y,d⟩) := by rw [<-e2]; exact Iff.rfl
 show _ = if w.fy <= w.ty then decide (upE ⟨x,y,d⟩ d w.fx w.fy w.tx w.ty) else decide (upE ⟨x,y,d⟩ d w.tx w.ty w.fx w.fy)
 by_cases hc : w.fy <= w.ty
 ·have hm : w.fy * d <= w.ty * d := Int.mul_le_mul_of_nonneg_right hc (Int.le_of_lt hd)
  rw [if_pos hc,Bool.eq_iff_iff]
  simp only [Bool.or_eq_true,Bool.and_eq_true,decide_eq_true_eq,Ui,Uj,u1]
  generalize bsP w sx sy ⟨x,y,d⟩ = B at *
  omega
 ·have hm : w.ty * d <= w.fy * d := Int.mul_le_mul_of_nonneg_right (by omega) (Int.le_of_lt hd)
  rw [if_neg hc,Bool.eq_iff_iff]
  simp only [Bool.or_eq_true,Bool.and_eq_true,decide_eq_true_eq,Ui,Uj,u2]
  generalize bsP w sx sy ⟨x,y,d⟩ = B at *
  omega
theorem Zxz {N M : P2d} {D : Int} (hN : N.d = D) (hM : M.d = D) (hD : 0 < D) (hy : N.y <= M.y) {w : Wl} (nt : ¬ tch N M D w.fx w.fy w.tx w.ty) : (flZ N w ^^ flZ M w) = (decide (rgE N M D w.fx w.fy) ^^ decide (rgE N M D w.tx w.ty)) := by
 unfold flZ
 rw [hN,hM]
 by_cases hc : w.fy <= w.ty
 ·rw [if_pos hc,if_pos hc]
  exact Zpo (Zxx hD hy hc nt)
 ·rw [if_neg hc,if_neg hc,Bool.xor_comm (decide (rgE N M D w.fx w.fy))]
  exact Zpo (Zxx hD hy (by omega) fun h => nt (Zzc h))
theorem Zy3 {N M : P2d} {D : Int} (hN : N.d = D) (hM : M.d = D) (hD : 0 < D) {cs : List (Int × Int)} (nt : ∀ w ∈ wls cs,¬ tch N M D w.fx w.fy w.tx w.ty) : xorL ((wls cs).map (flZ N)) = xorL ((wls cs).map (flZ M)) := by
 have key : ∀ N M : P2d,N.d = D -> M.d = D -> N.y <= M.y -> (∀ w ∈ wls cs,¬ tch N M D w.fx w.fy w.tx w.ty) -> (xorL ((wls cs).map (flZ N)) ^^ xorL ((wls cs).map (flZ M))) = false := by
  intro N M h1 h2 hy h3
  rw [Zil,<-tele (fun x y => decide (rgE N M D x y)) cs]
  congr 1
  refine List.map_congr_left fun w hw => ?_
  exact Zxz h1 h2 hD hy (h3 w hw)
 have fin : ∀ a b : Bool,(a ^^ b) = false -> a = b := by decide
 rcases Int.le_total N.y M.y with hy | hy
 ·exact fin _ _ (key N M hN hM hy nt)
 ·exact (fin _ _ (key M N hM hN hy fun w hw h => nt w hw (Zzb h))).symm
theorem Zod {x y d : Int} : ∀ (ws : List Wl) (b : Bool),inPl x y d b ws = true -> (b ^^ xorL (ws.map (flips x y d))) = true
 | [],b,h => by simpa [xorL,inPl] using h
 | w :: ws,b,h => by
  rw [inPl] at h
  split at h
  ·cases h
  ·have := Zod ws _ h
   rw [List.map_cons,show xorL (flips x y d w :: ws.map (flips x y d)) = (flips x y d w ^^ xorL (ws.map (flips x y d))) from rfl,<-Bool.xor_assoc]
   exact this
theorem Zkv {α : Type} (f : α -> Bool) : ∀ (l : List α),(∀ a ∈ l,f a = false) -> xorL (l.map f) = false
 | [],_ => rfl
 | a :: l,h => by
  rw [List.map_cons,show xorL (f a :: l.map f) = (f a ^^ xorL (l.map f)) from rfl,h a (by simp),Zkv f l fun b hb => h b (by simp [hb])]
  rfl
theorem Yeu {w : Wl} {p : P2d} (hd : 0 < p.d) (h1 : -5000 <= w.fy /\ w.fy <= 5000) (h2 : -5000 <= w.ty /\ w.ty <= 5000) (hy : p.y < -(5000 * p.d) \/ 5000 * p.d < p.y) : flZ p w = false := by
 have a1 := Int.mul_le_mul_of_nonneg_right h1.1 (Int.le_of_lt hd)
 have a2 := Int.mul_le_mul_of_nonneg_right h1.2 (Int.le_of_lt hd)
 have a3 := Int.mul_le_mul_of_nonneg_right h2.1 (Int.le_of_lt hd)
 have a4 := Int.mul_le_mul_of_nonneg_right h2.2 (Int.le_of_lt hd)
 unfold flZ
 split
 ·rw [decide_eq_false]
  rintro ⟨b1,b2,_⟩
  omega
 ·rw [decide_eq_false]
  rintro ⟨b1,b2,_⟩
  omega
theorem Ydh {N M : P2d} {D ax ay bx by' : Int} (hD : 0 < D) (hM : M.x = N.x) (h1 : -5000 <= ax /\ ax <= 5000) (h2 : -5000 <= bx /\ bx <= 5000) (hx : N.x < -(5000 * D) \/ 5000 * D < N.x) : ¬ tch N M D ax ay bx by' := by
 rintro ⟨s,t,l,m,hs,ht,hst,hl,hm,hlm,e,_⟩
 rw [hM,<-Int.add_mul,Int.mul_assoc] at e
 have e := Int.eq_of_mul_eq_mul_left (by omega) e
 have a1 := Int.mul_le_mul_of_nonneg_left h1.1 hs
 have a2 := Int.mul_le_mul_of_nonneg_left h1.2 hs
 have a3 := Int.mul_le_mul_of_nonneg_left h2.1 ht
 have a4 := Int.mul_le_mul_of_nonneg_left h2.2 ht
 have b1 := Int.mul_le_mul_of_nonneg_left (show s * ax + t * bx <= 5000 * (s + t) by omega) (Int.le_of_lt hD)
 have b2 := Int.mul_le_mul_of_nonneg_left (show -5000 * (s + t) <= s * ax + t * bx by omega) (Int.le_of_lt hD)
 rw [<-e] at b1 b2
 have c1 : D * (5000 * (s + t)) = 5000 * D * (s + t) := by grind
 have c2 : D * (-5000 * (s + t)) = -(5000 * D) * (s + t) := by grind
 rw [c1] at b1
 rw [c2] at b2
 rcases hx with hx | hx
 ·have := Int.mul_lt_mul_of_pos_right hx hst
  omega
 ·have := Int.mul_lt_mul_of_pos_right hx hst
  omega
theorem Zlf {h : Hal} (hs : Zah h.cs) {x y d : Int} (hp : PtOk x y d) (hi : Ye h x y d = true) : (-(5000 * d) <= x /\ x <= 5000 * d) /\ (-(5000 * d) <= y /\ y <= 5000 * d) := by
 have hd := hp.hd
 have h0 : xorL ((wls h.cs).map (flZ ⟨x,y,d⟩)) = true := by
  have := Zod _ _ hi
  rw [Bool.false_xor] at this
  rw [<-this]
  congr 1
  refine List.map_congr_left fun w hw => ?_
  obtain ⟨n,sx,sy,g⟩ := Zab hs w hw
  exact (Yer g hp).symm
 have far : ∀ p : P2d,0 < p.d -> (p.y < -(5000 * p.d) \/ 5000 * p.d < p.y) -> xorL ((wls h.cs).map (flZ p)) = false := fun p hpd hy =>
  Zkv _ _ fun w hw => by
   obtain ⟨n,sx,sy,g⟩ := Zab hs w hw
   exact Yeu hpd g.b2 g.b4 hy
 have hy : ¬ (y < -(5000 * d) \/ 5000 * d < y) := fun hy => by
  rw [far ⟨x,y,d⟩ hd hy] at h0; cases h0
 have hx : ¬ (x < -(5000 * d) \/ 5000 * d < x) := fun hx => by
  rw [Zy3 (N := ⟨x,y,d⟩) (M := ⟨x,5001 * d,d⟩) (D := d) rfl rfl hd (fun w hw => by
   obtain ⟨n,sx,sy,g⟩ := Zab hs w hw
   exact Ydh hd rfl g.b1 g.b3 hx),far ⟨x,5001 * d,d⟩ hd (.inr (by dsimp only; omega))] at h0
  cases h0
 omega
def i64 (n : Int) : Prop := -9223372036854775808 <= n /\ n <= 9223372036854775807
theorem Yby {a : Int} (h : i64 a) : size a = IntKind.i64.wrap (a.natAbs : Int) := by
 unfold size imax
 obtain ⟨h1,h2⟩ := h
 by_cases h3 : a = -9223372036854775808
 ·subst h3; decide
 ·rw [W_eq (n := 0 - a) (by omega) (by omega),W_eq (by omega) (by omega)]
  by_cases h4 : a < 0 - a
  ·rw [decide_eq_true h4]; simp only [cond_true]; omega
  ·rw [decide_eq_false h4]; simp only [cond_false]; omega
theorem Zue (a : Int) : i64 (IntKind.i64.wrap a) := by unfold i64; simp only [IntKind.wrap_i64]; omega
theorem Zr5 {g : Nat} (h : g <= 9223372036854775808) : (IntKind.i64.wrap (g : Int)).natAbs = g := by
 by_cases h3 : g = 9223372036854775808
 ·subst h3; decide
 ·rw [W_eq (by omega) (by omega)]; simp
theorem Zza {a b : Int} (ha : i64 a) (hb : b ≠ 0) : i64 (a.tmod b) := by
 obtain ⟨h1,h2⟩ := ha
 have h3 : (a.tmod b).natAbs <= a.natAbs := by rw [Int.natAbs_tmod]; exact Nat.mod_le _ _
 have h4 : 0 <= a -> 0 <= a.tmod b := fun h => Int.tmod_nonneg b h
 have h5 : a <= 0 -> a.tmod b <= 0 := fun h => by have := Int.tmod_nonneg b (a := -a) (by omega); rw [Int.neg_tmod] at this; omega
 unfold i64
 omega
theorem Yal {a b : Int} : Nat.gcd b.natAbs (a.tmod b).natAbs = Nat.gcd a.natAbs b.natAbs := by
 rw [Int.natAbs_tmod,Nat.gcd_comm,<-Nat.gcd_rec,Nat.gcd_comm]
def g4 (p : Pt) : Nat := Nat.gcd (Nat.gcd p.x.natAbs p.y.natAbs) (Nat.gcd p.z.natAbs p.d.natAbs)
structure Pt.wf (p : Pt) : Prop where
 x : i64 p.x
 y : i64 p.y
 z : i64 p.z
 d : i64 p.d
theorem Ycm {a b : Int} (ha : i64 a) (hb : i64 b) : Nat.gcd a.natAbs b.natAbs <= 9223372036854775808 := by
 obtain ⟨a1,a2⟩ := ha
 obtain ⟨b1,b2⟩ := hb
 by_cases h : a.natAbs = 0
 ·rw [h,Nat.gcd_zero_left]; omega
 ·exact Nat.le_trans (Nat.gcd_le_left _ (by omega)) (by omega)
theorem Ygv {p : Pt} (hp : p.wf) (hd : 0 < p.d) : 0 < g4 p /\ (g4 p : Int) <= p.d := by
 have h1 : g4 p ∣ p.d.natAbs := Nat.dvd_trans (Nat.gcd_dvd_right _ _) (Nat.gcd_dvd_right _ _)
 have h2 := Nat.le_of_dvd (by omega) h1
 have h3 : 0 < g4 p := Nat.pos_of_dvd_of_pos h1 (by omega)
 omega
def ptIn (p : Pt) : Bool := within p.x (-(5000 * p.d)) (5000 * p.d) && within p.y (-(5000 * p.d)) (5000 * p.d) && within p.z (-(5000 * p.d)) (5000 * p.d)
def Yv (p : Pt) : Int := if p.d <= 0 \/ g4 p ≠ 1 then 3 else if 100000 < p.d then 2 else if ptIn p then 0 else 2
theorem Zby {p : Pt} (h : Yv p = 0) : 0 < p.d /\ p.d <= 100000 /\ g4 p = 1 /\ ptIn p = true := by
 unfold Yv at h
 split at h
 ·cases h
 ·rename_i h1
  split at h
  ·cases h
  ·split at h
   ·rename_i h3; exact ⟨by omega,by omega,by omega,h3⟩
   ·cases h
theorem Zlj (a b c d : Nat) : Nat.gcd (Nat.gcd (Nat.gcd a b) c) d = Nat.gcd (Nat.gcd a b) (Nat.gcd c d) := by rw [Nat.gcd_assoc (Nat.gcd a b)]
def gl : Nat -> List Int -> Nat
 | g,[] => g
 | g,n :: l => gl (Nat.gcd g n.natAbs) l
set_option maxRecDepth 100000 in
set_option maxHeartbeats 8000000 in
theorem c117 {ns : List Int} (hl : ns.length < 1000) (hw : ∀ n ∈ ns,i64 n) : PCall Tryz.prog 170 [.isl 1 (nl ns)] ⟨I (IntKind.i64.wrap ((gl 0 ns : Nat) : Int)),[]⟩ := by
 have e3 := Zl ns
 refine bs.pv (sx := nos) Zle Tryz.func170 (by kernel_rfl) (by kernel_rfl) rfl ?_
 repeat' (first | refine wk1 ?_ | (refine wk2 ?_ ?_ <;> intro _) | refine wk4 ?_ | fail); all_goals (conv => whnf)
 refine Yc (S := Nat × Int × Int) (fun t => ns.length - t.1) (fun t => [(3,I t.2.2),(6,.isl 1 (nl ns)),(7,I (nl ns).length),(8,I t.2.1)]) (fun _ => []) 0 0 (fun t => t.2.1 = t.1 /\ t.1 <= ns.length /\ i64 t.2.2 /\ gl t.2.2.natAbs (ns.drop t.1) = gl 0 ns) (0,0,0) ⟨rfl,Nat.zero_le _,(by unfold i64; decide),rfl⟩ (Nat.le_refl _) [] rfl (kps) (kps) ?_
 rintro ⟨k,i,g⟩ ⟨hi,hk,hg,hh⟩
 dsimp only at hi hk hg hh ⊢
 subst hi
 refine bs.av (sx := nos) Zle ?_
 by_cases hlt : k < ns.length
 ·have e1 := Ue hlt
  have hn := hw _ (List.getElem_mem hlt)
  rw [List.drop_eq_getElem_cons hlt,gl] at hh
  repeat' (first | refine wk1 ?_ | (refine wk2 ?_ ?_ <;> intro _) | refine wk4 ?_ | fail); all_goals (conv => whnf)
  refine Yc (S := Int × Int) (fun t => t.2.natAbs) (fun t => [(3,I t.1),(5,I t.2),(6,.isl 1 (nl ns)),(7,I (nl ns).length),(8,I k)]) (fun _ => []) 0 0 (fun t => (i64 t.1 /\ i64 t.2) /\ Nat.gcd t.1.natAbs t.2.natAbs = Nat.gcd g.natAbs ns[k].natAbs) (g,ns[k]) ⟨⟨hg,hn⟩,rfl⟩ (Nat.le_refl _) [] rfl (kps) (kps) ?_
  rintro ⟨a,b⟩ ⟨⟨ha,hb⟩,hG⟩
  dsimp only at ha hb hG ⊢
  refine bs.av (sx := nos) Zle ?_
  by_cases h0 : b = 0
  ·subst h0
   repeat' (first | refine wk1 ?_ | (refine wk2 ?_ ?_ <;> intro _) | refine wk4 ?_ | fail); all_goals (conv => whnf)
   exact Done.mk ⟨(k + 1,_,a),[],rfl,kps,kps,⟨Zk (by omega),hlt,ha,by rw [<-hh,<-hG]; simp⟩,by dsimp only; omega⟩
  ·repeat' (first | refine wk1 ?_ | (refine wk2 ?_ ?_ <;> intro _) | refine wk4 ?_ | fail); all_goals (conv => whnf)
   exact Done.mk ⟨(b,a.tmod b),[],rfl,kps,kps,⟨⟨hb,Zza ha h0⟩,by rw [<-hG]; exact Yal⟩,by
    show (a.tmod b).natAbs < b.natAbs
    rw [Int.natAbs_tmod]; exact Nat.mod_lt _ (by omega)⟩
 rw [List.drop_of_length_le (by omega)] at hh
 repeat' (first | refine wk1 ?_ | (refine wk2 ?_ ?_ <;> intro _) | refine wk4 ?_ | fail); all_goals (conv => whnf)
 exact Za (by show size g = _; rw [Yby hg,<-hh]; rfl)
theorem Yd3 {d : Int} (h0 : 0 < d) (h1 : d <= 100000) : IntKind.i64.wrap (5000 * d) = 5000 * d /\ IntKind.i64.wrap (0 - IntKind.i64.wrap (5000 * d)) = -(5000 * d) := by
 have e : IntKind.i64.wrap (5000 * d) = 5000 * d := W_eq (by omega) (by omega)
 refine ⟨e,?_⟩
 rw [e,W_eq (by omega) (by omega)]; omega
set_option maxRecDepth 100000 in
set_option maxHeartbeats 8000000 in
theorem c99 {p : Pt} (hp : p.wf) : PCall Tryz.prog 164 [p.av] ⟨I (Yv p),[]⟩ := by
 have hc := c117 (ns := [p.x,p.y,p.z,p.d]) (by simp) (by
  intro n hn
  simp only [List.mem_cons,List.not_mem_nil,or_false] at hn
  rcases hn with rfl | rfl | rfl | rfl
  ·exact hp.x
  ·exact hp.y
  ·exact hp.z
  ·exact hp.d)
 have hg : gl 0 [p.x,p.y,p.z,p.d] = g4 p := by
  simp only [gl,Nat.gcd_zero_left]
  exact Zlj _ _ _ _
 rw [hg] at hc
 have hk := Zf hc Uu
 by_cases h1 : p.d <= 0
 ·have e : Yv p = 3 := by unfold Yv; rw [if_pos (.inl h1)]
  rw [e]
  refine bs.pv (sx := nos) hk Tryz.func164 (by kernel_rfl) (by kernel_rfl) rfl ?_
  repeat' (first | refine wk1 ?_ | (refine wk2 ?_ ?_ <;> intro _) | refine wk4 ?_ | fail); all_goals (conv => whnf)
  exact Za rfl
 ·obtain ⟨g1,g2⟩ := Ygv hp (by omega)
  have hd := hp.d
  unfold i64 at hd
  have hw : IntKind.i64.wrap ((g4 p : Nat) : Int) = (g4 p : Nat) := W_eq (by omega) (by omega)
  rw [hw] at hk
  by_cases h2 : g4 p = 1
  ·rw [h2] at hk
   by_cases h3 : 100000 < p.d
   ·have e : Yv p = 2 := by unfold Yv; rw [if_neg (by omega),if_pos h3]
    rw [e]
    refine bs.pv (sx := nos) hk Tryz.func164 (by kernel_rfl) (by kernel_rfl) rfl ?_
    repeat' (first | refine wk1 ?_ | (refine wk2 ?_ ?_ <;> intro _) | refine wk4 ?_ | fail); all_goals (conv => whnf)
    exact Za rfl
   ·obtain ⟨m1,m2⟩ := Yd3 (d := p.d) (by omega) (by omega)
    have e : Yv p = if ptIn p then 0 else 2 := by unfold Yv; rw [if_neg (by omega),if_neg h3]
    have e2 : ∀ x,small x (IntKind.i64.wrap (5000 * p.d)) = within x (-(5000 * p.d)) (5000 * p.d) := fun x => by unfold small; rw [m2,m1]
    rw [e]
    unfold ptIn
    rw [<-e2,<-e2,<-e2]
    refine bs.pv (sx := nos) hk Tryz.func164 (by kernel_rfl) (by kernel_rfl) rfl ?_
    repeat' (first | refine wk1 ?_ | (refine wk2 ?_ ?_ <;> intro _) | refine wk4 ?_ | fail); all_goals (conv => whnf)
    all_goals (clear hk hc m1 m2 e2)
    all_goals exact Za (by simp_all [unl])
  ·have e : Yv p = 3 := by unfold Yv; rw [if_pos (.inr h2)]
   rw [e]
   have h4 : (1 : Int) < (g4 p : Nat) := by omega
   refine bs.pv (sx := nos) hk Tryz.func164 (by kernel_rfl) (by kernel_rfl) rfl ?_
   repeat' (first | refine wk1 ?_ | (refine wk2 ?_ ?_ <;> intro _) | refine wk4 ?_ | fail); all_goals (conv => whnf)
   all_goals clear hk hc
   all_goals first
    | exact Za rfl
    | (exfalso; simp_all; done)
    | (exfalso; simp_all; omega)
noncomputable abbrev gcds : List AV -> Option PRes := famA (fun p : Int × Int => i64 p.1 /\ i64 p.2) (fun p => [I p.1,I p.2]) (fun p => ⟨I (IntKind.i64.wrap ((Nat.gcd p.1.natAbs p.2.natAbs : Nat) : Int)),[]⟩)
theorem Zmt {a b : Int} (ha : i64 a) (hb : i64 b) : gcds [I a,I b] = some ⟨I (IntKind.i64.wrap ((Nat.gcd a.natAbs b.natAbs : Nat) : Int)),[]⟩ :=
 Ya (p := fun p : Int × Int => i64 p.1 /\ i64 p.2) (g := fun p => [I p.1,I p.2]) (r := fun p => ⟨I (IntKind.i64.wrap ((Nat.gcd p.1.natAbs p.2.natAbs : Nat) : Int)),[]⟩) (k := (a,b)) (fun j hj => by
  simp only [List.cons.injEq,AV.int.injEq,true_and,and_true] at hj
  obtain ⟨h1,h2⟩ := hj
  dsimp only
  rw [h1,h2]) ⟨ha,hb⟩
def insE (h : Hal) (p : Pt) : Int := if h.err = 0 then Yv p else h.err
theorem Ydv {p : Pt} (h : Yv p = 0) : PtOk p.x p.y p.d := by
 obtain ⟨h1,h2,_,h4⟩ := Zby h
 unfold ptIn at h4
 simp only [Bool.and_eq_true,within_iff] at h4
 exact ⟨h1,by omega,by omega,by omega⟩
set_option maxRecDepth 100000 in
set_option maxHeartbeats 8000000 in
theorem c50 {h : Hal} (hk : h.ok) {p : Pt} (hp : p.wf) : PCall Tryz.prog 135 [h.av,p.av] ⟨.tup [Bo (decide (insE h p = 0) && Zag h p),I (insE h p)],[]⟩ := by
 have hk0 := Zf (c76 hk) (Zf (c99 hp) Zd)
 by_cases he : h.err = 0
 ·have hi : insE h p = Yv p := by unfold insE; rw [if_pos he]
  rw [hi]
  by_cases hq : Yv p = 0
  ·have hf := Zjt hk he
   have e : Zag h p = Zuf h p.x p.y p.z p.d := by
    unfold Zag Zuf
    rw [Uv hf.st p.z (Ydv hq)]
   have hk1 := Zf (c124 hk.f p.x p.y p.z p.d) hk0
   rw [hq,he] at hk1
   rw [hq,e]
   refine bs.pv (sx := nos) hk1 Tryz.func135 (by kernel_rfl) (by kernel_rfl) rfl ?_
   repeat' (first | refine wk1 ?_ | (refine wk2 ?_ ?_ <;> intro _) | refine wk4 ?_ | fail); all_goals (conv => whnf)
   exact Zg (by simp) rfl
  ·rw [he] at hk0
   rw [decide_eq_false hq]
   refine bs.pv (sx := nos) hk0 Tryz.func135 (by kernel_rfl) (by kernel_rfl) rfl ?_
   repeat' (first | refine wk1 ?_ | (refine wk2 ?_ ?_ <;> intro _) | refine wk4 ?_ | fail); all_goals (conv => whnf)
   exact Zg rfl rfl
 ·have hi : insE h p = h.err := by unfold insE; rw [if_neg he]
  rw [hi,decide_eq_false he]
  refine bs.pv (sx := nos) hk0 Tryz.func135 (by kernel_rfl) (by kernel_rfl) rfl ?_
  repeat' (first | refine wk1 ?_ | (refine wk2 ?_ ?_ <;> intro _) | refine wk4 ?_ | fail); all_goals (conv => whnf)
  exact Zg rfl rfl
set_option maxHeartbeats 4000000 in
theorem c113 (k : Int) (p : Pt) : PCall Tryz.prog 166 [I k,p.av] ⟨I (offN k p.x p.y p.z),[]⟩ := by
 refine bs.pv (sx := nos) Zd Tryz.func166 (by kernel_rfl) (by kernel_rfl) rfl ?_
 repeat' (first | refine wk0 ?_ | (refine wk2 ?_ ?_ <;> intro _) | refine wk4 ?_ | fail); all_goals (conv => whnf)
 all_goals exact Za (by simp_all [offN])
def Zm7 (h : Hal) (w : Wl) (p : Pt) : Bool := !(decide (p.z <= 0) || decide (IntKind.i64.wrap (h.ht * p.d) <= p.z)) && (if w.fx = w.tx then decide (IntKind.i64.wrap (imin w.fy w.ty * p.d) < p.y) && decide (p.y < IntKind.i64.wrap (imax w.fy w.ty * p.d)) else decide (IntKind.i64.wrap (imin w.fx w.tx * p.d) < p.x) && decide (p.x < IntKind.i64.wrap (imax w.fx w.tx * p.d)))
def Zbb (h : Hal) (i : Int) (p : Pt) : Bool := if i < h.ws.length then Zm7 h (wlOf h.cs i.toNat) p else if i < (h.ws.length : Int) + 2 then Ye h p.x p.y p.d else (kat h i).rc.holds p.x p.y p.d
theorem Zgx {h : Hal} {k : Nat} {p : Pt} (hk : k < h.ws.length) : Zbb h k p = Zm7 h (wlOf h.cs k) p := by unfold Zbb; rw [if_pos (by omega)]; rfl
theorem Zfc {h : Hal} {p : Pt} : Zbb h h.ws.length p = Ye h p.x p.y p.d := by unfold Zbb; rw [if_neg (by omega),if_pos (by omega)]
theorem Zgy {h : Hal} {p : Pt} : Zbb h ((h.ws.length : Int) + 1) p = Ye h p.x p.y p.d := by unfold Zbb; rw [if_neg (by omega),if_pos (by omega)]
theorem Zio {h : Hal} {j : Nat} {p : Pt} (hj : j < h.ks.length) : Zbb h ((h.ws.length : Int) + 2 + j) p = h.ks[j].rc.holds p.x p.y p.d := by unfold Zbb; rw [if_neg (by omega),if_neg (by omega),Zse hj]
set_option maxRecDepth 100000 in
set_option maxHeartbeats 16000000 in
theorem c118 {h : Hal} {s : Stg} (g : Sit h s) {i : Int} (hi : SK h i) (p : Pt) : PCall Tryz.prog 171 [.agg (stgL h s),I i,p.av] ⟨Bo (Zbb h i p),[]⟩ := by
 have f3 := g.ok.f.2.2.1
 have f4 := g.ok.f.2.2.2.1
 have hk0 := Zf (c87 g.ok.f s hi) (Zf (c183 g.ok.f p.x p.y p.d) (Ygi g))
 cases hi with
 | wall k hk =>
  have hk2 : k < h.cs.length := by have := g.fine.le; omega
  rw [Zgx hk]
  obtain ⟨v1,v2⟩ := Zm0 (h := h) (i := k) (by omega)
  rw [v1,v2] at hk0
  have hk1 := Zf (Ye9 g.ok.f hk2) hk0
  generalize wlOf h.cs k = w at *
  refine bs.pv (sx := nos) hk1 Tryz.func171 (by kernel_rfl) (by kernel_rfl) rfl ?_
  repeat' (first | refine wk0 ?_ | (refine wk2 ?_ ?_ <;> intro _) | refine wk4 ?_ | fail); all_goals (conv => whnf)
  all_goals clear hk0 hk1
  all_goals first
   | (exfalso; rename_i hx; have hx := of_decide_eq_true (show decide ((k : Int) = (h.ws.length : Int) + 1) = true from hx); omega)
   | (exfalso; rename_i hx; have hx := of_decide_eq_true (show decide ((k : Int) = (h.ws.length : Int)) = true from hx); omega)
   | (refine Zc ?_; simp_all [Zm7]; done)
   | (refine Zc ?_; simp_all [Zm7]; intro _; omega)
   | (exfalso; simp_all; omega)
 | floor =>
  rw [Zfc]
  obtain ⟨v1,v2⟩ := Zm0 (h := h) (i := h.ws.length) (by omega)
  rw [v1,v2] at hk0
  refine bs.pv (sx := nos) hk0 Tryz.func171 (by kernel_rfl) (by kernel_rfl) rfl ?_
  repeat' (first | refine wk1 ?_ | (refine wk2 ?_ ?_ <;> intro _) | refine wk4 ?_ | fail); all_goals (conv => whnf)
  exact Zc rfl
 | ceil =>
  rw [Zgy]
  obtain ⟨v1,v2⟩ := Zm0 (h := h) (i := (h.ws.length : Int) + 1) (by omega)
  rw [v1,v2] at hk0
  refine bs.pv (sx := nos) hk0 Tryz.func171 (by kernel_rfl) (by kernel_rfl) rfl ?_
  repeat' (first | refine wk1 ?_ | (refine wk2 ?_ ?_ <;> intro _) | refine wk4 ?_ | fail); all_goals (conv => whnf)
  ·exact Zc rfl
  all_goals (exfalso; simp_all; done)
 | can j hj =>
  rw [Zio hj]
  obtain ⟨v1,v2⟩ := Ya4 hj
  rw [v1,v2] at hk0
  generalize h.ks[j] = c at *
  have hk1 := Zf (c193 c.rc p.x p.y p.d) hk0
  refine bs.pv (sx := nos) hk1 Tryz.func171 (by kernel_rfl) (by kernel_rfl) rfl ?_
  repeat' (first | refine wk1 ?_ | (refine wk2 ?_ ?_ <;> intro _) | refine wk4 ?_ | fail); all_goals (conv => whnf)
  exact Zc rfl
def Yda (c : Can) (p : Pt) : Bool := Zgd c p && !decide (p.x = IntKind.i64.wrap (c.fx * p.d)) && !decide (p.x = IntKind.i64.wrap (c.tx * p.d)) && !decide (p.y = IntKind.i64.wrap (c.fy * p.d)) && !decide (p.y = IntKind.i64.wrap (c.ty * p.d))
def Zy6 (h : Hal) (l : Ln) (p : Pt) : Bool := within (l.along p) 1 (IntKind.i64.wrap (IntKind.i64.wrap (l.full * p.d) - 1)) && within p.z 1 (IntKind.i64.wrap (IntKind.i64.wrap (h.ht * p.d) - 1))
def Zh6 (h : Hal) (i : Int) (p : Pt) : Bool := if i < h.ws.length then Zy6 h (lnOf h.cs i.toNat) p else if i < (h.ws.length : Int) + 2 then Zx h p else Yda (kat h i) p
theorem Ztb {h : Hal} {k : Nat} {p : Pt} (hk : k < h.ws.length) : Zh6 h k p = Zy6 h (lnOf h.cs k) p := by unfold Zh6; rw [if_pos (by omega)]; rfl
theorem Zpq {h : Hal} {p : Pt} : Zh6 h h.ws.length p = Zx h p := by unfold Zh6; rw [if_neg (by omega),if_pos (by omega)]
theorem Ztc {h : Hal} {p : Pt} : Zh6 h ((h.ws.length : Int) + 1) p = Zx h p := by unfold Zh6; rw [if_neg (by omega),if_pos (by omega)]
theorem Zu0 {h : Hal} {j : Nat} {p : Pt} (hj : j < h.ks.length) : Zh6 h ((h.ws.length : Int) + 2 + j) p = Yda h.ks[j] p := by unfold Zh6; rw [if_neg (by omega),if_neg (by omega),Zse hj]
def valN (k x y z : Int) : Int := if k = 0 then x else if k = 1 then y else if k = 2 then z else if k = 3 then x + y else x - y
theorem Zmh {w : Wl} {n sx sy : Int} (h : Str w n sx sy) : plW w = if sx = 0 then (0,w.fx) else if sy = 0 then (1,w.fy) else if sx = sy then (4,w.fx - w.fy) else (3,w.fx + w.fy) := by
 have hn := h.hn
 have b1 := h.b1
 have b2 := h.b2
 have hxy := h.hxy
 have w4 : IntKind.i64.wrap (w.fx - w.fy) = w.fx - w.fy := W_eq (by omega) (by omega)
 have w3 : IntKind.i64.wrap (w.fx + w.fy) = w.fx + w.fy := W_eq (by omega) (by omega)
 unfold plW
 rw [h.dx,h.dy,w3,w4]
 rcases h.hx with rfl | rfl | rfl <;> rcases h.hy with rfl | rfl | rfl <;> (try (exact absurd ⟨rfl,rfl⟩ hxy)) <;> simp only [Int.mul_zero,Int.mul_one,Int.mul_neg] <;> (repeat' split) <;> first | rfl | (exfalso; omega)
set_option maxHeartbeats 8000000 in
theorem Zu4 {h : Hal} {w : Wl} {n sx sy : Int} (hs : Str w n sx sy) {p : Pt} (hp : PtOk p.x p.y p.d) (ht : 2 <= h.ht /\ h.ht <= 5000) (hpl : valN (plW w).1 p.x p.y p.z = (plW w).2 * p.d) : Zm7 h w p = Zy6 h w.ln p := by
 obtain ⟨x,y,z,d⟩ := p
 dsimp only at hp hpl
 have hd := hp.hd
 have hD := hp.hD
 have nd := Yd2 hs.hn hs.nle hd
 have a1 := Zh hs.b1 hd
 have a2 := Zh hs.b2 hd
 have a3 := Zh hs.b3 hd
 have a4 := Zh hs.b4 hd
 have hz : IntKind.i64.wrap (h.ht * d) = h.ht * d /\ IntKind.i64.wrap (h.ht * d - 1) = h.ht * d - 1 /\ 0 < h.ht * d := by
  have := Zh (f := h.ht) (d := d) (by omega) hd
  have := Int.mul_pos (a := h.ht) (b := d) (by omega) hd
  exact ⟨W_eq (by omega) (by omega),W_eq (by omega) (by omega),this⟩
 unfold Zm7 Zy6
 rw [Zik hs hp,Zqq hs]
 rw [Zmh hs] at hpl
 unfold valN at hpl
 rw [Zd0,Zd0,Zd1,Zd1]
 dsimp only
 rw [hz.1,hz.2.1]
 rw [Zbp hd,Zbp hd,Zbq hd,Zbq hd]
 rw [W_eq (n := min (w.fx * d) (w.tx * d)) (by omega) (by omega),W_eq (n := max (w.fx * d) (w.tx * d)) (by omega) (by omega),W_eq (n := min (w.fy * d) (w.ty * d)) (by omega) (by omega),W_eq (n := max (w.fy * d) (w.ty * d)) (by omega) (by omega)]
 have etx := hs.tx
 have ety := hs.ty
 have b1 := hs.b1
 have b2 := hs.b2
 have hn := hs.hn
 have cnd : (w.fx = w.tx) ↔ sx = 0 := by
  rw [etx]
  constructor
  ·intro e
   have : n * sx = 0 := by omega
   rcases Int.mul_eq_zero.1 this with h | h
   ·omega
   ·exact h
  ·intro e; rw [e]; omega
 have ex : w.tx * d = w.fx * d + sx * (n * d) := by rw [etx]; grind
 have ey : w.ty * d = w.fy * d + sy * (n * d) := by rw [ety]; grind
 have full : n * (sx * sx + sy * sy) * d = (sx * sx + sy * sy) * (n * d) := by grind
 have d3 : (w.fx + w.fy) * d = w.fx * d + w.fy * d := by grind
 have d4 : (w.fx - w.fy) * d = w.fx * d - w.fy * d := by grind
 rw [full,ex,ey]
 unfold alo
 simp only [cnd]
 have hx := hs.hx
 have hy := hs.hy
 have hxy := hs.hxy
 clear full etx ety cnd hs hp hz
 generalize w.fx * d = A at *
 generalize w.fy * d = C at *
 generalize n * d = N at *
 generalize h.ht * d = H at *
 rcases hx with rfl | rfl | rfl <;> rcases hy with rfl | rfl | rfl <;> (try (exact absurd ⟨rfl,rfl⟩ hxy)) <;> simp [IntKind.wrap_i64] at hpl ⊢ <;> rw [Bool.eq_iff_iff] <;> simp [within_iff]
 all_goals omega
end Go.Proofs.YtdaliaafmcjikaaGreat
