/- A part of the proof: lemmas. -/
import Derived.Test.YtdaliaafmcjikaaGreatV13
import Derived.Test.YtdaliaafmcjikaaGreatV7
import Derived.Test.YtdaliaafmcjikaaGreatV8
import Derived.Test.YtdaliaafmcjikaaGreatV11
import Derived.Test.YtdaliaafmcjikaaGreatV10
import Derived.Test.YtdaliaafmcjikaaGreatV12
import Derived.Shelf.SlSortCmp.Insertion
import Derived.Shelf.SlSortCmp.NoneTotal
import Derived.Sort.Statements
set_option linter.unusedVariables false
set_option linter.unusedSimpArgs false
namespace Go.Proofs.YtdaliaafmcjikaaGreat
open Go Go.Sx
theorem Vq (a b : Int) : (a < b /\ cmpI a b = -1) \/ (a = b /\ cmpI a b = 0) \/ (b < a /\ cmpI a b = 1) := by
 unfold cmpI
 split
 ·exact .inl ⟨‹_›,rfl⟩
 ·split
  ·exact .inr (.inr ⟨‹_›,rfl⟩)
  ·exact .inr (.inl ⟨by omega,rfl⟩)
theorem Zpa : ∀ a : List Int,cmpL a a = 0
 | [] => rfl
 | x :: a => by
  have : cmpI x x = 0 := by rcases Vq x x with h | h | h <;> omega
  rw [cmpL,if_pos this,Zpa a]
theorem Zpb : ∀ a b : List Int,cmpL b a = -cmpL a b
 | [],[] => rfl
 | [],_ :: _ => rfl
 | _ :: _,[] => rfl
 | x :: a,y :: b => by
  rw [cmpL,cmpL,Zpb a b]
  rcases Vq x y with h | h | h <;> rcases Vq y x with k | k | k <;> rw [h.2,k.2] <;> first | rfl | omega
theorem Zo9 : ∀ {a b : List Int},cmpL a b = 0 -> a = b
 | [],[],_ => rfl
 | [],_ :: _,h => by cases h
 | _ :: _,[],h => by cases h
 | x :: a,y :: b,h => by
  rw [cmpL] at h
  rcases Vq x y with k | k | k
  ·rw [k.2] at h; simp at h
  ·rw [k.2] at h; rw [k.1,Zo9 (a := a) (b := b) (by simpa using h)]
  ·rw [k.2] at h; simp at h
theorem Zlq : ∀ {a b c : List Int},cmpL a b <= 0 -> cmpL b c <= 0 -> cmpL a c <= 0
 | [],_,[],_,_ => by simp [cmpL]
 | [],_,_ :: _,_,_ => by simp [cmpL]
 | x :: a,[],c,h,_ => by simp [cmpL] at h
 | x :: a,y :: b,[],_,h => by simp [cmpL] at h
 | x :: a,y :: b,z :: c,h1,h2 => by
  rw [cmpL] at h1 h2 ⊢
  rcases Vq x y with k | k | k <;> rcases Vq y z with m | m | m <;> rcases Vq x z with n | n | n <;> rw [k.2] at h1 <;> rw [m.2] at h2 <;> rw [n.2]
  all_goals simp at h1 h2 ⊢
  all_goals first
   | omega
   | exact Zlq h1 h2
abbrev ordK (p : Pth) : List Int := p.sq :: (p.ss.length : Int) :: p.ss
theorem Zdu (a b : Pth) : ordP a b = cmpL (ordK a) (ordK b) := by
 unfold ordP ordK
 simp only [fstL,cmpL]
 by_cases c1 : cmpI a.sq b.sq = 0 <;> by_cases c2 : cmpI a.ss.length b.ss.length = 0 <;> by_cases c3 : cmpL a.ss b.ss = 0 <;> simp [c1,c2,c3]
theorem Zv9 (a : Pth) : ordP a a = 0 := by rw [Zdu,Zpa]
theorem Za0 (a b : Pth) : ordP b a = -ordP a b := by rw [Zdu,Zdu,Zpb]
theorem Zei {a b c : Pth} (h1 : ordP a b <= 0) (h2 : ordP b c <= 0) : ordP a c <= 0 := by rw [Zdu] at *; exact Zlq h1 h2
theorem Znw {a b : Pth} (h : ordP a b = 0) : a.sq = b.sq /\ a.ss = b.ss := by
 rw [Zdu] at h
 have := Zo9 h
 simp only [ordK,List.cons.injEq] at this
 exact ⟨this.1,this.2.2⟩
theorem Zz0 : Go.Sort.SWO (Go.Proofs.ltOf ordP) := by
 refine ⟨fun x => ?_,fun x y z h1 h2 => ?_,fun x y z h1 h2 => ?_⟩
 ·simp [ltOf,Zv9]
 ·simp only [ltOf,decide_eq_true_eq] at *
  have h := Zei (Int.le_of_lt h1) (Int.le_of_lt h2)
  rcases Int.lt_or_eq_of_le h with h | h
  ·exact h
  ·obtain ⟨e1,e2⟩ := Znw h
   have : ordP x y = ordP z y := by rw [Zdu,Zdu]; unfold ordK; rw [e1,e2]
   have := Za0 y z
   omega
 ·simp only [ltOf,decide_eq_false_iff_not,Int.not_lt] at *
  have a1 := Za0 x y
  have a2 := Za0 y z
  have a3 := Za0 x z
  have := Zei (a := z) (b := y) (c := x) (by omega) (by omega)
  omega
theorem Zne {G : Pth -> Prop} (hG : ∀ a b,G a -> G b -> a.ss = b.ss -> a = b) : ∀ {l m : List Pth},l.Perm m -> (∀ a ∈ l,G a) -> l.Pairwise (fun a b => ordP a b <= 0) -> m.Pairwise (fun a b => ordP a b <= 0) -> l = m
 | [],m,hp,_,_,_ => by rw [List.nil_perm.1 hp]
 | a :: l,[],hp,_,_,_ => by have := hp.length_eq; simp at this
 | a :: l,b :: m,hp,hg,h1,h2 => by
  have hab : a = b := by
   by_cases c : a = b
   ·exact c
   ·have hb : b ∈ a :: l := hp.symm.subset (by simp)
    have ha : a ∈ b :: m := hp.subset (by simp)
    rw [List.mem_cons] at ha hb
    have q1 := (List.pairwise_cons.1 h1).1 b (by rcases hb with h | h; exact absurd h.symm c; exact h)
    have q2 := (List.pairwise_cons.1 h2).1 a (by rcases ha with h | h; exact absurd h c; exact h)
    have q3 := Za0 a b
    have q4 := Znw (a := a) (b := b) (by omega)
    exact hG a b (hg a (by simp)) (hg b (hp.symm.subset (by simp))) q4.2
  subst hab
  rw [Zne hG (List.perm_cons a |>.1 hp) (fun x hx => hg x (by simp [hx])) (List.pairwise_cons.1 h1).2 (List.pairwise_cons.1 h2).2]
def putM (p : Pth) (l : List Pth) : Nat -> Nat
 | 0 => 0
 | m + 1 => match l[m]? with
  | some x => if ordP p x < 0 then putM p l m else m + 1
  | none => m + 1
def putL (l : List Pth) (p : Pth) : List Pth := l.take (putM p l l.length) ++ p :: l.drop (putM p l l.length)
theorem Zvz (p : Pth) (l : List Pth) : ∀ m,putM p l m <= m
 | 0 => Nat.le_refl _
 | m + 1 => by
  rw [putM]
  split
  ·split
   ·exact Nat.le_trans (Zvz p l m) (Nat.le_succ _)
   ·exact Nat.le_refl _
  ·exact Nat.le_refl _
theorem Zv0 (l : List Pth) (p : Pth) : (putL l p).Perm (p :: l) := by
 unfold putL
 refine List.perm_middle.trans ?_
 rw [List.take_append_drop]
theorem Znt (p : Pth) (l : List Pth) : ∀ m,m <= l.length -> (∀ j (h : j < l.length),putM p l m <= j -> j < m -> ordP p l[j] < 0) /\ (∀ j (h : j < l.length),j + 1 = putM p l m -> ¬ ordP p l[j] < 0)
 | 0,_ => ⟨fun j h h1 h2 => by omega,fun j h h1 => by simp [putM] at h1⟩
 | m + 1,hm => by
  have hml : m < l.length := by omega
  rw [putM,List.getElem?_eq_getElem hml]
  dsimp only
  by_cases c : ordP p l[m] < 0
  ·rw [if_pos c]
   obtain ⟨q1,q2⟩ := Znt p l m (by omega)
   refine ⟨fun j h h1 h2 => ?_,q2⟩
   by_cases e : j = m
   ·subst e; exact c
   ·exact q1 j h h1 (by omega)
  ·rw [if_neg c]
   refine ⟨fun j h h1 h2 => by omega,fun j h h1 => ?_⟩
   have : j = m := by omega
   subst this; exact c
theorem Zp6 {l : List Pth} {p : Pth} (hs : l.Pairwise (fun a b => ordP a b <= 0)) : (putL l p).Pairwise (fun a b => ordP a b <= 0) := by
 have hle := Zvz p l l.length
 obtain ⟨q1,q2⟩ := Znt p l l.length (Nat.le_refl _)
 unfold putL
 generalize putM p l l.length = m at *
 rw [List.pairwise_append]
 have hgt : ∀ x ∈ l.drop m,ordP p x <= 0 := fun x hx => by
  obtain ⟨i,hi,rfl⟩ := List.mem_iff_getElem.1 hx
  rw [List.length_drop] at hi
  rw [List.getElem_drop]
  exact Int.le_of_lt (q1 (m + i) (by omega) (by omega) (by omega))
 have hlt : ∀ x ∈ l.take m,ordP x p <= 0 := fun x hx => by
  obtain ⟨i,hi,rfl⟩ := List.mem_iff_getElem.1 hx
  rw [List.length_take] at hi
  rw [List.getElem_take]
  have h1 := q2 (m - 1) (by omega) (by omega)
  have h2 := Za0 (l[m - 1]'(by omega)) p
  have h3 : ordP (l[m - 1]'(by omega)) p <= 0 := by omega
  by_cases e : i = m - 1
  ·subst e; exact h3
  ·exact Zei (List.pairwise_iff_getElem.1 hs i (m - 1) (by omega) (by omega) (by omega)) h3
 refine ⟨hs.sublist (List.take_sublist _ _),?_,fun a ha b hb => ?_⟩
 ·rw [List.pairwise_cons]
  exact ⟨hgt,hs.sublist (List.drop_sublist _ _)⟩
 ·rcases List.mem_cons.1 hb with rfl | hb
  ·exact hlt a ha
  ·exact Zei (hlt a ha) (hgt b hb)
def rngI (k n : Nat) : List Int := (List.range' k (n - k)).map fun (i : Nat) => (i : Int)
theorem Zdk {k n : Nat} (h : k < n) : rngI k n = (k : Int) :: rngI (k + 1) n := by
 unfold rngI
 rw [show n - k = (n - (k + 1)) + 1 by omega,List.range'_succ]
 rfl
theorem Zf2 {k n : Nat} (h : n <= k) : rngI k n = [] := by
 unfold rngI
 rw [show n - k = 0 by omega]
 rfl
def wlk (n : Nat) : Nat -> List Int -> List (List Int)
 | 0,L => [L]
 | o + 1,L => L :: (rngI 0 n).flatMap fun i => if L.getLast? = some i then [] else wlk n o (L ++ [i])
def nl1 (ns : List Int) : List (List AV) := ns.map fun n => [I n]
abbrev lsX (l : List (List Int)) : List (List AV) := l.map fun L => [.isl 1 (nl1 L)]
def Xg : FuncId -> Bool := fun f => Nat.beq f 143
set_option maxHeartbeats 4000000 in
theorem Yei (n : Nat) (hn : n < 1000) : Zpm Tryz.prog 142 [] [.ipt [I 0],.ipt [I (n : Int)]] (lsX (wlk n 0 [])) := by
 refine bs.titer (sx := Xg) Zd Tryz.func142 (by kernel_rfl) rfl (by kernel_rfl) fun B Ig l JX hI => ?_
 conv => whnf
 refine bs.ysv (sx := Xg) Zd hI Tryz.func143 (by kernel_rfl) rfl (by kernel_rfl) ?_
 conv => whnf
 refine Yd.mk ⟨rfl,rfl,⟨_,_,rfl,.inr ⟨rfl,_,rfl⟩,trivial⟩,(fun h => by cases h),?_,?_⟩
 ·repeat' (first | refine wk3 ?_ | (refine wk2 ?_ ?_ <;> intro _) | refine wk4 ?_ | fail); all_goals (conv => whnf)
  exact Done.mk (.inl rfl)
 ·repeat' (first | refine wk3 ?_ | (refine wk2 ?_ ?_ <;> intro _) | refine wk4 ?_ | fail); all_goals (conv => whnf)
  exact Done.mk (.inr rfl)
def w1Z (l : Nat) (f : AV) : Nat -> List (List AV) -> List (Nat × ABlk)
 | 0,_ => [(2,.row 1 [[f]] true false),(1,.row 1 [[.nils]] true false),(0,.row 1 [[.yld l]] true false)]
 | _ + 1,A => [(3,.row 1 A true true),(2,.row 1 [[f]] true false),(1,.row 1 [[.asl 3 0 0]] true false),(0,.row 1 [[.yld l]] true false)]
set_option maxHeartbeats 4000000 in
theorem Yeh (n : Nat) (hn : n < 1000) : Zpm Tryz.prog 142 [] [.ipt [I 1],.ipt [I (n : Int)]] (lsX (wlk n 1 [])) := by
 refine bs.titer (sx := Xg) Zd Tryz.func142 (by kernel_rfl) rfl (by kernel_rfl) fun B Ig l JX hI => ?_
 conv => whnf
 refine bs.ysv (sx := Xg) Zd hI Tryz.func143 (by kernel_rfl) rfl (by kernel_rfl) ?_
 conv => whnf
 refine Yd.mk ⟨rfl,rfl,⟨_,_,rfl,.inr ⟨rfl,_,rfl⟩,trivial⟩,(fun h => by cases h),?_,?_⟩
 ·conv => whnf
  refine Zt4 (S := Nat × Int × Nat × List (List AV)) (fun t => n - t.1) (fun t => [(0,.ptr 0 0 0),(1,.ptr 1 0 0),(2,.ipt [I 1]),(3,.ipt [I (n : Int)]),(4,.ptr 2 0 0),(15,I (n : Int)),(16,I t.2.1)]) (fun t => w1Z l (.func 143 [] [.ptr 0 0 0,.ptr 1 0 0,.ipt [I 1],.ipt [I (n : Int)],.ptr 2 0 0]) t.2.2.1 t.2.2.2)
   (fun t => some (lsX ((rngI t.1 n).flatMap fun i => wlk n 0 [i]))) 3 (fun t => match t.2.2.1 with
   | 0 => 3
   | _ => 4) (fun t => t.2.1 = t.1 /\ t.1 <= n /\ (t.2.2.1 ≠ 0 -> ∃ c,t.2.2.2 = [[c]])) (0,0,0,[]) ⟨rfl,Nat.zero_le _,fun h => absurd rfl h⟩ (Nat.le_refl _) rfl [] rfl (kps) (kps) ?_
  rintro ⟨k,i,m,A⟩ ⟨hi,hk,hA⟩
  dsimp only at hi hk hA
  subst hi
  by_cases hlt : k < n
  ·have hw : IntKind.i64.wrap ((k : Int) + 1) = ((k + 1 : Nat) : Int) := W_eq (by omega) (by omega)
   dsimp only
   rw [Zdk hlt]
   cases m with
   | zero =>
    refine bs.yv Zd hI (sx := Xg) ?_
    repeat' (first | refine wk3 ?_ | (refine wk2 ?_ ?_ <;> intro _) | refine wk4 ?_ | fail); all_goals (conv => whnf)
    refine bs.ysv (sx := Xg) Zd hI Tryz.func143 (by kernel_rfl) rfl (by kernel_rfl) ?_
    conv => whnf
    refine Yd.mk ⟨rfl,rfl,.same rfl,(fun h => by cases h),?_,?_⟩
    ·conv => whnf
     repeat' (first | refine wk3 ?_ | (refine wk2 ?_ ?_ <;> intro _) | refine wk4 ?_ | fail); all_goals (conv => whnf)
     exact Done.mk ⟨(k + 1,IntKind.i64.wrap ((k : Int) + 1),1,[[I k]]),[(3,4)],rfl,kps,kps,rfl,⟨hw,by omega,fun _ => ⟨_,rfl⟩⟩,by dsimp only; omega⟩
    ·repeat' (first | refine wk3 ?_ | (refine wk2 ?_ ?_ <;> intro _) | refine wk4 ?_ | fail); all_goals (conv => whnf)
     exact Done.mk (.inr rfl)
   | succ m =>
    obtain ⟨c,rfl⟩ := hA (by simp)
    have hfit := Fits.here
    refine bs.yv Zd hI (sx := Xg) ?_
    repeat' (first | refine wk3 ?_ | (refine wk2 ?_ ?_ <;> intro _) | refine wk4 ?_ | fail); all_goals (conv => whnf)
    refine bs.ysv (sx := Xg) Zd hI Tryz.func143 (by kernel_rfl) rfl (by kernel_rfl) ?_
    conv => whnf
    refine Yd.mk ⟨rfl,rfl,.same rfl,(fun h => by cases h),?_,?_⟩
    ·conv => whnf
     repeat' (first | refine wk3 ?_ | (refine wk2 ?_ ?_ <;> intro _) | refine wk4 ?_ | fail); all_goals (conv => whnf)
     exact Done.mk ⟨(k + 1,IntKind.i64.wrap ((k : Int) + 1),m + 1,[[I k]]),[(3,3)],rfl,kps,kps,rfl,⟨hw,by omega,fun _ => ⟨_,rfl⟩⟩,by dsimp only; omega⟩
    ·repeat' (first | refine wk3 ?_ | (refine wk2 ?_ ?_ <;> intro _) | refine wk4 ?_ | fail); all_goals (conv => whnf)
     exact Done.mk (.inr rfl)
  ·dsimp only
   rw [Zf2 (by omega)]
   cases m with
   | zero =>
    refine bs.yv Zd hI (sx := Xg) ?_
    repeat' (first | refine wk3 ?_ | (refine wk2 ?_ ?_ <;> intro _) | refine wk4 ?_ | fail); all_goals (conv => whnf)
    exact Done.mk (.inl rfl)
   | succ m =>
    refine bs.yv Zd hI (sx := Xg) ?_
    repeat' (first | refine wk3 ?_ | (refine wk2 ?_ ?_ <;> intro _) | refine wk4 ?_ | fail); all_goals (conv => whnf)
    exact Done.mk (.inl rfl)
 ·repeat' (first | refine wk3 ?_ | (refine wk2 ?_ ?_ <;> intro _) | refine wk4 ?_ | fail); all_goals (conv => whnf)
  exact Done.mk (.inr rfl)
def w2Z (l : Nat) (f : AV) (a b : AV) : Nat -> List (Nat × ABlk)
 | 0 => [(2,.row 1 [[f]] true false),(1,.row 1 [[.nils]] true false),(0,.row 1 [[.yld l]] true false)]
 | 1 => [(3,.row 1 [[a]] true true),(2,.row 1 [[f]] true false),(1,.row 1 [[.asl 3 0 0]] true false),(0,.row 1 [[.yld l]] true false)]
 | _ + 2 => [(3,.row 1 [[a],[b]] true true),(2,.row 1 [[f]] true false),(1,.row 1 [[.asl 3 0 0]] true false),(0,.row 1 [[.yld l]] true false)]
abbrev fn2 (n : Nat) : AV := .func 143 [] [.ptr 0 0 0,.ptr 1 0 0,.ipt [I 2],.ipt [I (n : Int)],.ptr 2 0 0]
def w3Z (l : Nat) (f : AV) (a b : AV) (rI : Nat) : Nat -> List (Nat × ABlk)
 | 0 => [(rI,.row 1 [[a]] true true),(2,.row 1 [[f]] true false),(1,.row 1 [[.asl rI 0 1]] true false),(0,.row 1 [[.yld l]] true false)]
 | _ + 1 => [(5,.row 1 [[a],[b]] true true),(2,.row 1 [[f]] true false),(1,.row 1 [[.asl 5 0 1]] true false),(0,.row 1 [[.yld l]] true false)]
def w4Z (l : Nat) (f : AV) (a b : AV) : List (Nat × ABlk) := [(3,.row 1 [[a],[b]] true true),(2,.row 1 [[f]] true false),(1,.row 1 [[.asl 3 0 1]] true false),(0,.row 1 [[.yld l]] true false)]
theorem wl2 (n k : Nat) : wlk n 1 [(k : Int)] = [(k : Int)] :: (rngI 0 n).flatMap fun j => if (k : Int) = j then [] else [[(k : Int),j]] := by
 simp [wlk]
set_option maxHeartbeats 8000000 in
theorem Yeg (n : Nat) (hn : n < 1000) : Zpm Tryz.prog 142 [] [.ipt [I 2],.ipt [I (n : Int)]] (lsX (wlk n 2 [])) := by
 refine bs.titer (sx := Xg) Zd Tryz.func142 (by kernel_rfl) rfl (by kernel_rfl) fun B Ig l JX hI => ?_
 conv => whnf
 refine bs.ysv (sx := Xg) Zd hI Tryz.func143 (by kernel_rfl) rfl (by kernel_rfl) ?_
 conv => whnf
 refine Yd.mk ⟨rfl,rfl,⟨_,_,rfl,.inr ⟨rfl,_,rfl⟩,trivial⟩,(fun h => by cases h),?_,?_⟩
 ·conv => whnf
  refine Zt4 (S := Nat × Int × Nat × AV × AV) (fun t => n - t.1) (fun t => [(0,.ptr 0 0 0),(1,.ptr 1 0 0),(2,.ipt [I 2]),(3,.ipt [I (n : Int)]),(4,.ptr 2 0 0),(15,I (n : Int)),(16,I t.2.1)]) (fun t => w2Z l (fn2 n) t.2.2.2.1 t.2.2.2.2 t.2.2.1)
   (fun t => some (lsX ((rngI t.1 n).flatMap fun i => wlk n 1 [i]))) 3 (fun t => match t.2.2.1 with
   | 0 => 3
   | _ => 4) (fun t => t.2.1 = t.1 /\ t.1 <= n) (0,0,0,I 0,I 0) ⟨rfl,Nat.zero_le _⟩ (Nat.le_refl _) rfl [] rfl (kps) (kps) ?_
  rintro ⟨k,i,m,a,b⟩ ⟨hi,hk⟩
  dsimp only at hi hk
  subst hi
  by_cases hlt : k < n
  ·have hw : IntKind.i64.wrap ((k : Int) + 1) = ((k + 1 : Nat) : Int) := W_eq (by omega) (by omega)
   dsimp only
   rw [Zdk hlt,List.flatMap_cons,wl2]
   rcases m with _ | _ | m
   ·refine bs.yv Zd hI (sx := Xg) ?_
    repeat' (first | refine wk3 ?_ | (refine wk2 ?_ ?_ <;> intro _) | refine wk4 ?_ | fail); all_goals (conv => whnf)
    refine bs.ysv (sx := Xg) Zd hI Tryz.func143 (by kernel_rfl) rfl (by kernel_rfl) ?_
    conv => whnf
    refine Yd.mk ⟨rfl,rfl,.same rfl,(fun h => by cases h),?_,?_⟩
    ·conv => whnf
     repeat' (first | refine wk3 ?_ | (refine wk2 ?_ ?_ <;> intro _) | refine wk4 ?_ | fail); all_goals (conv => whnf)
     refine Zt4 (S := Nat × Int × Nat × AV) (fun t => n - t.1) (fun t => [(0,.ptr 0 0 0),(1,.ptr 1 0 0),(2,.ipt [I 2]),(3,.ipt [I (n : Int)]),(4,.ptr 2 0 0),(15,I (n : Int)),(16,I t.2.1)]) (fun t => w3Z l (fn2 n) (I k) t.2.2.2 4 t.2.2.1)
      (fun t => some (lsX (((rngI t.1 n).flatMap fun j => if (k : Int) = j then [] else [[(k : Int),j]]) ++ (rngI (k + 1) n).flatMap fun i => wlk n 1 [i]))) 5 (fun t => match t.2.2.1 with
       | 0 => 5
       | _ => 6) (fun t => t.2.1 = t.1 /\ t.1 <= n) (0,0,0,I 0) ⟨rfl,Nat.zero_le _⟩ (Nat.le_refl _) rfl [] rfl (kps) (kps) ?_
     rintro ⟨j,i,q,b'⟩ ⟨hi,hj⟩
     dsimp only at hi hj
     subst hi
     by_cases hl2 : j < n
     ·have hw2 : IntKind.i64.wrap ((j : Int) + 1) = ((j + 1 : Nat) : Int) := W_eq (by omega) (by omega)
      dsimp only
      rw [Zdk hl2,List.flatMap_cons]
      by_cases hkj : (k : Int) = (j : Int)
      ·rw [if_pos hkj,List.nil_append]
       rcases q with _ | q
       ·refine bs.yv Zd hI (sx := Xg) ?_
        repeat' (first | refine wk3 ?_ | (refine wk2 ?_ ?_ <;> intro _) | refine wk4 ?_ | fail); all_goals (conv => whnf)
        exact Done.mk ⟨(j + 1,IntKind.i64.wrap ((j : Int) + 1),0,b'),[],rfl,kps,kps,rfl,⟨hw2,by omega⟩,by dsimp only; omega⟩
       ·refine bs.yv Zd hI (sx := Xg) ?_
        repeat' (first | refine wk3 ?_ | (refine wk2 ?_ ?_ <;> intro _) | refine wk4 ?_ | fail); all_goals (conv => whnf)
        exact Done.mk ⟨(j + 1,IntKind.i64.wrap ((j : Int) + 1),q + 1,b'),[(5,5)],rfl,kps,kps,rfl,⟨hw2,by omega⟩,by dsimp only; omega⟩
      ·rw [if_neg hkj]
       rcases q with _ | q
       ·refine bs.yv Zd hI (sx := Xg) ?_
        repeat' (first | refine wk3 ?_ | (refine wk2 ?_ ?_ <;> intro _) | refine wk4 ?_ | fail); all_goals (conv => whnf)
        refine bs.ysv (sx := Xg) Zd hI Tryz.func143 (by kernel_rfl) rfl (by kernel_rfl) ?_
        conv => whnf
        refine Yd.mk ⟨rfl,rfl,.same rfl,(fun h => by cases h),?_,?_⟩
        ·conv => whnf
         repeat' (first | refine wk3 ?_ | (refine wk2 ?_ ?_ <;> intro _) | refine wk4 ?_ | fail); all_goals (conv => whnf)
         exact Done.mk ⟨(j + 1,IntKind.i64.wrap ((j : Int) + 1),1,I j),[(5,6)],rfl,kps,kps,rfl,⟨hw2,by omega⟩,by dsimp only; omega⟩
        ·repeat' (first | refine wk3 ?_ | (refine wk2 ?_ ?_ <;> intro _) | refine wk4 ?_ | fail); all_goals (conv => whnf)
         exact Done.mk (.inr rfl)
       ·have hfit := Fits.here
        refine bs.yv Zd hI (sx := Xg) ?_
        repeat' (first | refine wk3 ?_ | (refine wk2 ?_ ?_ <;> intro _) | refine wk4 ?_ | fail); all_goals (conv => whnf)
        refine bs.ysv (sx := Xg) Zd hI Tryz.func143 (by kernel_rfl) rfl (by kernel_rfl) ?_
        conv => whnf
        refine Yd.mk ⟨rfl,rfl,.same rfl,(fun h => by cases h),?_,?_⟩
        ·conv => whnf
         repeat' (first | refine wk3 ?_ | (refine wk2 ?_ ?_ <;> intro _) | refine wk4 ?_ | fail); all_goals (conv => whnf)
         exact Done.mk ⟨(j + 1,IntKind.i64.wrap ((j : Int) + 1),q + 1,I j),[(5,5)],rfl,kps,kps,rfl,⟨hw2,by omega⟩,by dsimp only; omega⟩
        ·repeat' (first | refine wk3 ?_ | (refine wk2 ?_ ?_ <;> intro _) | refine wk4 ?_ | fail); all_goals (conv => whnf)
         exact Done.mk (.inr rfl)
     ·dsimp only
      rw [Zf2 (k := j) (by omega),List.flatMap_nil,List.nil_append]
      rcases q with _ | q
      ·refine bs.yv Zd hI (sx := Xg) ?_
       repeat' (first | refine wk3 ?_ | (refine wk2 ?_ ?_ <;> intro _) | refine wk4 ?_ | fail); all_goals (conv => whnf)
       exact Done.mk ⟨(k + 1,IntKind.i64.wrap ((k : Int) + 1),1,I k,b),[(3,4)],rfl,kps,kps,rfl,⟨hw,by omega⟩,by dsimp only; omega⟩
      ·refine bs.yv Zd hI (sx := Xg) ?_
       repeat' (first | refine wk3 ?_ | (refine wk2 ?_ ?_ <;> intro _) | refine wk4 ?_ | fail); all_goals (conv => whnf)
       exact Done.mk ⟨(k + 1,IntKind.i64.wrap ((k : Int) + 1),2,I k,b'),[(3,5)],rfl,kps,kps,rfl,⟨hw,by omega⟩,by dsimp only; omega⟩
    ·repeat' (first | refine wk3 ?_ | (refine wk2 ?_ ?_ <;> intro _) | refine wk4 ?_ | fail); all_goals (conv => whnf)
     exact Done.mk (.inr rfl)
   ·have hfit := Fits.here
    refine bs.yv Zd hI (sx := Xg) ?_
    repeat' (first | refine wk3 ?_ | (refine wk2 ?_ ?_ <;> intro _) | refine wk4 ?_ | fail); all_goals (conv => whnf)
    clear hfit
    refine bs.ysv (sx := Xg) Zd hI Tryz.func143 (by kernel_rfl) rfl (by kernel_rfl) ?_
    conv => whnf
    refine Yd.mk ⟨rfl,rfl,.same rfl,(fun h => by cases h),?_,?_⟩
    ·conv => whnf
     repeat' (first | refine wk3 ?_ | (refine wk2 ?_ ?_ <;> intro _) | refine wk4 ?_ | fail); all_goals (conv => whnf)
     refine Zt4 (S := Nat × Int × Nat × AV) (fun t => n - t.1) (fun t => [(0,.ptr 0 0 0),(1,.ptr 1 0 0),(2,.ipt [I 2]),(3,.ipt [I (n : Int)]),(4,.ptr 2 0 0),(15,I (n : Int)),(16,I t.2.1)]) (fun t => w3Z l (fn2 n) (I k) t.2.2.2 3 t.2.2.1)
      (fun t => some (lsX (((rngI t.1 n).flatMap fun j => if (k : Int) = j then [] else [[(k : Int),j]]) ++ (rngI (k + 1) n).flatMap fun i => wlk n 1 [i]))) 5 (fun t => match t.2.2.1 with
       | 0 => 5
       | _ => 6) (fun t => t.2.1 = t.1 /\ t.1 <= n) (0,0,0,I 0) ⟨rfl,Nat.zero_le _⟩ (Nat.le_refl _) rfl [] rfl (kps) (kps) ?_
     rintro ⟨j,i,q,b'⟩ ⟨hi,hj⟩
     dsimp only at hi hj
     subst hi
     by_cases hl2 : j < n
     ·have hw2 : IntKind.i64.wrap ((j : Int) + 1) = ((j + 1 : Nat) : Int) := W_eq (by omega) (by omega)
      dsimp only
      rw [Zdk hl2,List.flatMap_cons]
      by_cases hkj : (k : Int) = (j : Int)
      ·rw [if_pos hkj,List.nil_append]
       rcases q with _ | q
       ·refine bs.yv Zd hI (sx := Xg) ?_
        repeat' (first | refine wk3 ?_ | (refine wk2 ?_ ?_ <;> intro _) | refine wk4 ?_ | fail); all_goals (conv => whnf)
        exact Done.mk ⟨(j + 1,IntKind.i64.wrap ((j : Int) + 1),0,b'),[],rfl,kps,kps,rfl,⟨hw2,by omega⟩,by dsimp only; omega⟩
       ·refine bs.yv Zd hI (sx := Xg) ?_
        repeat' (first | refine wk3 ?_ | (refine wk2 ?_ ?_ <;> intro _) | refine wk4 ?_ | fail); all_goals (conv => whnf)
        exact Done.mk ⟨(j + 1,IntKind.i64.wrap ((j : Int) + 1),q + 1,b'),[(5,5)],rfl,kps,kps,rfl,⟨hw2,by omega⟩,by dsimp only; omega⟩
      ·rw [if_neg hkj]
       rcases q with _ | q
       ·refine bs.yv Zd hI (sx := Xg) ?_
        repeat' (first | refine wk3 ?_ | (refine wk2 ?_ ?_ <;> intro _) | refine wk4 ?_ | fail); all_goals (conv => whnf)
        refine bs.ysv (sx := Xg) Zd hI Tryz.func143 (by kernel_rfl) rfl (by kernel_rfl) ?_
        conv => whnf
        refine Yd.mk ⟨rfl,rfl,.same rfl,(fun h => by cases h),?_,?_⟩
        ·conv => whnf
         repeat' (first | refine wk3 ?_ | (refine wk2 ?_ ?_ <;> intro _) | refine wk4 ?_ | fail); all_goals (conv => whnf)
         exact Done.mk ⟨(j + 1,IntKind.i64.wrap ((j : Int) + 1),1,I j),[(5,6)],rfl,kps,kps,rfl,⟨hw2,by omega⟩,by dsimp only; omega⟩
        ·repeat' (first | refine wk3 ?_ | (refine wk2 ?_ ?_ <;> intro _) | refine wk4 ?_ | fail); all_goals (conv => whnf)
         exact Done.mk (.inr rfl)
       ·have hfit := Fits.here
        refine bs.yv Zd hI (sx := Xg) ?_
        repeat' (first | refine wk3 ?_ | (refine wk2 ?_ ?_ <;> intro _) | refine wk4 ?_ | fail); all_goals (conv => whnf)
        refine bs.ysv (sx := Xg) Zd hI Tryz.func143 (by kernel_rfl) rfl (by kernel_rfl) ?_
        conv => whnf
        refine Yd.mk ⟨rfl,rfl,.same rfl,(fun h => by cases h),?_,?_⟩
        ·conv => whnf
         repeat' (first | refine wk3 ?_ | (refine wk2 ?_ ?_ <;> intro _) | refine wk4 ?_ | fail); all_goals (conv => whnf)
         exact Done.mk ⟨(j + 1,IntKind.i64.wrap ((j : Int) + 1),q + 1,I j),[(5,5)],rfl,kps,kps,rfl,⟨hw2,by omega⟩,by dsimp only; omega⟩
        ·repeat' (first | refine wk3 ?_ | (refine wk2 ?_ ?_ <;> intro _) | refine wk4 ?_ | fail); all_goals (conv => whnf)
         exact Done.mk (.inr rfl)
     ·dsimp only
      rw [Zf2 (k := j) (by omega),List.flatMap_nil,List.nil_append]
      rcases q with _ | q
      ·refine bs.yv Zd hI (sx := Xg) ?_
       repeat' (first | refine wk3 ?_ | (refine wk2 ?_ ?_ <;> intro _) | refine wk4 ?_ | fail); all_goals (conv => whnf)
       exact Done.mk ⟨(k + 1,IntKind.i64.wrap ((k : Int) + 1),1,I k,b),[(3,3)],rfl,kps,kps,rfl,⟨hw,by omega⟩,by dsimp only; omega⟩
      ·refine bs.yv Zd hI (sx := Xg) ?_
       repeat' (first | refine wk3 ?_ | (refine wk2 ?_ ?_ <;> intro _) | refine wk4 ?_ | fail); all_goals (conv => whnf)
       exact Done.mk ⟨(k + 1,IntKind.i64.wrap ((k : Int) + 1),2,I k,b'),[(3,5)],rfl,kps,kps,rfl,⟨hw,by omega⟩,by dsimp only; omega⟩
    ·repeat' (first | refine wk3 ?_ | (refine wk2 ?_ ?_ <;> intro _) | refine wk4 ?_ | fail); all_goals (conv => whnf)
     exact Done.mk (.inr rfl)
   ·have hfit := Fits.here
    refine bs.yv Zd hI (sx := Xg) ?_
    repeat' (first | refine wk3 ?_ | (refine wk2 ?_ ?_ <;> intro _) | refine wk4 ?_ | fail); all_goals (conv => whnf)
    refine bs.ysv (sx := Xg) Zd hI Tryz.func143 (by kernel_rfl) rfl (by kernel_rfl) ?_
    conv => whnf
    refine Yd.mk ⟨rfl,rfl,.same rfl,(fun h => by cases h),?_,?_⟩
    ·conv => whnf
     repeat' (first | refine wk3 ?_ | (refine wk2 ?_ ?_ <;> intro _) | refine wk4 ?_ | fail); all_goals (conv => whnf)
     refine Zt4 (S := Nat × Int × AV) (fun t => n - t.1) (fun t => [(0,.ptr 0 0 0),(1,.ptr 1 0 0),(2,.ipt [I 2]),(3,.ipt [I (n : Int)]),(4,.ptr 2 0 0),(15,I (n : Int)),(16,I t.2.1)]) (fun t => w4Z l (fn2 n) (I k) t.2.2)
      (fun t => some (lsX (((rngI t.1 n).flatMap fun j => if (k : Int) = j then [] else [[(k : Int),j]]) ++ (rngI (k + 1) n).flatMap fun i => wlk n 1 [i]))) 5 (fun _ => 5) (fun t => t.2.1 = t.1 /\ t.1 <= n) (0,0,b) ⟨rfl,Nat.zero_le _⟩ (Nat.le_refl _) rfl [] rfl (kps) (kps) ?_
     rintro ⟨j,i,b'⟩ ⟨hi,hj⟩
     dsimp only at hi hj
     subst hi
     by_cases hl2 : j < n
     ·have hw2 : IntKind.i64.wrap ((j : Int) + 1) = ((j + 1 : Nat) : Int) := W_eq (by omega) (by omega)
      dsimp only
      rw [Zdk hl2,List.flatMap_cons]
      by_cases hkj : (k : Int) = (j : Int)
      ·rw [if_pos hkj,List.nil_append]
       refine bs.yv Zd hI (sx := Xg) ?_
       repeat' (first | refine wk3 ?_ | (refine wk2 ?_ ?_ <;> intro _) | refine wk4 ?_ | fail); all_goals (conv => whnf)
       exact Done.mk ⟨(j + 1,IntKind.i64.wrap ((j : Int) + 1),b'),[],rfl,kps,kps,rfl,⟨hw2,by omega⟩,by dsimp only; omega⟩
      ·rw [if_neg hkj]
       refine bs.yv Zd hI (sx := Xg) ?_
       repeat' (first | refine wk3 ?_ | (refine wk2 ?_ ?_ <;> intro _) | refine wk4 ?_ | fail); all_goals (conv => whnf)
       refine bs.ysv (sx := Xg) Zd hI Tryz.func143 (by kernel_rfl) rfl (by kernel_rfl) ?_
       conv => whnf
       refine Yd.mk ⟨rfl,rfl,.same rfl,(fun h => by cases h),?_,?_⟩
       ·conv => whnf
        repeat' (first | refine wk3 ?_ | (refine wk2 ?_ ?_ <;> intro _) | refine wk4 ?_ | fail); all_goals (conv => whnf)
        exact Done.mk ⟨(j + 1,IntKind.i64.wrap ((j : Int) + 1),I j),[],rfl,kps,kps,rfl,⟨hw2,by omega⟩,by dsimp only; omega⟩
       ·repeat' (first | refine wk3 ?_ | (refine wk2 ?_ ?_ <;> intro _) | refine wk4 ?_ | fail); all_goals (conv => whnf)
        exact Done.mk (.inr rfl)
     ·dsimp only
      rw [Zf2 (k := j) (by omega),List.flatMap_nil,List.nil_append]
      refine bs.yv Zd hI (sx := Xg) ?_
      repeat' (first | refine wk3 ?_ | (refine wk2 ?_ ?_ <;> intro _) | refine wk4 ?_ | fail); all_goals (conv => whnf)
      exact Done.mk ⟨(k + 1,IntKind.i64.wrap ((k : Int) + 1),m + 2,I k,b'),[(3,3)],rfl,kps,kps,rfl,⟨hw,by omega⟩,by dsimp only; omega⟩
    ·repeat' (first | refine wk3 ?_ | (refine wk2 ?_ ?_ <;> intro _) | refine wk4 ?_ | fail); all_goals (conv => whnf)
     exact Done.mk (.inr rfl)
  ·dsimp only
   rw [Zf2 (by omega)]
   rcases m with _ | _ | m
   all_goals
    refine bs.yv Zd hI (sx := Xg) ?_
    repeat' (first | refine wk3 ?_ | (refine wk2 ?_ ?_ <;> intro _) | refine wk4 ?_ | fail); all_goals (conv => whnf)
    exact Done.mk (.inl rfl)
 ·repeat' (first | refine wk3 ?_ | (refine wk2 ?_ ?_ <;> intro _) | refine wk4 ?_ | fail); all_goals (conv => whnf)
  exact Done.mk (.inr rfl)
def extL (m : Nat) (L : List Int) : List (List Int) := (rngI 0 m).flatMap fun i => if L.getLast? = some i then [] else [L ++ [i]]
def bfsL (m : Nat) : Nat -> List (List Int)
 | 0 => [[]]
 | n + 1 => (bfsL m n).flatMap (extL m)
def lev (m : Nat) : Nat -> List Int -> List (List Int)
 | 0,L => [L]
 | n + 1,L => (extL m L).flatMap (lev m n)
theorem Zsb (m : Nat) : ∀ (n : Nat) (L : List Int),lev m (n + 1) L = (lev m n L).flatMap (extL m)
 | 0,L => by simp [lev]
 | n + 1,L => by
  rw [lev,lev,List.flatMap_assoc]
  congr 1
  funext L'
  exact Zsb m n L'
theorem Zyo (m : Nat) : ∀ n,bfsL m n = lev m n []
 | 0 => rfl
 | n + 1 => by rw [Zsb,bfsL,Zyo m n]
theorem Zjs {α β : Type} (f g : α -> List β) : ∀ l : List α,(l.flatMap fun x => f x ++ g x).Perm (l.flatMap f ++ l.flatMap g)
 | [] => .nil
 | a :: l => by
  simp only [List.flatMap_cons]
  refine ((List.Perm.refl _).append (Zjs f g l)).trans ?_
  rw [List.append_assoc,List.append_assoc]
  refine (List.Perm.refl _).append ?_
  rw [<-List.append_assoc,<-List.append_assoc]
  exact List.perm_append_comm.append (List.Perm.refl _)
theorem flatMap_nil {α β : Type} : ∀ l : List α,(l.flatMap fun _ => ([] : List β)) = []
 | [] => rfl
 | a :: l => by rw [List.flatMap_cons,flatMap_nil l]; rfl
theorem Zh1 {α β γ : Type} (f : α -> β -> List γ) (b : List β) : ∀ a : List α,(a.flatMap fun x => b.flatMap fun y => f x y).Perm (b.flatMap fun y => a.flatMap fun x => f x y)
 | [] => by simp [flatMap_nil]
 | x :: a => by
  simp only [List.flatMap_cons]
  exact ((List.Perm.refl _).append (Zh1 f b a)).trans (Zjs _ _ b).symm
theorem Zh2 {α β : Type} {f g : α -> List β} : ∀ {l : List α},(∀ x ∈ l,(f x).Perm (g x)) -> (l.flatMap f).Perm (l.flatMap g)
 | [],_ => .nil
 | a :: l,h => by
  simp only [List.flatMap_cons]
  exact (h a (by simp)).append (Zh2 fun x hx => h x (by simp [hx]))
theorem Yc6 (m o : Nat) (L : List Int) : wlk m (o + 1) L = L :: (extL m L).flatMap (wlk m o) := by
 rw [wlk,extL,List.flatMap_assoc]
 congr 2
 funext i
 split <;> simp
theorem Zuy (m : Nat) : ∀ (o : Nat) (L : List Int),(wlk m o L).Perm ((List.range (o + 1)).flatMap fun k => lev m k L)
 | 0,L => by simp [wlk,lev]
 | o + 1,L => by
  rw [Yc6,List.range_succ_eq_map,List.flatMap_cons]
  show (L :: _).Perm ([L] ++ _)
  refine List.Perm.cons L ?_
  refine (Zh2 fun L' _ => Zuy m o L').trans ?_
  refine (Zh1 _ _ _).trans ?_
  rw [List.flatMap_map]
  exact .refl _
theorem Yc7 (m o : Nat) : (wlk m o []).Perm ((List.range (o + 1)).flatMap (bfsL m)) := by
 have : bfsL m = fun k => lev m k [] := funext fun k => Zyo m k
 rw [this]
 exact Zuy m o []
theorem Zrw {m : Nat} {i : Int} (h : i ∈ rngI 0 m) : 0 <= i /\ i < m := by
 unfold rngI at h
 obtain ⟨k,hk,rfl⟩ := List.mem_map.1 h
 have := List.mem_range'_1.1 hk
 omega
structure Wok (m : Nat) (L : List Int) (n : Nat) : Prop where
 len : L.length <= n
 mem : ∀ i ∈ L,0 <= i /\ i < m
theorem Zrf (m : Nat) : ∀ (o : Nat) (L : List Int) (n : Nat),Wok m L n -> ∀ x ∈ wlk m o L,Wok m x (n + o)
 | 0,L,n,h,x,hx => by
  rw [wlk] at hx
  rw [List.mem_singleton.1 hx]; exact h
 | o + 1,L,n,h,x,hx => by
  rw [wlk] at hx
  rcases List.mem_cons.1 hx with rfl | hx
  ·exact ⟨Nat.le_trans h.len (Nat.le_add_right _ _),h.mem⟩
  ·obtain ⟨i,hi,hx⟩ := List.mem_flatMap.1 hx
   split at hx
   ·simp at hx
   ·have := Zrf m o (L ++ [i]) (n + 1) ⟨by have := h.len; simp; omega,fun j hj => by
     rcases List.mem_append.1 hj with hj | hj
     ·exact h.mem j hj
     ·rw [List.mem_singleton.1 hj]; exact Zrw hi⟩ x hx
    rw [show n + (o + 1) = n + 1 + o by omega]
    exact this
def fndP (f : List Int -> Option Pth) (m o : Nat) : List Pth := (wlk m o []).filterMap f
def refL (f : List Int -> Option Pth) (m o : Nat) : List Pth := (((List.range (o + 1)).flatMap (bfsL m)).filterMap f).foldl putL []
theorem Zjr : ∀ (l a : List Pth),a.Pairwise (fun a b => ordP a b <= 0) -> (l.foldl putL a).Pairwise (fun a b => ordP a b <= 0) /\ (l.foldl putL a).Perm (l ++ a)
 | [],a,h => ⟨h,.refl _⟩
 | p :: l,a,h => by
  obtain ⟨q1,q2⟩ := Zjr l (putL a p) (Zp6 h)
  refine ⟨q1,q2.trans ?_⟩
  refine ((List.Perm.refl l).append (Zv0 a p)).trans ?_
  exact List.perm_middle
theorem Zax (f : List Int -> Option Pth) (m o : Nat) : (refL f m o).Perm (fndP f m o) := by
 have := (Zjr (((List.range (o + 1)).flatMap (bfsL m)).filterMap f) [] .nil).2
 rw [List.append_nil] at this
 exact this.trans ((Yc7 m o).symm.filterMap f)
theorem Zfi (f : List Int -> Option Pth) (m o : Nat) : (refL f m o).Pairwise (fun a b => ordP a b <= 0) := (Zjr _ [] .nil).1
theorem Zk1 {f : List Int -> Option Pth} (hf : ∀ L p,f L = some p -> p.ss = L) {m o : Nat} {ys : List Pth} (h1 : ys.Perm (fndP f m o)) (h2 : ys.Pairwise (fun a b => ¬ ordP b a < 0)) : ys = refL f m o := by
 refine Zne (G := fun p => f p.ss = some p) (fun a b ha hb e => ?_) (h1.trans (Zax f m o).symm) (fun a ha => ?_) (h2.imp fun {a b} h => ?_) (Zfi f m o)
 ·rw [e,hb] at ha; cases ha; rfl
 ·have := h1.subset ha
  obtain ⟨L,hL,e⟩ := List.mem_filterMap.1 this
  rw [hf L a e]; exact e
 ·have := Za0 a b; omega
theorem Yh2 (n o : Int) : PCall Tryz.prog 113 [I n,I o] ⟨.func 142 [] [.ipt [I o],.ipt [I n]],[]⟩ := by
 refine PCall.frzFns (rows := [(1,[I n]),(1,[I o])]) (ks := [(1,[I o]),(0,[I n])]) (by
  intro q hq
  simp only [List.mem_cons,List.not_mem_nil,or_false] at hq
  rcases hq with rfl | rfl <;> exact ⟨_,rfl⟩) ?_
 refine bs.pv (sx := nos) Zd Tryz.func113 (by kernel_rfl) (by kernel_rfl) rfl ?_
 repeat' (first | refine wk3 ?_ | (refine wk2 ?_ ?_ <;> intro _) | refine wk4 ?_ | fail); all_goals (conv => whnf)
 exact Xb [0,1] rfl rfl rfl
def wlkB (m : Nat) : Nat -> Nat
 | 0 => 1
 | o + 1 => 1 + m * wlkB m o
theorem Zll {α β : Type} {f : α -> List β} {B : Nat} : ∀ l : List α,(∀ x ∈ l,(f x).length <= B) -> (l.flatMap f).length <= l.length * B
 | [],_ => by simp
 | a :: l,h => by
  have h1 := h a (by simp)
  have h2 := Zll l fun x hx => h x (by simp [hx])
  rw [List.flatMap_cons,List.length_append,List.length_cons,Nat.add_mul,Nat.one_mul]
  omega
theorem Zpp (m : Nat) : ∀ (o : Nat) (L : List Int),(wlk m o L).length <= wlkB m o
 | 0,L => by simp [wlk,wlkB]
 | o + 1,L => by
  have := Zll (f := fun i => if L.getLast? = some i then [] else wlk m o (L ++ [i])) (B := wlkB m o) (rngI 0 m) fun i _ => by
   split
   ·simp
   ·exact Zpp m o _
  rw [wlk,List.length_cons,wlkB]
  have hl : (rngI 0 m).length = m := by simp [rngI]
  rw [hl] at this
  omega
theorem Yam (f : List Int -> Option Pth) {m o : Nat} (hm : m < 900) (ho : o <= 2) : (fndP f m o).length < 900000 := by
 have h1 : (fndP f m o).length <= (wlk m o []).length := List.length_filterMap_le _ _
 have h2 := Zpp m o []
 have h3 : wlkB m o <= 1 + m + m * m := by
  obtain rfl | rfl | rfl : o = 0 \/ o = 1 \/ o = 2 := by omega
  ·simp [wlkB]; omega
  ·simp [wlkB]
  ·simp [wlkB,Nat.mul_add]; omega
 have h4 : m * m <= 899 * 899 := Nat.mul_le_mul (by omega) (by omega)
 omega
theorem Yar {P : Program} {f : FuncId} {fn : Func} (hf : P.funcs[f]? = some fn) (h1 : (fn.name == "runtime.NumGoroutine") = false) (h2 : fn.body.isNone = false) (args : Array Value) (w : World) : (callFunc f args).run P w = .ok (.enter f args) w := by
 have q2' : ¬ fn.name = "runtime.NumGoroutine" := by simpa using h1
 have q3' : ¬ fn.body = none := by intro h; rw [h] at h2; simp at h2
 simp [callFunc,hf,q2',q3']
theorem Yf8 : FnOK Tryz.prog 114 := FnOK.of Tryz.func114 (by kernel_rfl) (by kernel_rfl)
abbrev gcP (p : Pth) : List AV := [.isl 1 (nl p.ss),.isl 4 (p.ps.map hp4),I p.sq]
def Yhq : FuncId -> Bool := fun f => Nat.beq f 114
noncomputable def kAll (h : Hal) (s : Stg) (fx fy fz tx ty tz n : Int) : PC := ins 24 (oneA [h.av,s.av,.agg [I fx,I fy,I fz,I tx,I ty,I tz,I n]] ⟨I 0,[]⟩) (ins 112 (oneA [h.av] ⟨.tup [.isl 1 (sl (surf h)),I 0],[]⟩) (ins 113 (oneA [I (sl (surf h)).length,I n] ⟨.func 142 [] [.ipt [I n],.ipt [I (nsN h : Nat)]],[]⟩) pt0))
set_option maxRecDepth 100000 in
set_option maxHeartbeats 8000000 in
theorem d55 {h : Hal} (hk : h.ok) {s : Stg} (hs : s.few) (hS : SortsK Tryz.prog 114 3) (a : Ask) (e : askE h s a = 0) (hn : a.n < 3) (hN : nsN h < 900) :
  PCall Tryz.prog 55 [h.av,s.av,a.av] ⟨.tup [.isl 3 ((refL (Yq h s (qF a) (qT a)) (nsN h) a.n.toNat).map gcP),I 0],[]⟩ := by
 have A := Xu e
 have he := Zfz A.e0
 have h24 := d24 hk hs a
 rw [e] at h24
 have h112 := c64 hk
 rw [if_pos he,he] at h112
 obtain ⟨fx,fy,fz,tx,ty,tz,n⟩ := a
 dsimp only at hn
 have hkA : PCOK Tryz.prog (kAll h s fx fy fz tx ty tz n) := Zfk h24 (Zfk h112 (Zfk (by rw [<-Zzg]; exact Yh2 _ n) Zd))
 unfold kAll at hkA
 have o1 := Zcn [h.av,s.av,.agg [I fx,I fy,I fz,I tx,I ty,I tz,I n]] ⟨I 0,[]⟩
 have o2 := Zcn [h.av] ⟨.tup [.isl 1 (sl (surf h)),I 0],[]⟩
 have o3 := Zcn [I (sl (surf h)).length,I n] ⟨.func 142 [] [.ipt [I n],.ipt [I (nsN h : Nat)]],[]⟩
 refine PCall.freeze (res := if (refL (Yq h s (fx,fy,fz) (tx,ty,tz)) (nsN h) n.toNat) = [] then ⟨.tup [.nils,I 0],[]⟩ else ⟨.tup [.asl 0 0 (refL (Yq h s (fx,fy,fz) (tx,ty,tz)) (nsN h) n.toNat).length,I 0],[(3,(refL (Yq h s (fx,fy,fz) (tx,ty,tz)) (nsN h) n.toNat).map gcP)]⟩) ?_ ?_
 rotate_left
 ·split <;> rename_i hre
  ·rw [hre]; exact ⟨rfl,⟨rfl,rfl⟩,trivial⟩
  ·refine ⟨⟨rfl,rfl,?_⟩,⟨rfl,rfl⟩,trivial⟩
   exact (List.length_map _).symm
 refine bs.pv (sx := Yhq) hkA Tryz.func55 (by kernel_rfl) (by kernel_rfl) (by split <;> rfl) ?_
 repeat' (first | refine wk3 ?_ | (refine wk2 ?_ ?_ <;> intro _) | refine wk4 ?_ | fail); all_goals (conv => whnf)
 obtain ⟨f,hf⟩ : ∃ f,f = Yq h s (fx,fy,fz) (tx,ty,tz) := ⟨_,rfl⟩
 have hfs : ∀ L p,f L = some p -> p.ss = L := fun L p hp => by rw [hf] at hp; exact Zeg hp
 have hfr : ∀ L : List Int,Wok (nsN h) L 2 -> Zpl Tryz.prog 65 [.agg (stgL h s),.agg [I fx,I fy,I fz,I tx,I ty,I tz,I n],.isl 1 (nl1 L)] (ansP (f L)) := fun L hL => by
  rw [hf]
  exact d65f hk hs e (by have := hL.len; omega) (fun i hi => by have := hL.mem i hi; rw [Zwi] at this; exact this)
 rw [<-hf]
 have hn2 : n.toNat <= 2 := by omega
 have hwok : ∀ L ∈ wlk (nsN h) n.toNat [],Wok (nsN h) L 2 := fun L hL => by
  have := Zrf (nsN h) n.toNat [] 0 ⟨Nat.le_refl _,by simp⟩ L hL
  exact ⟨by have := this.len; omega,this.mem⟩
 have hcnt := Yam f (m := nsN h) (o := n.toNat) hN hn2
 have hit : Zpm Tryz.prog 142 [] [.ipt [I n],.ipt [I (nsN h : Nat)]] (lsX (wlk (nsN h) n.toNat [])) := by
  have hN : nsN h < 1000 := by omega
  have hn0 := A.n.1
  dsimp only at hn0
  obtain rfl | rfl | rfl : n = 0 \/ n = 1 \/ n = 2 := by omega
  ·exact Yei _ hN
  ·exact Yeh _ hN
  ·exact Yeg _ hN
 refine Rg.ren (env2 := [(5,.ptr 2 0 0),(11,.ptr 3 0 0),(12,.ptr 4 0 0),(35,.func 142 [] [.ipt [I n],.ipt [I (nsN h : Nat)]])]) (σ2 := ⟨[(4,.row 11 [stgL h s] true false),(3,.row 1 [[.nils]] true false),(2,.row 7 [[I fx,I fy,I fz,I tx,I ty,I tz,I n]] true false)],5⟩) (Ren.of [] rfl (kps) (kps)) ?_
 refine rngT hit rfl rfl rfl rfl (Zvs (S := Nat × Nat × List (List AV)) (fun t => gz 5 3 t.1 t.2.2 [(4,.row 11 [stgL h s] true false),(3,.row 1 [[gv 5 t.1 t.2.1]] true false),(2,.row 7 [[I fx,I fy,I fz,I tx,I ty,I tz,I n]] true false)]) 5 (fun t => nm2 5 6 t.1)
  (fun xs t => ∃ (Ls : List (List Int)) (ds : List Pth),xs = lsX Ls /\ (∀ L ∈ Ls,Wok (nsN h) L 2) /\ t.1 = ds.length /\ t.2.1 = t.2.2.length /\ t.2.2 = ds.map gcP /\ ds ++ Ls.filterMap f = fndP f (nsN h) n.toNat) ?_ ?_ _ (0,0,[]) ⟨wlk (nsN h) n.toNat [],[],rfl,?_,rfl,rfl,rfl,rfl⟩)
 ·rintro x xs ⟨k,len,els⟩ ⟨Ls,ds,hxs,hok,hkd,hlen,hels,hfd⟩
  dsimp only at hkd hlen hels ⊢
  cases Ls with
  | nil => cases hxs
  | cons L Ls =>
   cases hxs
   refine ⟨⟨rfl,rfl⟩,fun ys hys hsl => ?_⟩
   obtain ⟨y,rfl⟩ : ∃ y,ys = #[y] := by
    obtain ⟨l⟩ := ys
    match l,hys with
    | [y],_ => exact ⟨y,rfl⟩
   obtain ⟨sa,sn,sc,rfl⟩ := hsl 0 _ rfl
   have hr := hfr L (hok L (by simp))
   rw [List.filterMap_cons] at hfd
   have e4 : els.length < 900000 := by
    rw [<-hfd,List.length_append] at hcnt
    rw [hels,List.length_map]; omega
   cases hp : f L with
   | none =>
    rw [hp] at hfd hr
    cases k with
    | zero =>
     refine bs.av (sx := nos) hkA ?_
     conv => whnf
     repeat' (first | refine wk3 ?_ | (refine wk2 ?_ ?_ <;> intro _) | refine wk4 ?_ | fail); all_goals (conv => whnf)
     refine Zeq (Zii (Zcy (Zgl (sx := nos) bs.hT bs.hok hkA) rfl ?_))
     conv => whnf
     repeat' (first | refine wk3 ?_ | (refine wk2 ?_ ?_ <;> intro _) | refine wk4 ?_ | fail); all_goals (conv => whnf)
     refine CtT.mk ⟨[.agg (stgL h s),.agg [I fx,I fy,I fz,I tx,I ty,I tz,I n],.isl 1 (nl1 L)],_,⟨.inl rfl,.inl rfl,.inr ⟨⟨sa,sn,sc,rfl,rfl⟩,rfl⟩,trivial⟩,rfl,hr,?_⟩
     conv => whnf
     repeat' (first | refine wk3 ?_ | (refine wk2 ?_ ?_ <;> intro _) | refine wk4 ?_ | fail); all_goals (conv => whnf)
     refine bs.av (sx := nos) hkA ?_
     conv => whnf
     repeat' (first | refine wk3 ?_ | (refine wk2 ?_ ?_ <;> intro _) | refine wk4 ?_ | fail); all_goals (conv => whnf)
     exact Done.mk ⟨(0,len,els),[],rfl,kps,Ls,ds,rfl,fun L hL => hok L (by simp [hL]),hkd,hlen,hels,hfd⟩
    | succ k =>
     refine bs.av (sx := nos) hkA ?_
     conv => whnf
     repeat' (first | refine wk3 ?_ | (refine wk2 ?_ ?_ <;> intro _) | refine wk4 ?_ | fail); all_goals (conv => whnf)
     refine Zeq (Zii (Zcy (Zgl (sx := nos) bs.hT bs.hok hkA) rfl ?_))
     conv => whnf
     repeat' (first | refine wk3 ?_ | (refine wk2 ?_ ?_ <;> intro _) | refine wk4 ?_ | fail); all_goals (conv => whnf)
     refine CtT.mk ⟨[.agg (stgL h s),.agg [I fx,I fy,I fz,I tx,I ty,I tz,I n],.isl 1 (nl1 L)],_,⟨.inl rfl,.inl rfl,.inr ⟨⟨sa,sn,sc,rfl,rfl⟩,rfl⟩,trivial⟩,rfl,hr,?_⟩
     conv => whnf
     repeat' (first | refine wk3 ?_ | (refine wk2 ?_ ?_ <;> intro _) | refine wk4 ?_ | fail); all_goals (conv => whnf)
     refine bs.av (sx := nos) hkA ?_
     conv => whnf
     repeat' (first | refine wk3 ?_ | (refine wk2 ?_ ?_ <;> intro _) | refine wk4 ?_ | fail); all_goals (conv => whnf)
     exact Done.mk ⟨(k + 1,len,els),[(5,5)],rfl,kps,Ls,ds,rfl,fun L hL => hok L (by simp [hL]),hkd,hlen,hels,hfd⟩
   | some p =>
    rw [hp] at hfd hr
    cases k with
    | zero =>
     refine bs.av (sx := nos) hkA ?_
     conv => whnf
     repeat' (first | refine wk3 ?_ | (refine wk2 ?_ ?_ <;> intro _) | refine wk4 ?_ | fail); all_goals (conv => whnf)
     refine Zeq (Zii (Zcy (Zgl (sx := nos) bs.hT bs.hok hkA) rfl ?_))
     conv => whnf
     repeat' (first | refine wk3 ?_ | (refine wk2 ?_ ?_ <;> intro _) | refine wk4 ?_ | fail); all_goals (conv => whnf)
     refine CtT.mk ⟨[.agg (stgL h s),.agg [I fx,I fy,I fz,I tx,I ty,I tz,I n],.isl 1 (nl1 L)],_,⟨.inl rfl,.inl rfl,.inr ⟨⟨sa,sn,sc,rfl,rfl⟩,rfl⟩,trivial⟩,rfl,hr,?_⟩
     conv => whnf
     repeat' (first | refine wk3 ?_ | (refine wk2 ?_ ?_ <;> intro _) | refine wk4 ?_ | fail); all_goals (conv => whnf)
     refine bs.av (sx := nos) hkA ?_
     conv => whnf
     repeat' (first | refine wk3 ?_ | (refine wk2 ?_ ?_ <;> intro _) | refine wk4 ?_ | fail); all_goals (conv => whnf)
     exact Done.mk ⟨(1,_,_),[(5,7)],rfl,kps,Ls,ds ++ [p],rfl,fun L hL => hok L (by simp [hL]),by rw [List.length_append,<-hkd]; rfl,rfl,by rw [List.length_eq_zero_iff.1 hkd.symm]; rfl,by rw [List.append_assoc]; exact hfd⟩
    | succ k =>
     refine bs.av (sx := nos) hkA ?_
     conv => whnf
     repeat' (first | refine wk3 ?_ | (refine wk2 ?_ ?_ <;> intro _) | refine wk4 ?_ | fail); all_goals (conv => whnf)
     refine Zeq (Zii (Zcy (Zgl (sx := nos) bs.hT bs.hok hkA) rfl ?_))
     conv => whnf
     repeat' (first | refine wk3 ?_ | (refine wk2 ?_ ?_ <;> intro _) | refine wk4 ?_ | fail); all_goals (conv => whnf)
     refine CtT.mk ⟨[.agg (stgL h s),.agg [I fx,I fy,I fz,I tx,I ty,I tz,I n],.isl 1 (nl1 L)],_,⟨.inl rfl,.inl rfl,.inr ⟨⟨sa,sn,sc,rfl,rfl⟩,rfl⟩,trivial⟩,rfl,hr,?_⟩
     conv => whnf
     repeat' (first | refine wk3 ?_ | (refine wk2 ?_ ?_ <;> intro _) | refine wk4 ?_ | fail); all_goals (conv => whnf)
     refine bs.av (sx := nos) hkA ?_
     conv => whnf
     repeat' (first | refine wk3 ?_ | (refine wk2 ?_ ?_ <;> intro _) | refine wk4 ?_ | fail); all_goals (conv => whnf)
     exact Done.mk ⟨(k + 1 + 1,_,_),[(5,8)],rfl,kps,Ls,ds ++ [p],rfl,fun L hL => hok L (by simp [hL]),by rw [List.length_append,<-hkd]; rfl,by exact List.length_append.symm,by rw [List.map_append,<-hels]; rfl,by rw [List.append_assoc]; exact hfd⟩
 ·rintro ⟨k,len,els⟩ ⟨Ls,ds,hxs,hok,hkd,hlen,hels,hfd⟩
  dsimp only at hkd hlen hels ⊢
  cases Ls with
  | cons => cases hxs
  | nil =>
   rw [List.filterMap_nil,List.append_nil] at hfd
   have hds : ∀ d ∈ ds,d.ss.length < 1000000 := fun d hd => by
    rw [hfd] at hd
    obtain ⟨L,hL,hp⟩ := List.mem_filterMap.1 hd
    rw [hfs L d hp]
    have := (hwok L hL).len; omega
   rw [<-hfd] at hcnt
   cases k with
   | zero =>
    obtain rfl : ds = [] := List.length_eq_zero_iff.1 hkd.symm
    have hre : refL f (nsN h) n.toNat = [] := (Zk1 hfs (ys := []) (by rw [<-hfd]) .nil).symm
    rw [hre,if_pos rfl]
    conv => whnf
    repeat' (first | refine wk3 ?_ | (refine wk2 ?_ ?_ <;> intro _) | refine wk4 ?_ | fail); all_goals (conv => whnf)
    refine Zzj Yf8 hS ?_
    conv => whnf
    repeat' (first | refine wk3 ?_ | (refine wk2 ?_ ?_ <;> intro _) | refine wk4 ?_ | fail); all_goals (conv => whnf)
    exact Zg rfl rfl
   | succ k =>
    rw [hels,List.length_map] at hlen
    subst hels hlen
    conv => whnf
    repeat' (first | refine wk3 ?_ | (refine wk2 ?_ ?_ <;> intro _) | refine wk4 ?_ | fail); all_goals (conv => whnf)
    refine Zzi Yf8 hS (by decide) (Yar Tryz.func115 (by kernel_rfl) (by kernel_rfl)) gcP (fun _ => rfl) (fun _ => rfl) (fun _ => rfl) ordP (fun a ha b hb => Zzv (d115 (hds a ha) (hds b hb))) Zz0 (by omega) rfl fun ys hp hs => ?_
    obtain rfl := Zk1 hfs (by rw [<-hfd]; exact hp) hs
    have hyl := hp.length_eq
    generalize refL f (nsN h) n.toNat = ys at *
    rw [if_neg (by intro h0; rw [h0,<-hkd] at hyl; cases hyl)]
    conv => whnf
    repeat' (first | refine wk3 ?_ | (refine wk2 ?_ ?_ <;> intro _) | refine wk4 ?_ | fail); all_goals (conv => whnf)
    exact Xb [5] rfl (by rw [hyl]; rfl) rfl
 ·exact hwok
theorem Zrg {n i : Int} (hi : within i 0 n = true) : ∀ (l : List Int) (q : Option Int),wkG n q l = 0 -> (l.getLast?.or q) ≠ some i -> wkG n q (l ++ [i]) = 0
 | [],q,_,hq => by
  have hq : q ≠ some i := hq
  show wkG n q [i] = 0
  rw [wkG,if_pos hi,if_neg hq]; rfl
 | x :: l,q,h,hq => by
  rw [wkG] at h
  rw [List.cons_append,wkG]
  split at h
  ·rename_i h1
   rw [if_pos h1]
   split at h
   ·cases h
   ·rename_i h2
    rw [if_neg h2]
    refine Zrg hi l (some x) h ?_
    cases l with
    | nil => exact hq
    | cons y l =>
     rw [List.getLast?_cons_cons] at hq
     cases hl : (y :: l).getLast? with
     | none => simp at hl
     | some z => rw [hl] at hq; exact hq
  ·cases h
theorem Zuw (m : Nat) : ∀ (o : Nat) (L : List Int),wkG ((m : Int) - 1) none L = 0 -> ∀ x ∈ wlk m o L,wkG ((m : Int) - 1) none x = 0
 | 0,L,h,x,hx => by
  rw [wlk] at hx
  rw [List.mem_singleton.1 hx]; exact h
 | o + 1,L,h,x,hx => by
  rw [wlk] at hx
  rcases List.mem_cons.1 hx with rfl | hx
  ·exact h
  ·obtain ⟨i,hi,hx⟩ := List.mem_flatMap.1 hx
   split at hx
   ·simp at hx
   ·rename_i hl
    have hr := Zrw hi
    refine Zuw m o (L ++ [i]) (Zrg (within_iff.2 (by omega)) L none h ?_) x hx
    rw [Option.or_none]; exact hl
theorem Zl1 (m : Nat) : ∀ (o : Nat) (L : List Int),∀ x ∈ wlk m o L,∃ t,x = L ++ t
 | 0,L,x,hx => by
  rw [wlk] at hx
  exact ⟨[],by rw [List.mem_singleton.1 hx]; simp⟩
 | o + 1,L,x,hx => by
  rw [wlk] at hx
  rcases List.mem_cons.1 hx with rfl | hx
  ·exact ⟨[],by simp⟩
  ·obtain ⟨i,hi,hx⟩ := List.mem_flatMap.1 hx
   split at hx
   ·simp at hx
   ·obtain ⟨t,rfl⟩ := Zl1 m o _ x hx
    exact ⟨i :: t,by simp⟩
theorem Zts (m : Nat) : (rngI 0 m).Nodup := by
 unfold rngI
 rw [List.Nodup,List.pairwise_map]
 exact (List.pairwise_lt_range' (s := 0) (n := m - 0)).imp fun {a b} h e => by omega
theorem Zm6 (m : Nat) : ∀ (o : Nat) (L : List Int),(wlk m o L).Nodup
 | 0,L => by simp [wlk]
 | o + 1,L => by
  rw [wlk,List.nodup_cons]
  refine ⟨fun h => ?_,?_⟩
  ·obtain ⟨i,hi,hx⟩ := List.mem_flatMap.1 h
   split at hx
   ·simp at hx
   ·obtain ⟨t,e⟩ := Zl1 m o _ _ hx
    have := congrArg List.length e
    simp at this
  ·rw [List.Nodup,List.pairwise_flatMap]
   refine ⟨fun i _ => ?_,(Zts m).imp fun {i j} hij x hx y hy e => ?_⟩
   ·split
    ·exact .nil
    ·exact Zm6 m o _
   ·split at hx
    ·simp at hx
    ·split at hy
     ·simp at hy
     ·obtain ⟨t,e1⟩ := Zl1 m o _ _ hx
      obtain ⟨t',e2⟩ := Zl1 m o _ _ hy
      rw [e1,e2,List.append_assoc,List.append_assoc] at e
      have := List.append_cancel_left e
      simp at this
      exact hij this.1
theorem Zux (m : Nat) : ∀ (l : List Int) (o : Nat) (L : List Int),wkG ((m : Int) - 1) L.getLast? l = 0 -> l.length <= o -> L ++ l ∈ wlk m o L
 | [],o,L,_,_ => by
  rw [List.append_nil]
  cases o <;> simp [wlk]
 | x :: l,0,L,_,ho => by simp at ho
 | x :: l,o + 1,L,h,ho => by
  rw [wkG] at h
  split at h
  ·rename_i h1
   split at h
   ·cases h
   ·rename_i h2
    rw [wlk]
    refine List.mem_cons_of_mem _ (List.mem_flatMap.2 ⟨x,?_,?_⟩)
    ·have := within_iff.1 h1
     unfold rngI
     refine List.mem_map.2 ⟨x.toNat,List.mem_range'_1.2 ⟨Nat.zero_le _,by omega⟩,by omega⟩
    ·rw [if_neg h2]
     have := Zux m l o (L ++ [x]) (by rw [List.getLast?_append]; exact h) (by simpa using ho)
     rwa [List.append_assoc] at this
  ·cases h
theorem Zvk {a b c x y z : Int} (h1 : Near 45000 (a,b,c)) (h2 : Near 5000 (x,y,z)) : sqV a b c x y z = (a - x) * (a - x) + (b - y) * (b - y) + (c - z) * (c - z) /\ sqV a b c x y z <= 24300000000 := by
 obtain ⟨p1,p2,p3⟩ := h1
 obtain ⟨r1,r2,r3⟩ := h2
 dsimp only at p1 p2 p3 r1 r2 r3
 have k : ∀ u v : Int,(-45000 <= u /\ u <= 45000) -> (-5000 <= v /\ v <= 5000) -> IntKind.i64.wrap (u - v) = u - v /\ (0 <= (u - v) * (u - v) /\ (u - v) * (u - v) <= 2500000000) /\ IntKind.i64.wrap (IntKind.i64.wrap (u - v) * IntKind.i64.wrap (u - v)) = (u - v) * (u - v) := fun u v hu hv => by
  have e1 : IntKind.i64.wrap (u - v) = u - v := W_eq (by omega) (by omega)
  have e2 : 0 <= (u - v) * (u - v) /\ (u - v) * (u - v) <= 2500000000 := by
   generalize hd : u - v = d
   have hd1 : -50000 <= d := by omega
   have hd2 : d <= 50000 := by omega
   constructor
   ·rcases Int.le_total 0 d with h | h
    ·exact Int.mul_nonneg h h
    ·have := Int.mul_nonneg (show 0 <= -d by omega) (show 0 <= -d by omega)
     rwa [Int.neg_mul_neg] at this
   ·have := Int.mul_nonneg (show 0 <= 50000 - d by omega) (show 0 <= 50000 + d by omega)
    have e : (50000 - d) * (50000 + d) = 2500000000 - d * d := by rw [Int.mul_add,Int.sub_mul,Int.sub_mul]; omega
    omega
  exact ⟨e1,e2,by rw [e1]; exact W_eq (by omega) (by omega)⟩
 obtain ⟨_,a1,a2⟩ := k a x p1 r1
 obtain ⟨_,b1,b2⟩ := k b y p2 r2
 obtain ⟨_,c1,c2⟩ := k c z p3 r3
 unfold sqV
 rw [a2,b2,c2]
 rw [W_eq (n := (a - x) * (a - x) + (b - y) * (b - y)) (by omega) (by omega),W_eq (by omega) (by omega)]
 exact ⟨rfl,by omega⟩
theorem Zbl {d : Int} (h : d ≠ 0) : 1 <= d * d := by
 rcases Int.lt_trichotomy d 0 with h1 | h1 | h1
 ·have := Int.mul_le_mul (show (1 : Int) <= -d by omega) (show (1 : Int) <= -d by omega) (by omega) (by omega)
  rw [Int.neg_mul_neg] at this; omega
 ·exact absurd h1 h
 ·have := Int.mul_le_mul (show (1 : Int) <= d by omega) (show (1 : Int) <= d by omega) (by omega) (by omega)
  omega
theorem Zl7 (d : Int) : 0 <= d * d := by
 by_cases h : d = 0
 ·subst h; omega
 ·have := Zbl h; omega
theorem Yhp {a b c x y z : Int} (h : ¬ (a = x /\ b = y /\ c = z)) : 1 <= (a - x) * (a - x) + (b - y) * (b - y) + (c - z) * (c - z) := by
 have h1 := Zl7 (a - x)
 have h2 := Zl7 (b - y)
 have h3 := Zl7 (c - z)
 by_cases e1 : a = x
 ·by_cases e2 : b = y
  ·have := Zbl (d := c - z) (by intro k; exact h ⟨e1,e2,by omega⟩); omega
  ·have := Zbl (d := b - y) (by omega); omega
 ·have := Zbl (d := a - x) (by omega); omega
theorem Yfm (x : Int) : 0 <= sgn x * sgn x := Zl7 _
theorem Zzz {h : Hal} {s : Stg} (g : Sit h s) (e0 : serr h s = 0) {q0 q1 : Pl3} (hf : Near 5000 q0) (ht : Near 5000 q1) (hne : q0 ≠ q1) {ns : List Int} (hl : ns.length <= 4) (hi : ∀ n ∈ ns,0 <= n /\ n < nsur h) {p : Pth} (e : Yq h s q0 q1 ns = some p) : 1 <= p.sq /\ p.sq <= 24300000000 := by
 have hn := Zmq g hf hl (Yfl hi) ns.length (Nat.le_refl _)
 have hn : Near 45000 (imA (im1 h s) q0 ns ns.length) := Zo (by omega) hn
 have hs : imA (im1 h s) q0 ns ns.length ≠ q1 := by
  intro hq
  rw [Zbk] at e
  by_cases h0 : ns = []
  ·subst h0
   exact hne hq
  ·have hp : 0 < ns.length := List.length_pos_iff.2 h0
   have ht2 := Zmo (f := im1 h s) (q := q0) (ns := ns) (k := ns.length - 1) (by omega)
   rw [show ns.length - 1 + 1 = ns.length by omega,List.take_of_length_le (by rw [Zao]; exact Nat.le_refl _)] at ht2
   rw [ht2,goP,hq] at e
   have hc := Zj4 g e0 (hi _ (List.getElem_mem (show ns.length - 1 < ns.length by omega))) (q := q1) (Zo (by omega) ht) (to := pnt q1) (Zds ht)
   have hz : (fP h s (ns[ns.length - 1]'(by omega)) q1 (pnt q1)).2 ≠ 0 := by
    show (crsA h s ⟨_,q1.1,q1.2.1,q1.2.2,pnt q1⟩).2 ≠ 0
    rw [hc.2.2.1]
    unfold Zal
    have : crF (Ze h s (ns[ns.length - 1]'(by omega))) ⟨ns[ns.length - 1]'(by omega),q1.1,q1.2.1,q1.2.2,pnt q1⟩ = crG (Ze h s (ns[ns.length - 1]'(by omega))) ⟨ns[ns.length - 1]'(by omega),q1.1,q1.2.1,q1.2.2,pnt q1⟩ := by
     unfold crF crG pnt
     dsimp only
     rw [Int.mul_one]
    rw [this,if_pos (Yfm _)]
    show (12 : Int) ≠ 0
    decide
   rw [if_neg hz] at e
   cases e
 rw [Zbk] at e
 split at e
 ·cases e
 ·split at e
  ·cases e
   obtain ⟨r1,r2⟩ := Zvk (a := (imA (im1 h s) q0 ns ns.length).1) (b := (imA (im1 h s) q0 ns ns.length).2.1) (c := (imA (im1 h s) q0 ns ns.length).2.2) (x := q1.1) (y := q1.2.1) (z := q1.2.2) hn ht
   dsimp only
   refine ⟨?_,r2⟩
   rw [r1]
   refine Yhp ?_
   rintro ⟨k1,k2,k3⟩
   exact hs (Prod.ext k1 (Prod.ext k2 k3))
  ·cases e
theorem Yaq (l : List Pt4) : eqP l l = true := by
 have := Znk ⟨[],l,0⟩
 unfold same at this
 simp only [Bool.and_eq_true] at this
 exact this.2.2
theorem Zv8 {a b : Pth} (h : ordP a b <= 0) : a.sq <= b.sq := by
 rw [Zdu] at h
 unfold ordK at h
 rw [cmpL] at h
 rcases Vq a.sq b.sq with ⟨h1,e⟩ | ⟨h1,e⟩ | ⟨h1,e⟩
 ·omega
 ·omega
 ·rw [e,if_neg (by decide)] at h; omega
theorem Yhj {a : Ask} (h : a.same = false) : qF a ≠ qT a := by
 intro e
 have e1 : a.fx = a.tx := congrArg (·.1) e
 have e2 : a.fy = a.ty := congrArg (·.2.1) e
 have e3 : a.fz = a.tz := congrArg (·.2.2) e
 unfold Ask.same at h
 simp [e1,e2,e3] at h
theorem Yfi {h : Hal} {l : List Int} (hl : l.length <= 4) (hw : wkG ((nsN h : Int) - 1) none l = 0) : suE h l = 0 := by
 unfold suE
 rw [if_neg (by omega),<-Zwi]
 exact hw
theorem Zi4 {h : Hal} (hk : h.ok) {s : Stg} (hs : s.few) {a : Ask} (e : askE h s a = 0) (hn : a.n < 3) {p : Pth} (hp : p ∈ refL (Yq h s (qF a) (qT a)) (nsN h) a.n.toNat) :
  Yq h s (qF a) (qT a) p.ss = some p /\ suE h p.ss = 0 /\ p.ss.length <= 2 /\ p.ps.length <= 2 /\ cpE h s a p = 0 := by
 have A := Xu e
 have hn0 := A.n
 have h1 := (Zax _ _ _).subset hp
 obtain ⟨L,hL,hf⟩ := List.mem_filterMap.1 h1
 obtain rfl := Zeg hf
 have hw := Zrf (nsN h) a.n.toNat [] 0 ⟨Nat.le_refl _,by simp⟩ _ hL
 have hg := Zuw (nsN h) a.n.toNat [] rfl _ hL
 have hl : p.ss.length <= a.n.toNat := by have := hw.len; omega
 have hsu := Yfi (by omega) hg
 have hps := Zr4 hf
 have hi := (Zrp hsu).2
 have hsq := Zzz (Zk2 hk hs A.e0) A.e0 A.f A.t (Yhj A.ne) (by omega) hi hf
 refine ⟨hf,hsu,by omega,by omega,?_⟩
 unfold cpE pthE
 rw [if_pos (show (if (p.ps.length : Int) = p.ss.length then (if 4 < (p.ss.length : Int) then 8 else (if within p.sq 1 24300000000 then 0 else 2)) else 10) = (0 : Int) by
  rw [if_pos (by omega),if_neg (by omega),if_pos (within_iff.2 hsq)]),if_pos hsu,if_pos (by omega)]
 unfold chkP
 rw [hf]
 dsimp only
 rw [if_pos ⟨rfl,Yaq _⟩]
theorem Yga {h : Hal} (hk : h.ok) {s : Stg} (e : serr h s = 0) : nsN h <= 18 := by
 have := (Zjt hk (Zfz e)).le
 unfold nsN; omega
theorem Ydo (f : List Int -> Option Pth) {m o : Nat} (hm : m <= 18) (ho : o <= 2) : (refL f m o).length <= 343 := by
 rw [(Zax f m o).length_eq]
 have h1 : (fndP f m o).length <= (wlk m o []).length := List.length_filterMap_le _ _
 have h2 := Zpp m o []
 have h3 : wlkB m o <= 1 + m + m * m := by
  obtain rfl | rfl | rfl : o = 0 \/ o = 1 \/ o = 2 := by omega
  ·simp [wlkB]; omega
  ·simp [wlkB]
  ·simp [wlkB,Nat.mul_add]; omega
 have h4 : m * m <= 18 * 18 := Nat.mul_le_mul hm hm
 omega
theorem Zyx {h : Hal} (g : h.fine) {p q : Pt} (hp : PtR p) (hq : PtR q) : (wls h.cs).any (touP p q) = true ↔ ∃ w ∈ wls h.cs,∃ n sx sy,Str w n sx sy /\ Uc w n sx sy p.pl q.pl := by
 rw [List.any_eq_true]
 constructor
 ·rintro ⟨w,hw,ht⟩
  obtain ⟨n,sx,sy,hs⟩ := Zab g.st w hw
  exact ⟨w,hw,n,sx,sy,hs,(Zec hs hp hq).1 ht⟩
 ·rintro ⟨w,hw,n,sx,sy,hs,hm⟩
  exact ⟨w,hw,(Zec hs hp hq).2 hm⟩
theorem Zm3 {h : Hal} {s : Stg} (g : Sit h s) {p q : Pt} (hp : PtH p) (hq : PtH q) : ∀ (l : List Can) (j : Nat),h.ks.drop j = l -> (blkA h s p q j l = true ↔ ∃ i,∃ hi : i < h.ks.length,j <= i /\ blkS h.ks[i].rc (Zcr h s i) p q)
 | [],j,hl => by
  have hj : h.ks.length <= j := by
   rcases Nat.lt_or_ge j h.ks.length with hj | hj
   ·rw [List.drop_eq_getElem_cons hj] at hl; cases hl
   ·exact hj
  rw [blkA]
  constructor
  ·intro h; cases h
  ·rintro ⟨i,hi,h1,_⟩; omega
 | c :: l,j,hl => by
  have hj : j < h.ks.length := by
   rcases Nat.lt_or_ge j h.ks.length with hj | hj
   ·exact hj
   ·rw [List.drop_of_length_le hj] at hl; cases hl
  rw [List.drop_eq_getElem_cons hj] at hl
  simp only [List.cons.injEq] at hl
  obtain ⟨rfl,hl⟩ := hl
  have hb := Zsk g hj
  have ht := g.fine.ht
  rw [blkA,Bool.or_eq_true,Zm3 g hp hq l (j + 1) hl,Ya8 (Zp5 (Zhm g.fine hj).1) ⟨by omega,by omega⟩ hp hq]
  constructor
  ·rintro (h1 | ⟨i,hi,h1,h2⟩)
   ·exact ⟨j,hj,Nat.le_refl _,h1⟩
   ·exact ⟨i,hi,by omega,h2⟩
  ·rintro ⟨i,hi,h1,h2⟩
   by_cases e : i = j
   ·subst e; exact .inl h2
   ·exact .inr ⟨i,hi,by omega,h2⟩
structure Free (h : Hal) (s : Stg) (p q : Pt) : Prop where
 z : zBad h p q = false
 w : ∀ w ∈ wls h.cs,∀ n sx sy,Str w n sx sy -> ¬ Uc w n sx sy p.pl q.pl
 m : Ye h (midX p q) (midY p q) (midD p q) = true
 k : ∀ i (hi : i < h.ks.length),¬ blkS h.ks[i].rc (Zcr h s i) p q
theorem Zsp {h : Hal} {s : Stg} (g : Sit h s) {p q : Pt} (hp : PtH p) (hq : PtH q) : Zd2 h s p q = true ↔ Free h s p q := by
 unfold Zd2
 rw [Bool.and_eq_true,Bool.and_eq_true,Bool.and_eq_true,Bool.not_eq_true',Bool.not_eq_true',Bool.not_eq_true']
 constructor
 ·rintro ⟨h1,h2,h3,h4⟩
  refine ⟨h1,fun w hw n sx sy hs hm => ?_,h3,fun i hi hb => ?_⟩
  ·have := (Zyx g.fine hp.r hq.r).2 ⟨w,hw,n,sx,sy,hs,hm⟩
   rw [h2] at this; cases this
  ·have := (Zm3 g hp hq h.ks 0 rfl).2 ⟨i,hi,Nat.zero_le _,hb⟩
   rw [h4] at this; cases this
 ·rintro ⟨h1,h2,h3,h4⟩
  refine ⟨h1,?_,h3,?_⟩
  ·rw [Bool.eq_false_iff]
   intro hh
   obtain ⟨w,hw,n,sx,sy,hs,hm⟩ := (Zyx g.fine hp.r hq.r).1 hh
   exact h2 w hw n sx sy hs hm
  ·rw [Bool.eq_false_iff]
   intro hh
   obtain ⟨i,hi,_,hb⟩ := (Zm3 g hp hq h.ks 0 rfl).1 hh
   exact h4 i hi hb
theorem Zuu (h : Hal) (p q : Pt) : zBad h p q = zBad h q p := by
 unfold zBad
 generalize decide (p.z = 0) = a
 generalize decide (q.z = 0) = b
 generalize decide (p.z = IntKind.i64.wrap (h.ht * p.d)) = c
 generalize decide (q.z = IntKind.i64.wrap (h.ht * q.d)) = d
 generalize decide (p.z < 0) = e
 generalize decide (q.z < 0) = f
 generalize decide (IntKind.i64.wrap (h.ht * p.d) < p.z) = x
 generalize decide (IntKind.i64.wrap (h.ht * q.d) < q.z) = y
 revert a b c d e f x y
 decide
theorem Zz5 {p q : Pt} (hp : PtR p) (hq : PtR q) : midX p q = midX q p /\ midY p q = midY q p /\ midD p q = midD q p := by
 obtain ⟨e1,e2,e3⟩ := Zwk hp hq
 obtain ⟨g1,g2,g3⟩ := Zwk hq hp
 rw [e1,e2,e3,g1,g2,g3]
 refine ⟨Int.add_comm _ _,Int.add_comm _ _,by grind⟩
theorem Free.back {h : Hal} {s : Stg} {p q : Pt} (hp : PtR p) (hq : PtR q) (f : Free h s p q) : Free h s q p := by
 obtain ⟨h1,h2,h3,h4⟩ := f
 obtain ⟨e1,e2,e3⟩ := Zz5 hp hq
 refine ⟨by rw [<-Zuu]; exact h1,fun w hw n sx sy hs hm => h2 w hw n sx sy hs (meetW_swap.1 hm),by rw [<-e1,<-e2,<-e3]; exact h3,fun i hi hb => h4 i hi (blkS_swap.1 hb)⟩
theorem Yf4 {p q : Pt} (hp : 0 < p.d) (hq : 0 < q.d) (gp : g4 p = 1) (gq : g4 q = 1) (hx : p.x * q.d = q.x * p.d) (hy : p.y * q.d = q.y * p.d) (hz : p.z * q.d = q.z * p.d) : p.d = q.d := by
 have key : ∀ p q : Pt,g4 p = 1 -> p.x * q.d = q.x * p.d -> p.y * q.d = q.y * p.d -> p.z * q.d = q.z * p.d -> p.d.natAbs ∣ q.d.natAbs := by
  intro p q gp hx hy hz
  have h1 : p.d.natAbs ∣ p.x.natAbs * q.d.natAbs := by rw [<-Int.natAbs_mul,hx,Int.natAbs_mul]; exact Nat.dvd_mul_left _ _
  have h2 : p.d.natAbs ∣ p.y.natAbs * q.d.natAbs := by rw [<-Int.natAbs_mul,hy,Int.natAbs_mul]; exact Nat.dvd_mul_left _ _
  have h3 : p.d.natAbs ∣ p.z.natAbs * q.d.natAbs := by rw [<-Int.natAbs_mul,hz,Int.natAbs_mul]; exact Nat.dvd_mul_left _ _
  have h4 : p.d.natAbs ∣ p.d.natAbs * q.d.natAbs := Nat.dvd_mul_right _ _
  have h5 := Nat.dvd_gcd (Nat.dvd_gcd h1 h2) (Nat.dvd_gcd h3 h4)
  rw [Nat.gcd_mul_right,Nat.gcd_mul_right,Nat.gcd_mul_right] at h5
  change p.d.natAbs ∣ g4 p * q.d.natAbs at h5
  rwa [gp,Nat.one_mul] at h5
 have a := key p q gp hx hy hz
 have b := key q p gq hx.symm hy.symm hz.symm
 have := Nat.dvd_antisymm a b
 omega
theorem Zr2 {p q : Pt} : ptEq p q = true ↔ p = q := by
 obtain ⟨a,b,c,d⟩ := p
 obtain ⟨x,y,z,w⟩ := q
 unfold ptEq
 simp only [Bool.and_eq_true,decide_eq_true_eq,Pt.mk.injEq,and_assoc]
theorem Zv2 (p q : Pt) : ptEq p q = ptEq q p := by
 rw [Bool.eq_iff_iff,Zr2,Zr2]
 exact ⟨Eq.symm,Eq.symm⟩
theorem Zu2 {h : Hal} {s : Stg} {p q : Pt} (he : wayE h s p q = 0) : serr h s = 0 /\ Yv p = 0 /\ Yv q = 0 /\ ptEq p q = false := by
 unfold wayE at he
 split at he
 ·rename_i h1
  split at he
  ·rename_i h2
   split at he
   ·rename_i h3
    split at he
    ·cases he
    ·rename_i h4
     exact ⟨h1,h2,h3,by simpa using h4⟩
   ·rename_i h3; exact absurd he h3
  ·rename_i h2; exact absurd he h2
 ·rename_i h1; exact absurd he h1
theorem Ydb {h : Hal} {s : Stg} {p q : Pt} (h1 : serr h s = 0) (h2 : Yv p = 0) (h3 : Yv q = 0) (h4 : ptEq p q = false) : wayE h s p q = 0 := by
 unfold wayE
 rw [if_pos h1,if_pos h2,if_pos h3,h4]; rfl
def cmb (p q : Pt) (u v : Int) : Pt := ⟨p.x * u + q.x * v,p.y * u + q.y * v,p.z * u + q.z * v,p.d * u + q.d * v⟩
def scl (p : Pt) (w : Int) : Pt := ⟨p.x * w,p.y * w,p.z * w,p.d * w⟩
def mU (pl : Int × Int) (p : Pt) : Pt :=
 if pl.1 = 0 then ⟨2 * pl.2 * p.d - p.x,p.y,p.z,p.d⟩ else if pl.1 = 1 then ⟨p.x,2 * pl.2 * p.d - p.y,p.z,p.d⟩ else if pl.1 = 2 then ⟨p.x,p.y,2 * pl.2 * p.d - p.z,p.d⟩ else if pl.1 = 3 then ⟨pl.2 * p.d - p.y,pl.2 * p.d - p.x,p.z,p.d⟩ else ⟨p.y + pl.2 * p.d,p.x - pl.2 * p.d,p.z,p.d⟩
def vl (pl : Int × Int) (p : Pt) : Int := valN pl.1 p.x p.y p.z - pl.2 * p.d
theorem Zbi {p q : Pt} (h1 : p.x = q.x) (h2 : p.y = q.y) (h3 : p.z = q.z) (h4 : p.d = q.d) : p = q := by
 obtain ⟨a,b,c,d⟩ := p
 obtain ⟨x,y,z,w⟩ := q
 dsimp only at *
 subst h1 h2 h3 h4
 rfl
theorem Yb5 (pl : Int × Int) (p q : Pt) (u v : Int) : mU pl (cmb p q u v) = cmb (mU pl p) (mU pl q) u v := by
 unfold mU cmb
 repeat' split
 all_goals (refine Zbi ?_ ?_ ?_ ?_ <;> dsimp only <;> grind)
theorem Yb3 (pl : Int × Int) (p : Pt) (w : Int) : mU pl (scl p w) = scl (mU pl p) w := by
 unfold mU scl
 repeat' split
 all_goals (refine Zbi ?_ ?_ ?_ ?_ <;> dsimp only <;> grind)
theorem Zt2 (pl : Int × Int) (p : Pt) : mU pl (mU pl p) = p := by
 unfold mU
 repeat' split
 all_goals (refine Zbi ?_ ?_ ?_ ?_ <;> dsimp only <;> grind)
theorem Yb4 {pl : Int × Int} (hk : 0 <= pl.1 /\ pl.1 <= 4) {p : Pt} (h : vl pl p = 0) : mU pl p = p := by
 unfold vl valN at h
 unfold mU
 repeat' split at h
 all_goals simp only [*] at *
 all_goals (refine Zbi ?_ ?_ ?_ ?_ <;> simp <;> grind)
theorem Yde {pl : Int × Int} (hk : 0 <= pl.1 /\ pl.1 <= 4) (p : Pt) : vl pl (mU pl p) = -vl pl p := by
 have : pl.1 = 0 \/ pl.1 = 1 \/ pl.1 = 2 \/ pl.1 = 3 \/ pl.1 = 4 := by omega
 unfold vl valN mU
 rcases this with e | e | e | e | e <;> rw [e] <;> simp <;> grind
theorem Zu8 (pl : Int × Int) (p q : Pt) (u v : Int) : vl pl (cmb p q u v) = vl pl p * u + vl pl q * v := by
 unfold vl cmb
 dsimp only
 rw [Zrm]
 grind
theorem Zu7 (pl : Int × Int) (p : Pt) (w : Int) : vl pl (scl p w) = vl pl p * w := by
 unfold vl scl
 dsimp only
 rw [Zrl]
 grind
def dst2 (p q : Pt) : Int := (p.x - q.x) * (p.x - q.x) + (p.y - q.y) * (p.y - q.y) + (p.z - q.z) * (p.z - q.z)
theorem Zq0 (pl : Int × Int) {p q : Pt} (h : p.d = q.d) : dst2 (mU pl p) (mU pl q) = dst2 p q := by
 unfold dst2 mU
 repeat' split
 all_goals (dsimp only; rw [h]; grind)
theorem Zj3 (p q : Pt) : dst2 p q = dst2 q p := by unfold dst2; grind
theorem mU_d (pl : Int × Int) (p : Pt) : (mU pl p).d = p.d := by
 unfold mU
 repeat' split
 all_goals rfl
theorem Zad {h : Hal} {s : Stg} (g : Sit h s) {n : Int} (hi : SK h n) {q : Pl3} (hq : Near 35000 q) : pnt (im1 h s n q) = mU (Ze h s n) (pnt q) := by
 obtain ⟨b1,b2⟩ := Zcl g hi
 obtain ⟨x,y,z⟩ := q
 obtain ⟨hx,hy,hz⟩ := hq
 dsimp only at hx hy hz
 unfold im1 mU pnt rmir
 generalize Ze h s n = pl at *
 obtain ⟨k,a⟩ := pl
 dsimp only at *
 repeat' split
 all_goals (refine Zbi ?_ ?_ ?_ ?_ <;> dsimp only)
 all_goals (try (rw [W_eq (n := 2 * a) (by omega) (by omega)]))
 all_goals (try (rw [W_eq (by omega) (by omega)]))
 all_goals (try omega)
theorem Zmy (n : Int) (f : Pl3) (to : Pt) (u v : Int) : crPt ⟨n,f.1,f.2.1,f.2.2,to⟩ u v = cmb (pnt f) to u v := by
 unfold crPt cmb pnt
 dsimp only
 rw [Int.one_mul]
theorem Zs0 (pl : Int × Int) (n : Int) (f : Pl3) (to : Pt) : crF pl ⟨n,f.1,f.2.1,f.2.2,to⟩ = vl pl (pnt f) := by
 unfold crF vl pnt
 dsimp only
 rw [Int.mul_one]
theorem Zsz (pl : Int × Int) (n : Int) (f : Pl3) (to : Pt) : crG pl ⟨n,f.1,f.2.1,f.2.2,to⟩ = vl pl to := rfl
structure Xing (h : Hal) (n : Int) (pl : Int × Int) (f to P : Pt) : Prop where
 err : Yv P = 0
 on : vl pl P = 0
 well : Zh6 h n P = true
 ends : vl pl f ≠ 0 /\ vl pl to ≠ 0
 btw : ∃ u v w,0 < u /\ 0 < v /\ 0 < w /\ cmb f to u v = scl P w
theorem Zq4 {h : Hal} {s : Stg} (g : Sit h s) (e0 : serr h s = 0) {n : Int} (hn : 0 <= n /\ n < nsur h) {f : Pl3} (hf : Near 45000 f) {to : Pt} (hto : Yv to = 0) (hz : (crsA h s ⟨n,f.1,f.2.1,f.2.2,to⟩).2 = 0) :
  Xing h n (Ze h s n) (pnt f) to (crsA h s ⟨n,f.1,f.2.1,f.2.2,to⟩).1 := by
 obtain ⟨ho,hi,hA,hX⟩ := Zj4 g e0 hn hf hto
 obtain ⟨x1,x2⟩ := hX hz
 rw [hA] at hz x1 x2 ⊢
 unfold Zal at hz x1 x2 ⊢
 split at hz
 ·cases hz
 ·rename_i hs
  split at hz
  ·rename_i hw
   split at hz
   ·cases hz
   ·rename_i hd
    rw [if_neg hs,if_pos hw,if_neg hd] at x1 x2 ⊢
    dsimp only at x1 x2 ⊢
    obtain ⟨⟨a1,a2⟩,b1,b2⟩ := Zre ho hs
    obtain ⟨⟨g1,_⟩,_,_,r1,r2,r3,r4⟩ := Zbh (Za8 ho hs)
    have h3 := sgn_mul_neg.1 (show sgn (crF (Ze h s n) ⟨n,f.1,f.2.1,f.2.2,to⟩) * sgn (crG (Ze h s n) ⟨n,f.1,f.2.1,f.2.2,to⟩) < 0 by omega)
    rw [Zs0,Zsz] at h3
    refine ⟨x1,by unfold vl; omega,hw,by omega,_,_,_,a1,b1,g1,?_⟩
    rw [<-Zmy n]
    exact (Zbi r1 r2 r3 r4).symm
  ·cases hz
theorem Ygb {p q : Pt} (hp : 0 < p.d) (hq : 0 < q.d) (gp : g4 p = 1) (gq : g4 q = 1) {a b : Int} (ha : 0 < a) (h : scl p a = scl q b) : p = q := by
 have hx : p.x * a = q.x * b := congrArg Pt.x h
 have hy : p.y * a = q.y * b := congrArg Pt.y h
 have hz : p.z * a = q.z * b := congrArg Pt.z h
 have hd : p.d * a = q.d * b := congrArg Pt.d h
 have k : ∀ {x y : Int},x * a = y * b -> x * q.d = y * p.d := fun {x y} e => by
  refine Int.eq_of_mul_eq_mul_right (show a ≠ 0 by omega) ?_
  have : x * q.d * a = (x * a) * q.d := by grind
  rw [this,e]
  have : y * p.d * a = y * (p.d * a) := by grind
  rw [this,hd]; grind
 have e := Yf4 hp hq gp gq (k hx) (k hy) (k hz)
 have k2 : ∀ {x y : Int},x * a = y * b -> x = y := fun {x y} e2 => by
  have := k e2
  rw [e] at this
  exact Int.eq_of_mul_eq_mul_right (show q.d ≠ 0 by omega) this
 exact Zbi (k2 hx) (k2 hy) (k2 hz) e
theorem Zx4 {h : Hal} {s : Stg} (g : Sit h s) (e0 : serr h s = 0) {n : Int} (hn : 0 <= n /\ n < nsur h) {f : Pl3} (hf : Near 45000 f) {to : Pt} (hto : Yv to = 0) {P : Pt} (hX : Xing h n (Ze h s n) (pnt f) to P) :
  crsA h s ⟨n,f.1,f.2.1,f.2.2,to⟩ = (P,0) := by
 obtain ⟨ho,hi,hA,_⟩ := Zj4 g e0 hn hf hto
 obtain ⟨he,hon,hw,⟨k1,k2⟩,u,v,w,u0,v0,w0,hb⟩ := hX
 obtain ⟨p1,p2,p3,_⟩ := Zby he
 have hsum : vl (Ze h s n) (pnt f) * u + vl (Ze h s n) to * v = 0 := by
  rw [<-Zu8,hb,Zu7,hon,Int.zero_mul]
 have hop : (vl (Ze h s n) (pnt f) < 0 /\ 0 < vl (Ze h s n) to) \/ (0 < vl (Ze h s n) (pnt f) /\ vl (Ze h s n) to < 0) := by
  rcases Int.lt_trichotomy (vl (Ze h s n) (pnt f)) 0 with c | c | c
  ·left
   refine ⟨c,?_⟩
   have := Int.mul_pos (show 0 < -vl (Ze h s n) (pnt f) by omega) u0
   rw [Int.neg_mul] at this
   rcases Int.lt_or_le 0 (vl (Ze h s n) to) with d | d
   ·exact d
   ·have := Int.mul_nonneg (show 0 <= -vl (Ze h s n) to by omega) (Int.le_of_lt v0)
    rw [Int.neg_mul] at this
    omega
  ·exact absurd c k1
  ·right
   refine ⟨c,?_⟩
   have := Int.mul_pos c u0
   rcases Int.lt_or_le (vl (Ze h s n) to) 0 with d | d
   ·exact d
   ·have := Int.mul_nonneg d (Int.le_of_lt v0)
    omega
 have hs : ¬ 0 <= sgn (crF (Ze h s n) ⟨n,f.1,f.2.1,f.2.2,to⟩) * sgn (crG (Ze h s n) ⟨n,f.1,f.2.1,f.2.2,to⟩) := by
  rw [Zs0,Zsz]
  exact Int.not_le.2 (sgn_mul_neg.2 hop)
 have hbig := Za8 ho hs
 obtain ⟨⟨g1,_⟩,_,hb3,r1,r2,r3,r4⟩ := Zbh hbig
 have hg := Ycn hbig
 have hP : Xy (Ze h s n) ⟨n,f.1,f.2.1,f.2.2,to⟩ = P := by
  rw [Zmy,Zs0,Zsz] at *
  have hr : scl (redP (cmb (pnt f) to (iabs (vl (Ze h s n) to)) (iabs (vl (Ze h s n) (pnt f))))) (g4 (cmb (pnt f) to (iabs (vl (Ze h s n) to)) (iabs (vl (Ze h s n) (pnt f))))) = cmb (pnt f) to (iabs (vl (Ze h s n) to)) (iabs (vl (Ze h s n) (pnt f))) := Zbi r1 r2 r3 r4
  have hab : iabs (vl (Ze h s n) (pnt f)) * u = iabs (vl (Ze h s n) to) * v /\ 0 < iabs (vl (Ze h s n) (pnt f)) := by
   unfold iabs
   rcases hop with ⟨c,d⟩ | ⟨c,d⟩
   ·rw [if_pos c,if_neg (by omega)]
    refine ⟨?_,by omega⟩
    rw [Int.neg_mul]; omega
   ·rw [if_neg (by omega),if_pos d]
    refine ⟨?_,by omega⟩
    rw [Int.neg_mul]; omega
  unfold Xy
  rw [Zmy,Zs0,Zsz]
  generalize iabs (vl (Ze h s n) (pnt f)) = β at *
  generalize iabs (vl (Ze h s n) to) = α at *
  refine (Ygb p1 hb3.d.1 p3 hg (a := w * β) (b := v * (g4 (cmb (pnt f) to α β) : Int)) (Int.mul_pos w0 hab.2) ?_).symm
  have e1 : scl P (w * β) = scl (scl P w) β := by unfold scl; refine Zbi ?_ ?_ ?_ ?_ <;> dsimp only <;> grind
  have e2 : ∀ (Q : Pt) (x y : Int),scl Q (x * y) = scl (scl Q y) x := fun Q x y => by unfold scl; refine Zbi ?_ ?_ ?_ ?_ <;> dsimp only <;> grind
  rw [e1,e2,hr,<-hb]
  unfold scl cmb
  have := hab.1
  refine Zbi ?_ ?_ ?_ ?_ <;> dsimp only <;> grind
 rw [hA]
 unfold Zal
 rw [if_neg hs,hP,if_pos hw,if_neg (by omega)]
theorem Zg0 {h : Hal} {s : Stg} (g : Sit h s) {p q : Pt} (hw : wP h s p q = true) : wP h s q p = true := by
 unfold wP at hw ⊢
 rw [Bool.and_eq_true,decide_eq_true_eq] at hw ⊢
 obtain ⟨h1,h2,h3,h4⟩ := Zu2 hw.1
 have hp := Yb0 h2
 have hq := Yb0 h3
 exact ⟨Ydb h1 h3 h2 (by rw [Zv2]; exact h4),(Zsp g hq hp).2 (((Zsp g hp hq).1 hw.2).back hp.r hq.r)⟩
theorem Xing.back {h : Hal} {n : Int} {pl : Int × Int} (hk : 0 <= pl.1 /\ pl.1 <= 4) {f to P : Pt} (X : Xing h n pl f to P) : Xing h n pl (mU pl to) (mU pl f) P := by
 obtain ⟨he,hon,hw,⟨k1,k2⟩,u,v,w,u0,v0,w0,hb⟩ := X
 refine ⟨he,hon,hw,⟨by rw [Yde hk]; omega,by rw [Yde hk]; omega⟩,v,u,w,v0,u0,w0,?_⟩
 have := congrArg (mU pl) hb
 rw [Yb5,Yb3,Yb4 hk hon] at this
 rw [<-this]
 unfold cmb
 refine Zbi ?_ ?_ ?_ ?_ <;> dsimp only <;> grind
theorem Zz7 {b E Q P u v w u' v' w' : Int} (h1 : b * u + E * v = Q * w) (h2 : b * u' + Q * v' = P * w') : E * (v * u') + P * (u * w') = Q * (w * u' + u * v') := by
 have a : E * v = Q * w - b * u := by omega
 have e1 : E * (v * u') = (E * v) * u' := by rw [Int.mul_assoc]
 have e2 : P * (u * w') = (P * w') * u := by rw [Int.mul_assoc,Int.mul_comm u]
 rw [e1,e2,<-h2,a]
 clear h1 h2 a e1 e2
 grind
theorem Xing.far {h : Hal} {n m : Int} {pl pm : Int × Int} (hk : 0 <= pl.1 /\ pl.1 <= 4) (hm : 0 <= pm.1 /\ pm.1 <= 4) {b d P Q : Pt} (XQ : Xing h m pm (mU pm b) d Q) (XP : Xing h n pl b Q P) :
  Xing h n pl (mU pl (mU pm d)) (mU pl b) P /\ Xing h m pm (mU pm d) P Q := by
 obtain ⟨he,hon,hw,⟨k1,k2⟩,u,v,w,u0,v0,w0,hb⟩ := XQ
 obtain ⟨he',hon',hw',⟨l1,l2⟩,u',v',w',u0',v0',w0',hb'⟩ := XP
 have hb2 := congrArg (mU pm) hb
 rw [Yb5,Yb3,Yb4 hm hon,Zt2] at hb2
 have hbx : b.x * u + (mU pm d).x * v = Q.x * w := congrArg Pt.x hb2
 have hby : b.y * u + (mU pm d).y * v = Q.y * w := congrArg Pt.y hb2
 have hbz : b.z * u + (mU pm d).z * v = Q.z * w := congrArg Pt.z hb2
 have hbd : b.d * u + (mU pm d).d * v = Q.d * w := congrArg Pt.d hb2
 have hcx : b.x * u' + Q.x * v' = P.x * w' := congrArg Pt.x hb'
 have hcy : b.y * u' + Q.y * v' = P.y * w' := congrArg Pt.y hb'
 have hcz : b.z * u' + Q.z * v' = P.z * w' := congrArg Pt.z hb'
 have hcd : b.d * u' + Q.d * v' = P.d * w' := congrArg Pt.d hb'
 have hve : vl pm (mU pm d) ≠ 0 := by rw [Yde hm]; omega
 have hwh : cmb b (mU pm d) (u' * w + u * v') (v * v') = scl P (w * w') := by
  unfold cmb scl
  refine Zbi ?_ ?_ ?_ ?_ <;> dsimp only <;> grind
 have p1 := Int.mul_pos u0' w0
 have p2 := Int.mul_pos u0 v0'
 have p3 := Int.mul_pos v0 v0'
 have p4 := Int.mul_pos w0 w0'
 have hsum : vl pl b * (u' * w + u * v') + vl pl (mU pm d) * (v * v') = 0 := by
  rw [<-Zu8,hwh,Zu7,hon',Int.zero_mul]
 have hne : vl pl (mU pm d) ≠ 0 := by
  intro z
  rw [z,Int.zero_mul,Int.add_zero] at hsum
  rcases Int.mul_eq_zero.1 hsum with z | z
  ·exact l1 z
  ·omega
 have X1 : Xing h n pl b (mU pm d) P := ⟨he',hon',hw',⟨l1,hne⟩,_,_,_,by omega,p3,p4,hwh⟩
 refine ⟨X1.back hk,?_⟩
 have hsc : cmb (mU pm d) P (v * u') (u * w') = scl Q (w * u' + u * v') := Zbi (Zz7 hbx hcx) (Zz7 hby hcy) (Zz7 hbz hcz) (Zz7 hbd hcd)
 have p5 := Int.mul_pos v0 u0'
 have p6 := Int.mul_pos u0 w0'
 have p7 := Int.mul_pos w0 u0'
 have hsum2 : vl pm (mU pm d) * (v * u') + vl pm P * (u * w') = 0 := by
  rw [<-Zu8,hsc,Zu7,hon,Int.zero_mul]
 refine ⟨he,hon,hw,⟨hve,?_⟩,_,_,_,p5,p6,by omega,hsc⟩
 intro z
 rw [z,Int.zero_mul,Int.add_zero] at hsum2
 rcases Int.mul_eq_zero.1 hsum2 with z | z
 ·exact hve z
 ·omega
theorem Zg5 {q r : Pl3} (h1 : Near 45000 q) (h2 : Near 5000 r) : sqV q.1 q.2.1 q.2.2 r.1 r.2.1 r.2.2 = dst2 (pnt q) (pnt r) := (Zvk (a := q.1) (b := q.2.1) (c := q.2.2) (x := r.1) (y := r.2.1) (z := r.2.2) h1 h2).1
theorem Zha {h : Hal} {s : Stg} {q0 q1 : Pl3} {ns : List Int} {P : List Pt} (hg : goP (fP h s) (lkG (im1 h s) q0 ns).reverse (pnt q1) [] = some P) (hc : chkW (wP h s) (pnt q0 :: P ++ [pnt q1]) = true) :
  Yq h s q0 q1 ns = some ⟨ns,P.map tup4,sqV (imA (im1 h s) q0 ns ns.length).1 (imA (im1 h s) q0 ns ns.length).2.1 (imA (im1 h s) q0 ns ns.length).2.2 q1.1 q1.2.1 q1.2.2⟩ := by
 rw [Zbk,hg]
 dsimp only
 rw [if_pos hc]
theorem Zv5 {h : Hal} {s : Stg} {q0 q1 : Pl3} {ns : List Int} {p : Pth} (e : Yq h s q0 q1 ns = some p) : ∃ P,goP (fP h s) (lkG (im1 h s) q0 ns).reverse (pnt q1) [] = some P /\ chkW (wP h s) (pnt q0 :: P ++ [pnt q1]) = true /\ p = ⟨ns,P.map tup4,sqV (imA (im1 h s) q0 ns ns.length).1 (imA (im1 h s) q0 ns ns.length).2.1 (imA (im1 h s) q0 ns ns.length).2.2 q1.1 q1.2.1 q1.2.2⟩ := by
 rw [Zbk] at e
 split at e
 ·cases e
 ·rename_i P hP
  split at e
  ·rename_i hc
   cases e
   exact ⟨P,hP,hc,rfl⟩
  ·cases e
theorem Ztw {h : Hal} {s : Stg} (g : Sit h s) (e0 : serr h s = 0) {q0 q1 : Pl3} (hf : Near 5000 q0) (ht : Near 5000 q1) {ns : List Int} (hl : ns.length <= 2) (hi : ∀ n ∈ ns,0 <= n /\ n < nsur h) {p : Pth} (e : Yq h s q0 q1 ns = some p) :
  Yq h s q1 q0 ns.reverse = some ⟨p.ss.reverse,p.ps.reverse,p.sq⟩ := by
 obtain ⟨P,hP,hc,rfl⟩ := Zv5 e
 match ns,hl with
 | [],_ =>
  have hP : some [] = some P := hP
  cases hP
  have hc : (wP h s (pnt q0) (pnt q1) && true) = true := hc
  rw [Bool.and_true] at hc
  have hb := Zha (h := h) (s := s) (q0 := q1) (q1 := q0) (ns := []) (P := []) rfl (by
   show (wP h s (pnt q1) (pnt q0) && true) = true
   rw [Zg0 g hc]; rfl)
  rw [List.reverse_nil,hb]
  show some (Pth.mk [] [] (sqV q1.1 q1.2.1 q1.2.2 q0.1 q0.2.1 q0.2.2)) = some (Pth.mk [] [] (sqV q0.1 q0.2.1 q0.2.2 q1.1 q1.2.1 q1.2.2))
  rw [Zg5 (Zo (by omega) ht) hf,Zg5 (Zo (by omega) hf) ht,Zj3]
 | [n],_ =>
  have hn := hi n (by simp)
  have hsk := Zmb hn.1 hn.2
  have hk := (Zcl g hsk).1
  have hA := Zo (m := 45000) (by omega) (Zbm g hsk (by omega) hf).1
  have hE := Zo (m := 45000) (by omega) (Zbm g hsk (by omega) ht).1
  have hP : goP (fP h s) [(n,im1 h s n q0)] (pnt q1) [] = some P := hP
  rw [goP] at hP
  split at hP
  ·rename_i hz
   have hz : (crsA h s ⟨n,(im1 h s n q0).1,(im1 h s n q0).2.1,(im1 h s n q0).2.2,pnt q1⟩).2 = 0 := hz
   have X := Zq4 g e0 hn hA (Zds ht) hz
   have hP : some [(crsA h s ⟨n,(im1 h s n q0).1,(im1 h s n q0).2.1,(im1 h s n q0).2.2,pnt q1⟩).1] = some P := hP
   generalize (crsA h s ⟨n,(im1 h s n q0).1,(im1 h s n q0).2.1,(im1 h s n q0).2.2,pnt q1⟩).1 = A at *
   cases hP
   have X' := X.back hk
   rw [Zad g hsk (Zo (by omega) hf),Zt2,<-Zad g hsk (Zo (by omega) ht)] at X'
   have hr := Zx4 g e0 hn hE (Zds hf) X'
   have hc : (wP h s (pnt q0) A && (wP h s A (pnt q1) && true)) = true := hc
   rw [Bool.and_true,Bool.and_eq_true] at hc
   have hb := Zha (h := h) (s := s) (q0 := q1) (q1 := q0) (ns := [n]) (P := [A]) (by
    show goP (fP h s) [(n,im1 h s n q1)] (pnt q0) [] = some [A]
    rw [goP]
    have : fP h s n (im1 h s n q1) (pnt q0) = (A,0) := hr
    rw [this,if_pos rfl]; rfl) (by
    show (wP h s (pnt q1) A && (wP h s A (pnt q0) && true)) = true
    rw [Zg0 g hc.2,Zg0 g hc.1]; rfl)
   show Yq h s q1 q0 [n] = _
   rw [hb]
   show some (Pth.mk [n] [tup4 A] (sqV (im1 h s n q1).1 (im1 h s n q1).2.1 (im1 h s n q1).2.2 q0.1 q0.2.1 q0.2.2)) = some (Pth.mk [n] [tup4 A] (sqV (im1 h s n q0).1 (im1 h s n q0).2.1 (im1 h s n q0).2.2 q1.1 q1.2.1 q1.2.2))
   rw [Zg5 hE hf,Zg5 hA ht,Zad g hsk (Zo (by omega) hf),Zad g hsk (Zo (by omega) ht)]
   have : dst2 (mU (Ze h s n) (pnt q1)) (pnt q0) = dst2 (mU (Ze h s n) (pnt q0)) (pnt q1) := by
    rw [<-Zq0 (Ze h s n) (p := mU (Ze h s n) (pnt q1)) (q := pnt q0) (by rw [mU_d]; rfl),Zt2,Zj3]
   rw [this]
  ·cases hP
 | [n,m],_ =>
  have hn := hi n (by simp)
  have hm := hi m (by simp)
  have hsn := Zmb hn.1 hn.2
  have hsm := Zmb hm.1 hm.2
  have hkn := (Zcl g hsn).1
  have hkm := (Zcl g hsm).1
  have hA1 := (Zbm g hsn (by omega) hf).1
  have hA2 := (Zbm g hsm (by omega) hA1).1
  have hE1 := (Zbm g hsm (by omega) ht).1
  have hE2 := (Zbm g hsn (by omega) hE1).1
  have hP : goP (fP h s) [(m,im1 h s m (im1 h s n q0)),(n,im1 h s n q0)] (pnt q1) [] = some P := hP
  rw [goP] at hP
  split at hP
  ·rename_i hz
   have hz : (crsA h s ⟨m,(im1 h s m (im1 h s n q0)).1,(im1 h s m (im1 h s n q0)).2.1,(im1 h s m (im1 h s n q0)).2.2,pnt q1⟩).2 = 0 := hz
   have XQ := Zq4 g e0 hm (Zo (by omega) hA2) (Zds ht) hz
   have eQ : (fP h s m (im1 h s m (im1 h s n q0)) (pnt q1)).1 = (crsA h s ⟨m,(im1 h s m (im1 h s n q0)).1,(im1 h s m (im1 h s n q0)).2.1,(im1 h s m (im1 h s n q0)).2.2,pnt q1⟩).1 := rfl
   rw [eQ] at hP
   generalize (crsA h s ⟨m,(im1 h s m (im1 h s n q0)).1,(im1 h s m (im1 h s n q0)).2.1,(im1 h s m (im1 h s n q0)).2.2,pnt q1⟩).1 = Q at *
   rw [goP] at hP
   split at hP
   ·rename_i hz2
    have hz2 : (crsA h s ⟨n,(im1 h s n q0).1,(im1 h s n q0).2.1,(im1 h s n q0).2.2,Q⟩).2 = 0 := hz2
    have XP := Zq4 g e0 hn (Zo (by omega) hA1) XQ.err hz2
    have hP : some [(crsA h s ⟨n,(im1 h s n q0).1,(im1 h s n q0).2.1,(im1 h s n q0).2.2,Q⟩).1,Q] = some P := hP
    generalize (crsA h s ⟨n,(im1 h s n q0).1,(im1 h s n q0).2.1,(im1 h s n q0).2.2,Q⟩).1 = A at *
    cases hP
    rw [Zad g hsm (Zo (by omega) hA1)] at XQ
    obtain ⟨Y1,Y2⟩ := XQ.far hkn hkm XP
    rw [<-Zad g hsm (Zo (by omega) ht)] at Y1 Y2
    rw [<-Zad g hsn (Zo (by omega) hE1),Zad g hsn (Zo (by omega) hf),Zt2] at Y1
    have r1 := Zx4 g e0 hn (Zo (by omega) hE2) (Zds hf) Y1
    have r2 := Zx4 g e0 hm (Zo (by omega) hE1) XP.err Y2
    have hc : (wP h s (pnt q0) A && (wP h s A Q && (wP h s Q (pnt q1) && true))) = true := hc
    rw [Bool.and_true,Bool.and_eq_true,Bool.and_eq_true] at hc
    have hb := Zha (h := h) (s := s) (q0 := q1) (q1 := q0) (ns := [m,n]) (P := [Q,A]) (by
     show goP (fP h s) [(n,im1 h s n (im1 h s m q1)),(m,im1 h s m q1)] (pnt q0) [] = some [Q,A]
     have t1 : fP h s n (im1 h s n (im1 h s m q1)) (pnt q0) = (A,0) := r1
     have t2 : fP h s m (im1 h s m q1) A = (Q,0) := r2
     rw [goP,t1,if_pos rfl]
     dsimp only
     rw [goP,t2,if_pos rfl]; rfl) (by
     show (wP h s (pnt q1) Q && (wP h s Q A && (wP h s A (pnt q0) && true))) = true
     rw [Zg0 g hc.2.2,Zg0 g hc.2.1,Zg0 g hc.1]; rfl)
    show Yq h s q1 q0 [m,n] = _
    rw [hb]
    show some (Pth.mk [m,n] [tup4 Q,tup4 A] (sqV (im1 h s n (im1 h s m q1)).1 (im1 h s n (im1 h s m q1)).2.1 (im1 h s n (im1 h s m q1)).2.2 q0.1 q0.2.1 q0.2.2)) = some (Pth.mk [m,n] [tup4 Q,tup4 A] (sqV (im1 h s m (im1 h s n q0)).1 (im1 h s m (im1 h s n q0)).2.1 (im1 h s m (im1 h s n q0)).2.2 q1.1 q1.2.1 q1.2.2))
    rw [Zg5 (Zo (by omega) hE2) hf,Zg5 (Zo (by omega) hA2) ht,Zad g hsn (Zo (by omega) hE1),Zad g hsm (Zo (by omega) ht),Zad g hsm (Zo (by omega) hA1),Zad g hsn (Zo (by omega) hf)]
    have : dst2 (mU (Ze h s n) (mU (Ze h s m) (pnt q1))) (pnt q0) = dst2 (mU (Ze h s m) (mU (Ze h s n) (pnt q0))) (pnt q1) := by
     rw [<-Zq0 (Ze h s n) (p := mU (Ze h s n) (mU (Ze h s m) (pnt q1))) (q := pnt q0) (by rw [mU_d,mU_d]; rfl),Zt2,
      <-Zq0 (Ze h s m) (p := mU (Ze h s m) (pnt q1)) (by rw [mU_d,mU_d]; rfl),Zt2,Zj3]
    rw [this]
   ·cases hP
  ·cases hP
def Ask.back (a : Ask) : Ask := ⟨a.tx,a.ty,a.tz,a.fx,a.fy,a.fz,a.n⟩
theorem Zs5 {h : Hal} {s : Stg} {a : Ask} (e : askE h s a = 0) : askE h s a.back = 0 := by
 have A := Xu e
 have hs : a.back.same = false := by
  have := A.ne
  unfold Ask.same at this ⊢
  rw [Bool.eq_false_iff] at this ⊢
  intro k
  apply this
  unfold Ask.back at k
  simp only [Bool.and_eq_true,decide_eq_true_eq] at k ⊢
  exact ⟨k.1.symm,k.2.1.symm,k.2.2.symm⟩
 have hn : within a.n 0 4 = true := within_iff.2 A.n
 have h1 : plaE h a.fx a.fy a.fz = 0 := by
  unfold askE at e
  rw [if_pos A.e0] at e
  simp only [fstL] at e
  by_cases c1 : plaE h a.fx a.fy a.fz = 0
  ·exact c1
  ·rw [if_pos (fun k => c1 k)] at e; exact e
 have h2 : plaE h a.tx a.ty a.tz = 0 := by
  unfold askE at e
  rw [if_pos A.e0] at e
  simp only [fstL] at e
  by_cases c2 : plaE h a.tx a.ty a.tz = 0
  ·exact c2
  ·rw [if_neg (fun k => k h1),if_pos (fun k => c2 k)] at e; exact e
 unfold askE
 rw [if_pos A.e0]
 show fstL [plaE h a.tx a.ty a.tz,plaE h a.fx a.fy a.fz,unl (!a.back.same) 11,unl (within a.n 0 4) 2] = 0
 rw [h1,h2,hs,hn]
 rfl
theorem Zpx (p : Pth) : trV (trV p) = p := by
 unfold trV
 simp
theorem Yc8 {n : Int} : ∀ {l : List Int},l.length <= 2 -> wkG n none l = 0 -> wkG n none l.reverse = 0
 | [],_,_ => rfl
 | [a],_,h => h
 | [a,b],_,h => by
  show wkG n none [b,a] = 0
  rw [wkG] at h
  split at h
  ·rename_i h1
   split at h
   ·cases h
   ·rw [wkG] at h
    split at h
    ·rename_i h2
     split at h
     ·cases h
     ·rename_i h3
      rw [wkG,if_pos h2,if_neg (by simp),wkG,if_pos h1,if_neg (fun k => h3 k.symm)]
      rfl
    ·cases h
  ·cases h
theorem Zlk {f : List Int -> Option Pth} (hf : ∀ L p,f L = some p -> p.ss = L) (m o : Nat) : (fndP f m o).Nodup := by
 unfold fndP
 rw [List.Nodup,List.pairwise_filterMap]
 refine (Zm6 m o []).imp fun {a b} hab p hp q hq e => hab ?_
 rw [<-hf a p hp,<-hf b q hq,e]
theorem Zgc : ∀ {l m : List Int},l.Perm m -> l.Pairwise (fun a b => a <= b) -> m.Pairwise (fun a b => a <= b) -> l = m
 | [],m,h,_,_ => by
  have := h.length_eq
  exact (List.length_eq_zero_iff.1 (by simpa using this.symm)).symm
 | a :: l,[],h,_,_ => by have := h.length_eq; simp at this
 | a :: l,b :: m,h,h1,h2 => by
  have h1' := List.pairwise_cons.1 h1
  have h2' := List.pairwise_cons.1 h2
  have e : a = b := by
   have ha : a ∈ b :: m := h.subset (by simp)
   have hb : b ∈ a :: l := h.symm.subset (by simp)
   rcases List.mem_cons.1 ha with ha | ha
   ·exact ha
   ·rcases List.mem_cons.1 hb with hb | hb
    ·exact hb.symm
    ·have := h1'.1 b hb
     have := h2'.1 a ha
     omega
  subst e
  rw [Zgc h.cons_inv h1'.2 h2'.2]
section
variable {h : Hal} {s : Stg} {a : Ask}
theorem Ydn {f : List Int -> Option Pth} {m o : Nat} {l : List Int} {p : Pth} (hp : f l = some p) (hw : wkG ((m : Int) - 1) none l = 0) (ho : l.length <= o) : p ∈ refL f m o := by
 refine (Zax f m o).symm.subset (List.mem_filterMap.2 ⟨l,?_,hp⟩)
 have := Zux m l o [] hw ho
 rwa [List.nil_append] at this
theorem Zmf (hk : h.ok) (hs : s.few) (e : askE h s a = 0) (hn : a.n < 3) {p : Pth} (hp : p ∈ refL (Yq h s (qF a) (qT a)) (nsN h) a.n.toNat) : trV p ∈ refL (Yq h s (qT a) (qF a)) (nsN h) a.n.toNat := by
 have A := Xu e
 have hn0 := A.n
 obtain ⟨f1,f2,f3,f4,_⟩ := Zi4 hk hs e hn hp
 have f5 : p.ss.length <= a.n.toNat := by
  obtain ⟨L,hL,hf⟩ := List.mem_filterMap.1 ((Zax _ _ _).subset hp)
  obtain rfl := Zeg hf
  have := (Zrf (nsN h) a.n.toNat [] 0 ⟨Nat.le_refl _,by simp⟩ _ hL).len
  omega
 have hw : wkG ((nsN h : Int) - 1) none p.ss = 0 := by
  unfold suE at f2
  rw [if_neg (by omega),<-Zwi] at f2
  exact f2
 have hb := Ztw (Zk2 hk hs A.e0) A.e0 A.f A.t f3 (Zrp f2).2 f1
 exact Ydn hb (Yc8 f3 hw) (by rw [List.length_reverse]; exact f5)
theorem Zme (hk : h.ok) (hs : s.few) (e : askE h s a = 0) (hn : a.n < 3) : ((refL (Yq h s (qF a) (qT a)) (nsN h) a.n.toNat).map trV).Perm (refL (Yq h s (qT a) (qF a)) (nsN h) a.n.toNat) := by
 have inj : ∀ x y : Pth,trV x = trV y -> x = y := fun x y k => by rw [<-Zpx x,k,Zpx]
 refine (List.perm_ext_iff_of_nodup ?_ ?_).2 fun p => ⟨fun hp => ?_,fun hp => ?_⟩
 ·rw [List.Nodup,List.pairwise_map]
  exact ((Zax _ _ _).nodup_iff.2 (Zlk (fun L p hp => Zeg hp) _ _)).imp fun {x y} hxy k => hxy (inj x y k)
 ·exact (Zax _ _ _).nodup_iff.2 (Zlk (fun L p hp => Zeg hp) _ _)
 ·obtain ⟨q,hq,rfl⟩ := List.mem_map.1 hp
  exact Zmf hk hs e hn hq
 ·have := Zmf (a := a.back) hk hs (Zs5 e) hn (p := p) hp
  exact List.mem_map.2 ⟨trV p,this,Zpx p⟩
theorem Zzo (hk : h.ok) (hs : s.few) (e : askE h s a = 0) (hn : a.n < 3) : (refL (Yq h s (qF a) (qT a)) (nsN h) a.n.toNat).map (·.sq) = (refL (Yq h s (qT a) (qF a)) (nsN h) a.n.toNat).map (·.sq) := by
 refine Zgc ?_ ?_ ?_
 ·have := (Zme hk hs e hn).map (·.sq)
  rw [List.map_map] at this
  exact this
 ·rw [List.pairwise_map]
  exact (Zfi _ _ _).imp fun {x y} h => Zv8 h
 ·rw [List.pairwise_map]
  exact (Zfi _ _ _).imp fun {x y} h => Zv8 h
end
end Go.Proofs.YtdaliaafmcjikaaGreat
namespace Go.Proofs
open Go.Shelf
def Tryz.laysS114_ren : Go.Shelf.Ren := ⟨fun | 6 => 114 | 15 => 145 | 14 => 144 | 28 => 206 | 29 => 207 | 20 => 198 | 21 => 199 | 22 => 200 | 23 => 201 | 24 => 202 | 25 => 203 | 26 => 204 | 27 => 205 | 46 => 271 | 47 => 272 | 48 => 273 | 49 => 274 | 50 => 275 | 57 => 293 | n => n,fun | 22 => 102 | 24 => 42 | 25 => 191 | 3 => 3 | 39 => 240 | 0 => 0 | 53 => 286 | 55 => 288 | 4 => 4 | 46 => 279 | 45 => 278 | 50 => 283 | 5 => 5 | 9 => 9 | 66 => 337 | 70 => 341 | 76 => 355 | 77 => 148 | n => n,fun | n => n⟩
theorem Tryz.laysS114 : Go.Proofs.SlLaysF0.n6 Tryz.prog Tryz.laysS114_ren := {
 mixed := by kernel_rfl
 f6 := ⟨Tryz.f114.name,by decide,Tryz.func114.trans (congrArg some (by kernel_rfl))⟩
 f14 := ⟨Tryz.f144.name,by decide,Tryz.func144.trans (congrArg some (by kernel_rfl))⟩
 f15 := Tryz.func145.trans (congrArg some (by kernel_rfl))
 f20 := ⟨Tryz.f198.name,by decide,Tryz.func198.trans (congrArg some (by kernel_rfl))⟩
 f21 := ⟨Tryz.f199.name,by decide,Tryz.func199.trans (congrArg some (by kernel_rfl))⟩
 f22 := ⟨Tryz.f200.name,by decide,Tryz.func200.trans (congrArg some (by kernel_rfl))⟩
 f23 := ⟨Tryz.f201.name,by decide,Tryz.func201.trans (congrArg some (by kernel_rfl))⟩
 f24 := ⟨Tryz.f202.name,by decide,Tryz.func202.trans (congrArg some (by kernel_rfl))⟩
 f25 := ⟨Tryz.f203.name,by decide,Tryz.func203.trans (congrArg some (by kernel_rfl))⟩
 f26 := ⟨Tryz.f204.name,by decide,Tryz.func204.trans (congrArg some (by kernel_rfl))⟩
 f27 := ⟨Tryz.f205.name,by decide,Tryz.func205.trans (congrArg some (by kernel_rfl))⟩
 f28 := Tryz.func206.trans (congrArg some (by kernel_rfl))
 f29 := Tryz.func207.trans (congrArg some (by kernel_rfl))
 f46 := ⟨Tryz.f271.name,by decide,Tryz.func271.trans (congrArg some (by kernel_rfl))⟩
 f47 := Tryz.func272.trans (congrArg some (by kernel_rfl))
 f48 := Tryz.func273.trans (congrArg some (by kernel_rfl))
 f49 := ⟨Tryz.f274.name,by decide,Tryz.func274.trans (congrArg some (by kernel_rfl))⟩
 f50 := ⟨Tryz.f275.name,by decide,Tryz.func275.trans (congrArg some (by kernel_rfl))⟩
 f57 := ⟨Tryz.f293.name,by decide,Tryz.func293.trans (congrArg some (by kernel_rfl))⟩
 t0 := Tryz.underlying0
 a0 := Tryz.isAgg0
 z0 := Tryz.sizeOf0
 v0 := Tryz.zeroValue0
 t3 := Tryz.underlying3
 a3 := Tryz.isAgg3
 z3 := Tryz.sizeOf3
 v3 := Tryz.zeroValue3
 t4 := Tryz.underlying4
 a4 := Tryz.isAgg4
 z4 := Tryz.sizeOf4
 v4 := Tryz.zeroValue4
 t5 := Tryz.underlying5
 a5 := Tryz.isAgg5
 z5 := Tryz.sizeOf5
 v5 := Tryz.zeroValue5
 t9 := Tryz.underlying9
 a9 := Tryz.isAgg9
 z9 := Tryz.sizeOf9
 v9 := Tryz.zeroValue9
 t22 := Tryz.underlying102
 a22 := Tryz.isAgg102
 z22 := Tryz.sizeOf102
 v22 := Tryz.zeroValue102
 t25 := Tryz.underlying191
 a25 := Tryz.isAgg191
 z25 := Tryz.sizeOf191
 v25 := Tryz.zeroValue191
 t39 := Tryz.underlying240
 a39 := Tryz.isAgg240
 z39 := Tryz.sizeOf240
 v39 := Tryz.zeroValue240
 t45 := Tryz.underlying278
 a45 := Tryz.isAgg278
 z45 := Tryz.sizeOf278
 v45 := Tryz.zeroValue278
 t46 := Tryz.underlying279
 a46 := Tryz.isAgg279
 z46 := Tryz.sizeOf279
 v46 := Tryz.zeroValue279
 t50 := Tryz.underlying283
 a50 := Tryz.isAgg283
 z50 := Tryz.sizeOf283
 v50 := Tryz.zeroValue283
 t53 := Tryz.underlying286
 a53 := Tryz.isAgg286
 z53 := Tryz.sizeOf286
 v53 := Tryz.zeroValue286
 t55 := Tryz.underlying288
 a55 := Tryz.isAgg288
 z55 := Tryz.sizeOf288
 v55 := Tryz.zeroValue288
 t66 := Tryz.underlying337
 a66 := Tryz.isAgg337
 z66 := Tryz.sizeOf337
 v66 := Tryz.zeroValue337
 t70 := Tryz.underlying341
 a70 := Tryz.isAgg341
 z70 := Tryz.sizeOf341
 v70 := Tryz.zeroValue341
 t76 := Tryz.underlying355
 a76 := Tryz.isAgg355
 z76 := Tryz.sizeOf355
 v76 := Tryz.zeroValue355
 t77 := Tryz.underlying148
 a77 := Tryz.isAgg148
 z77 := Tryz.sizeOf148
 v77 := Tryz.zeroValue148 }
set_option maxRecDepth 100000 in
theorem Tryz.sorts114 : Go.Sx.SortsK Tryz.prog 114 3 := {
 some := fun m _ enc hk h1 cf hO g blk off cap d w eg hcmp hH hblk hsz => AnyQ.slices_SortFunc Tryz.laysS114 3 Tryz.isAgg42 Tryz.sizeOf42 enc hk h1 cf hO g #[] blk off cap d w eg hcmp hH hblk hsz
 none := fun p cap fv w => AnyF.slices_SortFunc_none Tryz.laysS114 p cap fv w }
end Go.Proofs
namespace Go.Proofs.YtdaliaafmcjikaaGreat
open Go Go.Sx
noncomputable abbrev rCp : List AV -> Option PRes := famA (fun p : Pth => p.ss.length < 100000 /\ p.ps.length < 100000) (fun p => [p.av]) (fun p => ⟨p.av,[]⟩)
theorem Yfv {pt : PC} (hp : PCOK Tryz.prog pt) : PCOK Tryz.prog (ins 35 rCp pt) := Yr (fun p hq => d21 hq.1 hq.2) hp
theorem Ydt {p : Pth} (h1 : p.ss.length < 100000) (h2 : p.ps.length < 100000) : rCp [p.av] = some ⟨p.av,[]⟩ :=
 Ya (p := fun p : Pth => p.ss.length < 100000 /\ p.ps.length < 100000) (g := fun p => [p.av]) (r := fun p => ⟨p.av,[]⟩) (k := p) (fun j hj => by
  simp only [List.cons.injEq,and_true] at hj
  rw [hj]) ⟨h1,h2⟩
theorem Zqp {L : List Pth} {k : Nat} (hk : k < L.length) : (L.map gcP)[((k : Nat) : Int).toNat]? = some (gcP L[k]) := by simp [hk]
noncomputable abbrev rTn : List AV -> Option PRes := famA (fun p : Pth => pthE p = 0) (fun p => [p.av]) (fun p => ⟨.tup [(trV p).av,I 0],[]⟩)
theorem Yft {pt : PC} (hp : PCOK Tryz.prog pt) : PCOK Tryz.prog (ins 40 rTn pt) := Yr (fun p hq => by
 have := d40 p
 unfold trP at this
 rwa [if_pos hq,hq] at this) hp
theorem Ydq {p : Pth} (h : pthE p = 0) : rTn [p.av] = some ⟨.tup [(trV p).av,I 0],[]⟩ :=
 Ya (p := fun p : Pth => pthE p = 0) (g := fun p => [p.av]) (r := fun p => ⟨.tup [(trV p).av,I 0],[]⟩) (k := p) (fun j hj => by
  simp only [List.cons.injEq,and_true] at hj
  rw [Zp7 hj]) h
theorem Ye4 {h : Hal} {s : Stg} {a : Ask} {p : Pth} (e : cpE h s a p = 0) : pthE p = 0 := by
 unfold cpE at e
 split at e
 ·assumption
 ·exact e
noncomputable abbrev r55 (h : Hal) (s : Stg) (a : Ask) (L M : List Pth) : List AV -> Option PRes := famA (fun _ : Bool => True) (fun b => [h.av,s.av,if b then a.av else a.back.av]) (fun b => ⟨.tup [.isl 3 ((if b then L else M).map gcP),I 0],[]⟩)
set_option maxRecDepth 100000 in
set_option maxHeartbeats 16000000 in
theorem d10 (aw : PCall Tryz.prog 12 [] ⟨Bo true,[]⟩) (h : Hal) (s : Stg) (a : Ask) : PCall Tryz.prog 10 [.agg (stgL h s),a.av] ⟨Bo true,[]⟩ := by
 by_cases hb : few3 h s = true
 rotate_left
 ·have hb : few3 h s = false := by simpa using hb
  have hk0 := Zf (d17 h s) (Zf aw Zd)
  rw [hb] at hk0
  obtain ⟨fx,fy,fz,tx,ty,tz,n⟩ := a
  refine bs.pv (sx := nos) hk0 Tryz.func10 (by kernel_rfl) (by kernel_rfl) rfl ?_
  repeat' (first | refine wk3 ?_ | (refine wk2 ?_ ?_ <;> intro _) | refine wk4 ?_ | fail); all_goals (conv => whnf)
  all_goals exact Zc rfl
 obtain ⟨hk,hs⟩ := Yev hb
 by_cases hn : within a.n 0 2 = true
 rotate_left
 ·have hn : within a.n 0 2 = false := by simpa using hn
  obtain ⟨fx,fy,fz,tx,ty,tz,n⟩ := a
  have h46 := c30 n 0 2
  dsimp only at hn
  rw [hn] at h46
  have hk0 := Zf (d17 h s) (Zf aw (Zf h46 Zd))
  rw [hb] at hk0
  refine bs.pv (sx := nos) hk0 Tryz.func10 (by kernel_rfl) (by kernel_rfl) rfl ?_
  repeat' (first | refine wk3 ?_ | (refine wk2 ?_ ?_ <;> intro _) | refine wk4 ?_ | fail); all_goals (conv => whnf)
  all_goals exact Zc rfl
 have h46 := c30 a.n 0 2
 rw [hn] at h46
 have hn2 := within_iff.1 hn
 have h18 := d18 hk hs a
 by_cases e : askE h s a = 0
 rotate_left
 ·obtain ⟨fx,fy,fz,tx,ty,tz,n⟩ := a
  generalize askE h s ⟨fx,fy,fz,tx,ty,tz,n⟩ = E at *
  dsimp only at h46 hn2
  have hk0 := Zf (d17 h s) (Zf aw (Zf h46 (Zf h18 Zd)))
  rw [hb] at hk0
  refine bs.pv (sx := nos) hk0 Tryz.func10 (by kernel_rfl) (by kernel_rfl) rfl ?_
  clear hk0 h18 h46 aw
  repeat' (first | refine wk3 ?_ | (refine wk2 ?_ ?_ <;> intro _) | refine wk4 ?_ | fail); all_goals (conv => whnf)
  all_goals first
   | exact Zc rfl
   | (exfalso; simp_all; done)
   | (exfalso; simp_all; omega)
 rw [e] at h18
 have A := Xu e
 have hN := Yga hk A.e0
 have e' := Zs5 e
 have h55 := d55 hk hs Tryz.sorts114 a e (by omega) (by omega)
 have h55b := d55 hk hs Tryz.sorts114 a.back e' (by show a.n < 3; omega) (by omega)
 have hfa := fun p hp => Zi4 hk hs e (show a.n < 3 by omega) (p := p) hp
 have hfb := fun p hp => Zi4 hk hs e' (show a.n < 3 by omega) (p := p) hp
 have hbk := fun p hp => Zmf hk hs e (show a.n < 3 by omega) (p := p) hp
 have hbo := Zzo hk hs e (show a.n < 3 by omega)
 have hrl := Ydo (Yq h s (qF a) (qT a)) hN (show a.n.toNat <= 2 by omega)
 change PCall Tryz.prog 55 [h.av,s.av,a.back.av] ⟨.tup [.isl 3 ((refL (Yq h s (qT a) (qF a)) (nsN h) a.n.toNat).map gcP),I 0],[]⟩ at h55b
 have hfb2 : ∀ p ∈ refL (Yq h s (qT a) (qF a)) (nsN h) a.n.toNat,p.ss.length <= 2 /\ p.ps.length <= 2 := fun p hp => ⟨(hfb p hp).2.2.1,(hfb p hp).2.2.2.1⟩
 have hfa2 : ∀ p ∈ refL (Yq h s (qF a) (qT a)) (nsN h) a.n.toNat,(p.ss.length <= 2 /\ p.ps.length <= 2) /\ pthE p = 0 := fun p hp => ⟨⟨(hfa p hp).2.2.1,(hfa p hp).2.2.2.1⟩,Ye4 (hfa p hp).2.2.2.2⟩
 clear hfa hfb
 generalize refL (Yq h s (qF a) (qT a)) (nsN h) a.n.toNat = L at *
 generalize refL (Yq h s (qT a) (qF a)) (nsN h) a.n.toNat = M at *
 have hll : L.length = M.length := by have := congrArg List.length hbo; simpa using this
 have hlm : (L.map gcP).length = L.length := List.length_map _
 have hmm : (M.map gcP).length = M.length := List.length_map _
 have hsq : ∀ (k : Nat) (h1 : k < L.length) (h2 : k < M.length),L[k].sq = M[k].sq := fun k h1 h2 => by
  have := congrArg (fun l => l[k]?) hbo
  simpa [h1,h2] using this
 clear hbo
 have hnb : ¬ a.av = a.back.av := by
  intro k
  have := A.ne
  unfold Ask.back at k
  simp only [AV.agg.injEq,List.cons.injEq,AV.int.injEq,true_and,and_true] at k
  unfold Ask.same at this
  simp [k.1,k.2.1,k.2.2.1] at this
 have o1 : r55 h s a L M [h.av,s.av,a.av] = some ⟨.tup [.isl 3 (L.map gcP),I 0],[]⟩ :=
  Ya (p := fun _ : Bool => True) (g := fun b => [h.av,s.av,if b then a.av else a.back.av]) (r := fun b => ⟨.tup [.isl 3 ((if b then L else M).map gcP),I 0],[]⟩) (k := true) (fun j hj => by
   cases j with
   | true => rfl
   | false => simp only [List.cons.injEq,and_true,true_and] at hj; exact absurd hj.symm hnb) trivial
 have o2 : r55 h s a L M [h.av,s.av,a.back.av] = some ⟨.tup [.isl 3 (M.map gcP),I 0],[]⟩ :=
  Ya (p := fun _ : Bool => True) (g := fun b => [h.av,s.av,if b then a.av else a.back.av]) (r := fun b => ⟨.tup [.isl 3 ((if b then L else M).map gcP),I 0],[]⟩) (k := false) (fun j hj => by
   cases j with
   | false => rfl
   | true => simp only [List.cons.injEq,and_true,true_and] at hj; exact absurd hj hnb) trivial
 have h5 : ∀ {pt : PC},PCOK Tryz.prog pt -> PCOK Tryz.prog (ins 55 (r55 h s a L M) pt) := fun hp => Yr (fun b _ => by
  cases b with
  | true => exact h55
  | false => exact h55b) hp
 have hk0 := Zf (d17 h s) (Zf aw (Zf h46 (Zf h18 (h5 (Zf (c22f hk.f) (Zf (c29 hs) (Yft (Yfv (Yf2 Zd)))))))))
 clear h5
 rw [hb] at hk0
 obtain ⟨fx,fy,fz,tx,ty,tz,n⟩ := a
 dsimp only at hn2
 clear h18 h46 aw h55 h55b e e' A hn hb hN hnb
 refine bs.pv (sx := nos) hk0 Tryz.func10 (by kernel_rfl) (by kernel_rfl) rfl ?_
 repeat' (first | refine wk3 ?_ | (refine wk2 ?_ ?_ <;> intro _) | refine wk4 ?_ | fail); all_goals (conv => whnf)
 all_goals try exact Zc rfl
 refine Yc (S := Nat × Int) (fun t => L.length - t.1) (fun t => [(5,.isl 3 (L.map gcP)),(7,.isl 3 (M.map gcP)),(9,I t.2)]) (fun _ => []) 100 100
  (fun t => t.2 = t.1 /\ t.1 <= L.length) (0,0) ⟨rfl,Nat.zero_le _⟩ (Nat.le_of_ble_eq_true rfl) [] rfl (kps) (kps) ?_
 rintro ⟨k,i⟩ ⟨hi,hk1⟩
 dsimp only at hi hk1 ⊢
 subst hi
 refine bs.av (sx := nos) hk0 ?_
 by_cases hlt : k < L.length
 ·have hmem := List.getElem_mem hlt
  have e1 := Zqp hlt
  have e2 := Zqp (L := M) (k := k) (by omega)
  have hs1 := hsq k hlt (by omega)
  obtain ⟨⟨u1,u2⟩,u3⟩ := hfa2 _ hmem
  have c1 := Ydt (p := L[k]) (by omega) (by omega)
  have c2 := Ydq u3
  have hr := hbk _ hmem
  have hrb := hfb2 _ hr
  generalize M[k]'(by omega) = q at *
  generalize trV L[k] = r at *
  generalize L[k] = p at *
  obtain ⟨ps,pp,pq⟩ := p
  obtain ⟨qs,qp,qq⟩ := q
  obtain ⟨rs,rp,rq⟩ := r
  dsimp only at hs1 u1 u2 hrb
  subst hs1
  repeat' (first | refine wk3 ?_ | (refine wk2 ?_ ?_ <;> intro _) | refine wk4 ?_ | fail); all_goals (conv => whnf)
  all_goals try (exfalso; clear hk0; simp_all; done)
  refine Yc (S := Nat × Int × Bool) (fun t => M.length - t.1) (fun t => [(5,.isl 3 (L.map gcP)),(7,.isl 3 (M.map gcP)),(9,I (k : Int)),(10,.ptr 100 0 0),(12,Bo t.2.2),(13,I t.2.1)]) (fun _ => [(100,.row 3 [[.isl 1 (nl rs),.isl 4 (rp.map hp4),I rq]] true false)]) 200 200
   (fun t => t.2.1 = t.1 /\ t.1 <= M.length /\ t.2.2 = (M.take t.1).any fun q => same ⟨rs,rp,rq⟩ q) (0,0,false) ⟨rfl,Nat.zero_le _,rfl⟩ (Nat.le_of_ble_eq_true rfl) [] rfl (kps) (kps) ?_
  rintro ⟨j,i,f⟩ ⟨hi,hj1,hf⟩
  dsimp only at hi hj1 hf ⊢
  subst hi
  refine bs.av (sx := nos) hk0 ?_
  by_cases hjl : j < M.length
  ·have e3 := Zqp hjl
   have hm2 := hfb2 _ (List.getElem_mem hjl)
   have ht : (M.take (j + 1)).any (fun q => same ⟨rs,rp,rq⟩ q) = (f || same ⟨rs,rp,rq⟩ M[j]) := by
    rw [List.take_succ_eq_append_getElem hjl,List.any_append,<-hf]
    simp
   have c3 := Zzm (a := ⟨rs,rp,rq⟩) (b := M[j]) (by dsimp only; omega) (by dsimp only; omega) (by omega) (by omega)
   generalize M[j] = q at *
   obtain ⟨ts,tp,tq⟩ := q
   generalize same ⟨rs,rp,rq⟩ ⟨ts,tp,tq⟩ = v at *
   clear hf
   cases f with
   | true =>
    repeat' (first | refine wk3 ?_ | (refine wk2 ?_ ?_ <;> intro _) | refine wk4 ?_ | fail); all_goals (conv => whnf)
    all_goals first
     | exact Done.mk ⟨(j + 1,_,true),[],rfl,kps,kps,⟨Zk (by omega),hjl,ht.symm⟩,by dsimp only; omega⟩
     | (exfalso; clear hk0; simp_all; done)
   | false =>
    repeat' (first | refine wk3 ?_ | (refine wk2 ?_ ?_ <;> intro _) | refine wk4 ?_ | fail); all_goals (conv => whnf)
    all_goals first
     | exact Done.mk ⟨(j + 1,_,v),[],rfl,kps,kps,⟨Zk (by omega),hjl,ht.symm⟩,by dsimp only; omega⟩
     | (exfalso; clear hk0; simp_all; done)
  ·obtain rfl : j = M.length := by omega
   rw [List.take_length,List.any_eq_true.2 ⟨_,hr,Znk _⟩] at hf
   subst hf
   repeat' (first | refine wk3 ?_ | (refine wk2 ?_ ?_ <;> intro _) | refine wk4 ?_ | fail); all_goals (conv => whnf)
   all_goals first
    | exact Done.mk ⟨(k + 1,_),[],rfl,kps,kps,⟨Zk (by omega),hlt⟩,by dsimp only; omega⟩
    | (exfalso; clear hk0; simp_all; done)
 ·obtain rfl : k = L.length := by omega
  repeat' (first | refine wk3 ?_ | (refine wk2 ?_ ?_ <;> intro _) | refine wk4 ?_ | fail); all_goals (conv => whnf)
  all_goals first
   | exact Zc rfl
   | (exfalso; clear hk0; simp_all; done)
theorem Yhn {m : Nat} {x : List AV} (hw : WT TT (m + 10 + 1) 28 x) : ∃ h : Hal,x = h.cells := by
 have h0 := (Va (T := TT) (t := 28) rfl rfl hw).1
 have h0 : x.length = 9 := h0
 match x,h0 with
 | [x0,x1,x2,x3,x4,x5,x6,x7,x8],_ =>
  obtain ⟨s,hs,hs2⟩ := wStr (Zm (T := TT) (t := 28) rfl rfl hw 0 rfl rfl)
  obtain ⟨n,hn⟩ := wInt (Zm (T := TT) (t := 28) rfl rfl hw 1 rfl rfl)
  obtain ⟨t,ht,ht2⟩ := wStr (Zm (T := TT) (t := 28) rfl rfl hw 2 rfl rfl)
  obtain ⟨u,hu,hu2⟩ := wStr (Zm (T := TT) (t := 28) rfl rfl hw 3 rfl rfl)
  obtain ⟨e4,h4,_,g4⟩ := Zea (T := TT) (t := 22) rfl rfl rfl (Zm (T := TT) (t := 28) rfl rfl hw 4 rfl rfl)
  obtain ⟨e5,h5,_,g5⟩ := Zea (T := TT) (t := 23) rfl rfl rfl (Zm (T := TT) (t := 28) rfl rfl hw 5 rfl rfl)
  obtain ⟨e6,h6,_,g6⟩ := Zea (T := TT) (t := 24) rfl rfl rfl (Zm (T := TT) (t := 28) rfl rfl hw 6 rfl rfl)
  obtain ⟨e7,h7,_,g7⟩ := Zea (T := TT) (t := 25) rfl rfl rfl (Zm (T := TT) (t := 28) rfl rfl hw 7 rfl rfl)
  obtain ⟨e8,h8,_,g8⟩ := Zea (T := TT) (t := 26) rfl rfl rfl (Zm (T := TT) (t := 28) rfl rfl hw 8 rfl rfl)
  obtain ⟨l4,k4,_⟩ := Zte (f := Mat.av) (fun x hx => wMat hx) e4 g4
  obtain ⟨l5,k5,_⟩ := Zte (f := pt) (P := fun _ => True) (fun x hx => (wP2 hx).imp fun p hp => ⟨hp,trivial⟩) e5 g5
  obtain ⟨l6,k6,_⟩ := Zte (f := Wal.av) (fun x hx => wWal hx) e6 g6
  obtain ⟨l7,k7,_⟩ := Zte (f := Can.av) (fun x hx => wCan hx) e7 g7
  obtain ⟨l8,k8,_⟩ := Zte (f := Sea.av) (fun x hx => wSea hx) e8 g8
  have hs : [x0] = [.str s] := hs
  have hn : [x1] = [I n] := hn
  have ht : [x2] = [.str t] := ht
  have hu : [x3] = [.str u] := hu
  have h4 : [x4] = [.isl 6 e4] := h4
  have h5 : [x5] = [.isl 2 e5] := h5
  have h6 : [x6] = [.isl 3 e6] := h6
  have h7 : [x7] = [.isl 7 e7] := h7
  have h8 : [x8] = [.isl 4 e8] := h8
  cases hs; cases hn; cases ht; cases hu; cases h4; cases h5; cases h6; cases h7; cases h8
  exact ⟨⟨s,n,t,u,l4,l5,l6,l7,l8⟩,by rw [k4,k5,k6,k7,k8]⟩
theorem wStg {m : Nat} {x : List AV} (hw : WT TT (m + 10 + 1) 31 x) : ∃ s : Stg,x = s.cells := by
 have h0 := (Va (T := TT) (t := 31) rfl rfl hw).1
 have h0 : x.length = 2 := h0
 match x,h0 with
 | [x0,x1],_ =>
  obtain ⟨a,ha⟩ := Ydd (Zm (T := TT) (t := 31) rfl rfl hw 0 rfl rfl)
  obtain ⟨b,hb⟩ := Ydd (Zm (T := TT) (t := 31) rfl rfl hw 1 rfl rfl)
  have ha : [x0] = [.isl 1 (nl a)] := ha
  have hb : [x1] = [.isl 1 (nl b)] := hb
  cases ha; cases hb
  exact ⟨⟨a,b⟩,rfl⟩
theorem Zzl {a : AV} (h : WTA TT 33 a) : ∃ (h : Hal) (s : Stg),a = .agg (stgL h s) := by
 obtain ⟨x,m,rfl,hw⟩ := Zuv (T := TT) (t := 33) h rfl rfl 11
 have h0 := (Va (T := TT) (t := 33) rfl rfl hw).1
 have h0 : x.length = 11 := h0
 match x,h0 with
 | [x0,x1,x2,x3,x4,x5,x6,x7,x8,x9,x10],_ =>
  obtain ⟨hl,hh⟩ := Yhn (Zm (T := TT) (t := 33) rfl rfl hw 0 rfl rfl)
  obtain ⟨st,hs⟩ := wStg (Zm (T := TT) (t := 33) rfl rfl hw 1 rfl rfl)
  have hh : [x0,x1,x2,x3,x4,x5,x6,x7,x8] = hl.cells := hh
  have hs : [x9,x10] = st.cells := hs
  cases hh; cases hs
  exact ⟨hl,st,rfl⟩
theorem Yhi {a : AV} (h : WTA TT 37 a) : ∃ b : Ask,a = b.av := by
 obtain ⟨x,m,rfl,hw⟩ := Zuv (T := TT) (t := 37) h rfl rfl 11
 have h0 := (Va (T := TT) (t := 37) rfl rfl hw).1
 have h0 : x.length = 7 := h0
 match x,h0 with
 | [x0,x1,x2,x3,x4,x5,x6],_ =>
  obtain ⟨n1,e1,l1,_⟩ := Zly (T := TT) (t := 35) rfl rfl rfl (Zm (T := TT) (t := 37) rfl rfl hw 0 rfl rfl)
  obtain ⟨n2,e2,l2,_⟩ := Zly (T := TT) (t := 35) rfl rfl rfl (Zm (T := TT) (t := 37) rfl rfl hw 1 rfl rfl)
  obtain ⟨n,hn⟩ := wInt (Zm (T := TT) (t := 37) rfl rfl hw 2 rfl rfl)
  have l1 : n1.length = 3 := l1
  have l2 : n2.length = 3 := l2
  have hn : [x6] = [I n] := hn
  match n1,l1,n2,l2 with
  | [a,b,c],_,[d,e,f],_ =>
   have e1 : [x0,x1,x2] = [I a,I b,I c] := e1
   have e2 : [x3,x4,x5] = [I d,I e,I f] := e2
   cases e1; cases e2; cases hn
   exact ⟨⟨a,b,c,d,e,f,n⟩,rfl⟩
def tysA : List TypeId := [33,37,35,28,31,22,23,24,25,26,29,194,196,198,134,216,70,9,3]
theorem Yff : tysA.all (Ziv (tget tbl) tysA) = true := by kernel_rfl
end Go.Proofs.YtdaliaafmcjikaaGreat
