/- A part of the proof: lemmas. -/
import Derived.Test.YtdaliaafmcjikaaGreatX11
import Derived.Test.YtdaliaafmcjikaaGreatX7
import Derived.Test.YtdaliaafmcjikaaGreatX6
import Derived.Test.YtdaliaafmcjikaaGreatX10
import Derived.Test.YtdaliaafmcjikaaGreatX9
import Derived.Test.YtdaliaafmcjikaaGreatRows
set_option linter.unusedVariables false
set_option linter.unusedSimpArgs false
namespace Go.Proofs.YtdaliaafmcjikaaGreat
open Go Go.Sx
structure Sit (h : Hal) (s : Stg) : Prop where
 ok : h.ok
 fine : h.fine
 sf : s.few
 set : SetOk h s
theorem Zmn {h : Hal} (hk : h.ok) {s : Stg} (hs : s.few) (h0 : serr h s = 0) : Sit h s := by
 unfold serr at h0
 split at h0
 ·rename_i he
  exact ⟨hk, Zi9 hk he, hs, Ybq hk.f h0⟩
 ·rename_i he; exact absurd h0 he
inductive SK (h : Hal) : Int -> Prop
 | wall (k : Nat) (hk : k < h.ws.length) : SK h k
 | floor : SK h h.ws.length
 | ceil : SK h ((h.ws.length : Int) + 1)
 | can (j : Nat) (hj : j < h.ks.length) : SK h ((h.ws.length : Int) + 2 + j)
theorem Zse {h : Hal} {i : Int} (h0 : 0 <= i) (h1 : i < nsur h) : SK h i := by
 unfold nsur at h1
 by_cases c1 : i < h.ws.length
 ·have := SK.wall (h := h) i.toNat (by omega)
  rwa [Int.toNat_of_nonneg h0] at this
 by_cases c2 : i = h.ws.length
 ·rw [c2]; exact .floor
 by_cases c3 : i = (h.ws.length : Int) + 1
 ·rw [c3]; exact .ceil
 have := SK.can (h := h) (i - h.ws.length - 2).toNat (by omega)
 rwa [Int.toNat_of_nonneg (by omega), show (h.ws.length : Int) + 2 + (i - h.ws.length - 2) = i by omega] at this
theorem Zmk {h : Hal} {s : Stg} {i : Int} (h0 : surE h s i = 0) : serr h s = 0 /\ 0 <= i /\ i < nsur h := by
 unfold surE at h0
 split at h0
 ·rename_i he
  split at h0
  ·rename_i hw
   have := within_iff.1 hw
   exact ⟨he, by omega, by omega⟩
  ·cases h0
 ·rename_i he; exact absurd h0 he
def kix (h : Hal) (i : Int) : Nat := (i - h.ws.length - 2).toNat
def kat (h : Hal) (i : Int) : Can := (h.ks[kix h i]?).getD ⟨⟨#[]⟩, ⟨#[]⟩, 0, 0, 0, 0, []⟩
theorem Zq7 {h : Hal} {j : Nat} (hj : j < h.ks.length) : kat h ((h.ws.length : Int) + 2 + j) = h.ks[j] := by
 unfold kat kix
 rw [show ((h.ws.length : Int) + 2 + j - h.ws.length - 2).toNat = j by omega, List.getElem?_eq_getElem hj]; rfl
def isK (h : Hal) (i : Int) : Bool := decide ((h.ws.length : Int) + 2 <= i)
abbrev canZ : List AV := [.str ⟨#[]⟩, .str ⟨#[]⟩, I 0, I 0, I 0, I 0, .nils]
def canV (h : Hal) (i : Int) : AV := .agg (match isK h i with
 | true => (kat h i).av
 | false => canZ)
set_option maxHeartbeats 4000000 in
theorem c87 {h : Hal} (hf : h.few) (s : Stg) {i : Int} (hi : SK h i) : PCall Tryz.prog 257 [.agg (stgL h s), I i] ⟨.tup [canV h i, Bo (isK h i)], []⟩ := by
 have l := Yp h.ws
 have l2 := Xc h.ks
 obtain ⟨_, _, f3, f4, _⟩ := hf
 have low : ∀ i : Int, 0 <= i -> i < (h.ws.length : Int) + 2 -> PCall Tryz.prog 257 [.agg (stgL h s), I i] ⟨.tup [.agg canZ, Bo false], []⟩ := by
  intro i h0 h1
  have hv : IntKind.i64.wrap (IntKind.i64.wrap (i - ((h.ws.map Wal.av).length : Int)) - 2) = i - h.ws.length - 2 := by rw [W_eq (n := i - ((h.ws.map Wal.av).length : Int)) (by omega) (by omega), W_eq (by omega) (by omega)]; omega
  refine bs.pv (sx := nos) Zc Tryz.func257 (by kernel_rfl) (by kernel_rfl) rfl ?_
  have hn : ¬ (0 <= IntKind.i64.wrap (IntKind.i64.wrap (i - ((h.ws.map Wal.av).length : Int)) - 2)) := by rw [hv]; omega
  repeat' (first | refine wk0 ?_ | (refine wk2 ?_ ?_ <;> intro _) | refine wk4 ?_ | fail); all_goals (conv => whnf)
  all_goals first
   | exact Zf rfl rfl
   | (exfalso; rename_i hx; have := of_decide_eq_true hx; rw [hv] at this; omega)
   | (exfalso; rename_i hx; have := of_decide_eq_true hx; exact hn this)
 cases hi with
 | wall k hk =>
  have e1 : isK h k = false := decide_eq_false (by omega)
  unfold canV; rw [e1]; exact low _ (by omega) (by omega)
 | floor =>
  have e1 : isK h h.ws.length = false := decide_eq_false (by omega)
  unfold canV; rw [e1]; exact low _ (by omega) (by omega)
 | ceil =>
  have e1 : isK h ((h.ws.length : Int) + 1) = false := decide_eq_false (by omega)
  unfold canV; rw [e1]; exact low _ (by omega) (by omega)
 | can j hj =>
  have e1 : isK h ((h.ws.length : Int) + 2 + j) = true := decide_eq_true (by omega)
  unfold canV
  rw [e1]
  dsimp only
  rw [Zq7 hj]
  have hv : IntKind.i64.wrap (IntKind.i64.wrap ((h.ws.length : Int) + 2 + j - ((h.ws.map Wal.av).length : Int)) - 2) = j := by rw [W_eq (n := (h.ws.length : Int) + 2 + j - ((h.ws.map Wal.av).length : Int)) (by omega) (by omega), W_eq (by omega) (by omega)]; omega
  have e2 : (h.ks.map Can.av)[(IntKind.i64.wrap (IntKind.i64.wrap ((h.ws.length : Int) + 2 + j - ((h.ws.map Wal.av).length : Int)) - 2)).toNat]? = some (Can.av h.ks[j]) := by rw [hv]; exact Zdo hj
  have e3 : 0 <= IntKind.i64.wrap (IntKind.i64.wrap ((h.ws.length : Int) + 2 + j - ((h.ws.map Wal.av).length : Int)) - 2) := by omega
  have e4 : decide (0 <= IntKind.i64.wrap (IntKind.i64.wrap ((h.ws.length : Int) + 2 + j - ((h.ws.map Wal.av).length : Int)) - 2)) = true := decide_eq_true e3
  refine bs.pv (sx := nos) Zc Tryz.func257 (by kernel_rfl) (by kernel_rfl) rfl ?_
  repeat' (first | refine wk0 ?_ | (refine wk2 ?_ ?_ <;> intro _) | refine wk4 ?_ | fail); all_goals (conv => whnf)
  all_goals first
   | exact Zf rfl rfl
   | (exfalso; rename_i hx; rw [e4] at hx; cases hx)
def Zdj (h : Hal) (s : Stg) (j : Nat) : Int := match h.ks[j]?, s.hs[j]? with
 | some c, some n => c.hs.getD n.toNat 0
 | _, _ => 0
theorem Znt {h : Hal} {s : Stg} (g : SetOk h s) {j : Nat} (hj : j < h.ks.length) : ∃ n, (nl s.hs)[((j : Nat) : Int).toNat]? = some [I n] /\ 0 <= n /\ n < h.ks[j].hs.length /\ (nl h.ks[j].hs)[n.toNat]? = some [I (Zdj h s j)] := by
 have h2 : j < s.hs.length := by rw [g.len]; exact hj
 obtain ⟨g1, g2⟩ := g.hs j hj h2
 refine ⟨s.hs[j], Xw h2, g1, g2, ?_⟩
 have h3 : s.hs[j].toNat < h.ks[j].hs.length := by omega
 have e : Zdj h s j = h.ks[j].hs[s.hs[j].toNat] := by unfold Zdj; rw [List.getElem?_eq_getElem hj, List.getElem?_eq_getElem h2]; simp [h3]
 rw [e]
 simp [nl, h3]
set_option maxHeartbeats 4000000 in
theorem c192 {h : Hal} {s : Stg} (g : Sit h s) {j : Nat} (hj : j < h.ks.length) : PCall Tryz.prog 255 [.agg (stgL h s), I j] ⟨I (Zdj h s j), []⟩ := by
 obtain ⟨n, e1, e2, e3, e4⟩ := Znt g.set hj
 have e5 := Zdo hj
 generalize h.ks[j] = c at *
 have e6 := Zk c.hs
 refine bs.pv (sx := nos) Zc Tryz.func255 (by kernel_rfl) (by kernel_rfl) rfl ?_
 repeat' (first | refine wk1 ?_ | (refine wk2 ?_ ?_ <;> intro _) | refine wk4 ?_ | fail); all_goals (conv => whnf)
 exact Za rfl
def plW (w : Wl) : Int × Int := if w.dx = 0 then (0, w.fx) else if w.dy = 0 then (1, w.fy) else if w.dx = w.dy then (4, IntKind.i64.wrap (w.fx - w.fy)) else (3, IntKind.i64.wrap (w.fx + w.fy))
def Zl (h : Hal) (s : Stg) (i : Int) : Int × Int := if i < h.ws.length then plW (wlOf h.cs i.toNat) else if i = h.ws.length then (2, 0) else if i = (h.ws.length : Int) + 1 then (2, h.ht) else (2, Zdj h s (kix h i))
theorem Zas {h : Hal} {s : Stg} {k : Nat} (hk : k < h.ws.length) : Zl h s k = plW (wlOf h.cs k) := by unfold Zl; rw [if_pos (by omega)]; rfl
theorem Zbc {h : Hal} {s : Stg} : Zl h s h.ws.length = (2, 0) := by unfold Zl; rw [if_neg (by omega), if_pos rfl]
theorem Zca {h : Hal} {s : Stg} : Zl h s ((h.ws.length : Int) + 1) = (2, h.ht) := by unfold Zl; rw [if_neg (by omega), if_neg (by omega), if_pos rfl]
theorem Zdv {h : Hal} {s : Stg} {j : Nat} : Zl h s ((h.ws.length : Int) + 2 + j) = (2, Zdj h s j) := by
 unfold Zl kix
 rw [if_neg (by omega), if_neg (by omega), if_neg (by omega), show ((h.ws.length : Int) + 2 + j - h.ws.length - 2).toNat = j by omega]
noncomputable def kP (h : Hal) (s : Stg) : PC := ins 253 (one [.agg (stgL h s)] ⟨I (h.ws.length : Int), []⟩) (ins 254 (one [.agg (stgL h s)] ⟨I ((h.ws.length : Int) + 1), []⟩) kG4)
theorem Yej {h : Hal} {s : Stg} (g : Sit h s) : PCOK Tryz.prog (kP h s) := Ze (c172 s) (Ze (c173 g.ok.f s) Uq)
set_option maxRecDepth 100000 in
set_option maxHeartbeats 8000000 in
theorem c112 {h : Hal} {s : Stg} (g : Sit h s) {i : Int} (hi : SK h i) : PCall Tryz.prog 165 [.agg (stgL h s), I i] ⟨P2 (Zl h s i).1 (Zl h s i).2, []⟩ := by
 have hk0 := Yej g
 have f3 := g.ok.f.2.2.1
 have f4 := g.ok.f.2.2.2.1
 cases hi with
 | wall k hk =>
  have hk2 : k < h.cs.length := by have := g.fine.le; omega
  rw [Zas hk]
  have hk1 := Ze (Ydb g.ok.f hk2) hk0
  refine bs.pv (sx := nos) hk1 Tryz.func165 (by kernel_rfl) (by kernel_rfl) rfl ?_
  generalize wlOf h.cs k = w at *
  repeat' (first | refine wk1 ?_ | (refine wk2 ?_ ?_ <;> intro _) | refine wk4 ?_ | fail); all_goals (conv => whnf)
  all_goals exact Zf (by clear hk0 hk1; simp_all [plW]) rfl
 | floor =>
  rw [Zbc]
  refine bs.pv (sx := nos) hk0 Tryz.func165 (by kernel_rfl) (by kernel_rfl) rfl ?_
  repeat' (first | refine wk1 ?_ | (refine wk2 ?_ ?_ <;> intro _) | refine wk4 ?_ | fail); all_goals (conv => whnf)
  exact Zf rfl rfl
 | ceil =>
  rw [Zca]
  refine bs.pv (sx := nos) hk0 Tryz.func165 (by kernel_rfl) (by kernel_rfl) rfl ?_
  repeat' (first | refine wk1 ?_ | (refine wk2 ?_ ?_ <;> intro _) | refine wk4 ?_ | fail); all_goals (conv => whnf)
  exact Zf rfl rfl
 | can j hj =>
  rw [Zdv]
  have hv : IntKind.i64.wrap (IntKind.i64.wrap ((h.ws.length : Int) + 2 + j - ((h.ws.length : Int) + 1)) - 1) = j := by rw [W_eq (n := (h.ws.length : Int) + 2 + j - ((h.ws.length : Int) + 1)) (by omega) (by omega), W_eq (by omega) (by omega)]; omega
  have hc := c192 g hj
  rw [<-hv] at hc
  have hk1 := Ze hc hk0
  refine bs.pv (sx := nos) hk1 Tryz.func165 (by kernel_rfl) (by kernel_rfl) rfl ?_
  repeat' (first | refine wk1 ?_ | (refine wk2 ?_ ?_ <;> intro _) | refine wk4 ?_ | fail); all_goals (conv => whnf)
  exact Zf rfl rfl
def Zhb (h : Hal) (s : Stg) (i : Int) : Int × Int := if surE h s i = 0 then Zl h s i else (0, 0)
set_option maxRecDepth 100000 in
set_option maxHeartbeats 8000000 in
theorem c54 {h : Hal} (hk : h.ok) {s : Stg} (hs : s.few) (i : Int) : PCall Tryz.prog 136 [h.av, s.av, I i] ⟨.tup [P2 (Zhb h s i).1 (Zhb h s i).2, I (surE h s i)], []⟩ := by
 have hk0 := Ze (c109 hk hs i) Zc
 by_cases he : surE h s i = 0
 ·have e := Zmk he
  have g := Zmn hk hs e.1
  have hk1 := Ze (c112 g (Zse e.2.1 e.2.2)) hk0
  have e2 : Zhb h s i = Zl h s i := by unfold Zhb; rw [if_pos he]
  rw [e2]
  rw [he] at hk1 ⊢
  refine bs.pv (sx := nos) hk1 Tryz.func136 (by kernel_rfl) (by kernel_rfl) rfl ?_
  repeat' (first | refine wk1 ?_ | (refine wk2 ?_ ?_ <;> intro _) | refine wk4 ?_ | fail); all_goals (conv => whnf)
  exact Zf rfl rfl
 ·have e2 : Zhb h s i = (0, 0) := by unfold Zhb; rw [if_neg he]
  rw [e2]
  refine bs.pv (sx := nos) hk0 Tryz.func136 (by kernel_rfl) (by kernel_rfl) rfl ?_
  repeat' (first | refine wk1 ?_ | (refine wk2 ?_ ?_ <;> intro _) | refine wk4 ?_ | fail); all_goals (conv => whnf)
  exact Zf rfl rfl
theorem Zl7 {h : Hal} {i : Int} (hi : i < (h.ws.length : Int) + 2) : canV h i = .agg canZ /\ isK h i = false := by
 have e1 : isK h i = false := decide_eq_false (by omega)
 unfold canV; rw [e1]; exact ⟨rfl, rfl⟩
theorem Zzj {h : Hal} {j : Nat} (hj : j < h.ks.length) : canV h ((h.ws.length : Int) + 2 + j) = .agg (Can.av h.ks[j]) /\ isK h ((h.ws.length : Int) + 2 + j) = true := by
 have e1 : isK h ((h.ws.length : Int) + 2 + j) = true := decide_eq_true (by omega)
 unfold canV; rw [e1, <-Zq7 hj]; exact ⟨rfl, rfl⟩
theorem d87 (a b c d : Int) : PCall Tryz.prog 87 [P2 a b, P2 c d] ⟨P2 (IntKind.i64.wrap (c - a)) (IntKind.i64.wrap (d - b)), []⟩ := by
 refine bs.pv (sx := nos) Zc Tryz.func87 (by kernel_rfl) (by kernel_rfl) rfl ?_
 repeat' (first | refine wk3 ?_ | (refine wk2 ?_ ?_ <;> intro _) | refine wk4 ?_ | fail); all_goals (conv => whnf)
 exact Zf rfl rfl
def Zjw (ax ay : Int) (vis : Int × Int -> Bool) : List (Int × Int) -> List (List AV)
 | [] => []
 | p :: l => if p.1 = ax /\ p.2 = ay then Zjw ax ay vis l else if vis p = true then [P2 (IntKind.i64.wrap (p.1 - ax)) (IntKind.i64.wrap (p.2 - ay))] :: Zjw ax ay vis l else Zjw ax ay vis l
theorem Zsf (ax ay : Int) (vis : Int × Int -> Bool) (p : Int × Int) (l : List (Int × Int)) : Zjw ax ay vis (p :: l) = if p.1 = ax /\ p.2 = ay then Zjw ax ay vis l else if vis p = true then [P2 (IntKind.i64.wrap (p.1 - ax)) (IntKind.i64.wrap (p.2 - ay))] :: Zjw ax ay vis l else Zjw ax ay vis l := rfl
def rFr : List AV -> Option PRes
 | [.agg [.int .i64 a, .int .i64 b], .agg [.int .i64 c, .int .i64 d]] => some ⟨P2 (IntKind.i64.wrap (c - a)) (IntKind.i64.wrap (d - b)), []⟩
 | _ => none
def LN (es : Nat) (a : AV) : Prop := a = .nils \/ ∃ L, a = .isl es L
structure Pl where
 nm : ByteArray
 ht : Int
 fl : ByteArray
 ce : ByteArray
 ms : List (List AV)
 ps : List (Int × Int)
 wa : List (List AV)
 ca : AV
 se : AV
abbrev Pl.c (p : Pl) : List AV := [.str p.nm, I p.ht, .str p.fl, .str p.ce, .isl 6 p.ms, .isl 2 (p.ps.map pt), .isl 3 p.wa, p.ca, p.se]
abbrev rayA (ax ay dx dy last : Int) : AV := .agg [I ax, I ay, I dx, I dy, I last]
set_option maxHeartbeats 4000000 in
theorem Yfv {q : Pl} (h1 : LN 7 q.ca) (h2 : LN 4 q.se) (hn : q.ps.length < 1000) (ax ay last : Int) (bB bA : Int × Int -> Bool)
  (hB : ∀ p ∈ q.ps, PCall Tryz.prog 250 [.agg q.c, rayA ax ay (IntKind.i64.wrap (p.1 - ax)) (IntKind.i64.wrap (p.2 - ay)) last, P2 1 1] ⟨Bo (bB p), []⟩)
  (hA : ∀ p ∈ q.ps, PCall Tryz.prog 280 [.agg q.c, rayA ax ay (IntKind.i64.wrap (p.1 - ax)) (IntKind.i64.wrap (p.2 - ay)) last, P2 1 1] ⟨Bo (bA p), []⟩) :
  ItOK Tryz.prog 279 [] [.ipt q.c, .ipt [I ax, I ay], .ipt [I last]] (Zjw ax ay (fun p => bB p && !bA p) q.ps) := by
 obtain ⟨nm, ht, fl, ce, ms, ps, wa, ca, se⟩ := q
 dsimp only at h1 h2 hn hB hA ⊢
 have l1 : (ps.map pt).length = ps.length := by simp
 refine bs.yiter (sx := nos) Zc Tryz.func279 (by kernel_rfl) rfl (by kernel_rfl) fun B Ig l JX hI => ?_
 rcases h1 with rfl | ⟨L1, rfl⟩ <;> rcases h2 with rfl | ⟨L2, rfl⟩
 all_goals
  conv => whnf
  refine Zsr (S := Nat × Int) (fun t => ps.length - t.1) (fun t => [(0, .yld l), (1, .ipt [.str nm, I ht, .str fl, .str ce, .isl 6 ms, .isl 2 (ps.map pt), .isl 3 wa, _, _]), (2, .ipt [I ax, I ay]), (3, .ipt [I last]), (11, .isl 2 (ps.map pt)), (12, I (ps.map pt).length), (13, I t.2)]) (fun _ => []) (fun t => some (Zjw ax ay (fun p => bB p && !bA p) (ps.drop t.1))) 0 (fun _ => 0) (fun t => t.2 = t.1 /\ t.1 <= ps.length) (0, 0) ⟨rfl, Nat.zero_le _⟩ (Nat.le_refl _) rfl [] rfl (kps) (kps) ?_
  rintro ⟨k, i⟩ ⟨hi, hk⟩
  dsimp only at hi hk
  subst hi
  by_cases hlt : k < ps.length
  ·have e1 : (ps.map pt)[((k : Nat) : Int).toNat]? = some (pt ps[k]) := by simp [hlt]
   have hm := List.getElem_mem hlt
   have hT := Ze (hB _ hm) (Ze (hA _ hm) (Zi (f0 := 87) (r := rFr) (fun a res h => by unfold rFr at h; split at h <;> cases h; exact d87 _ _ _ _) Zc))
   have hG : (IntKind.i64.wrap ((k : Int) + 1) = ((k + 1 : Nat) : Int) /\ k + 1 <= ps.length) /\ ps.length - (k + 1) < ps.length - k := ⟨⟨Zg (by omega), hlt⟩, by omega⟩
   dsimp only
   rw [List.drop_eq_getElem_cons hlt]
   rw [Zsf]
   generalize ps[k] = p at *
   clear hB hA hm
   obtain ⟨px, py⟩ := p
   dsimp only at e1 hT ⊢
   generalize bB (px, py) = b1 at *
   generalize bA (px, py) = b2 at *
   by_cases c : px = ax /\ py = ay
   ·rw [if_pos c]
    refine bs.yv hT hI (sx := nos) ?_
    repeat' (first | refine wk3 ?_ | (refine wk2 ?_ ?_ <;> intro _) | refine wk4 ?_ | fail); all_goals (conv => whnf)
    all_goals first
     | (refine Done.mk ?_; exact ⟨(k + 1, _), [], rfl, kps, kps, rfl, hG.1, hG.2⟩)
     | (exfalso; clear hT e1; simp_all; done)
   ·rw [if_neg c]
    cases b1 <;> cases b2
    all_goals
     refine bs.yv hT hI (sx := nos) ?_
     repeat' (first | refine wk3 ?_ | (refine wk2 ?_ ?_ <;> intro _) | refine wk4 ?_ | fail); all_goals (conv => whnf)
    all_goals first
     | (refine Done.mk ?_; exact ⟨(k + 1, _), [], rfl, kps, kps, rfl, hG.1, hG.2⟩)
     | (exfalso; rename_i q; simp at q; exact c q)
     | skip
    all_goals
     refine Yd.mk ⟨rfl, rfl, .same rfl, fun _ => rfl, ?_, ?_⟩
     all_goals repeat' (first | refine wk3 ?_ | (refine wk2 ?_ ?_ <;> intro _) | refine wk4 ?_ | fail); all_goals (conv => whnf)
    all_goals first
     | (refine Done.mk ?_; exact ⟨(k + 1, _), [], rfl, kps, kps, rfl, hG.1, hG.2⟩)
     | exact Done.mk (.inr rfl)
  ·dsimp only
   rw [List.drop_of_length_le (by omega)]
   unfold Zjw
   refine bs.yv Zc hI (sx := nos) ?_
   repeat' (first | refine wk3 ?_ | (refine wk2 ?_ ?_ <;> intro _) | refine wk4 ?_ | fail); all_goals (conv => whnf)
   exact Done.mk (.inl rfl)
def bxP : Pl := ⟨⟨⟨[104]⟩⟩, 600, ⟨⟨[119]⟩⟩, ⟨⟨[119]⟩⟩, [[.str ⟨⟨[119]⟩⟩, I 100, I 100, I 100, I 100, I 0]], [(0, 0), (1000, 0), (1000, 2000), (0, 2000)],
 [[.str ⟨⟨[97]⟩⟩, .str ⟨⟨[119]⟩⟩, .str ⟨⟨[]⟩⟩], [.str ⟨⟨[98]⟩⟩, .str ⟨⟨[119]⟩⟩, .str ⟨⟨[]⟩⟩], [.str ⟨⟨[99]⟩⟩, .str ⟨⟨[119]⟩⟩, .str ⟨⟨[]⟩⟩], [.str ⟨⟨[100]⟩⟩, .str ⟨⟨[119]⟩⟩, .str ⟨⟨[]⟩⟩]], .nils, .nils⟩
abbrev Ydr (p : Int × Int) : List AV := [.agg bxP.c, rayA 500 1000 (IntKind.i64.wrap (p.1 - 500)) (IntKind.i64.wrap (p.2 - 1000)) (-1), P2 1 1]
noncomputable def allR (f : FuncId) (v : AV) (l : List (List AV)) : Bool := l.all fun a => isR v (pcF (exT [197] Zt5) f a)
set_option maxRecDepth 1000000 in
theorem sB : allR 250 (.bool true) (bxP.ps.map Ydr) = true := by kernel_rfl
set_option maxRecDepth 1000000 in
theorem sA : allR 280 (.bool false) (bxP.ps.map Ydr) = true := by kernel_rfl
theorem Zrz {f : FuncId} {v : AV} {l : List (List AV)} (h : allR f v l = true) {a : List AV} (ha : a ∈ l) : PCall Tryz.prog f a ⟨v, []⟩ := Zqu Zlh (List.all_eq_true.1 h a ha)
def bxX : List (List AV) := [[P2 (-500) (-1000)], [P2 500 (-1000)], [P2 500 1000], [P2 (-500) 1000]]
theorem Yfq : ItOK Tryz.prog 279 [] [.ipt bxP.c, .ipt [I 500, I 1000], .ipt [I (-1)]] bxX :=
 Yfv (q := bxP) (.inl rfl) (.inl rfl) (by decide) 500 1000 (-1) (fun _ => true) (fun _ => false) (fun p hp => Zrz sB (List.mem_map_of_mem hp)) (fun p hp => Zrz sA (List.mem_map_of_mem hp))
def itT5 : ITab := fun g c0 c1 => cond (Nat.beq g 279 && (eqL c0 [] && eqL c1 [.ipt bxP.c, .ipt [I 500, I 1000], .ipt [I (-1)]])) (some bxX) (itT g c0 c1)
theorem Yci : ∀ g c0 c1 xs, itT5 g c0 c1 = some xs -> ItOK Tryz.prog g c0 c1 xs := by
 intro g c0 c1 xs h
 unfold itT5 at h
 cases hb : (Nat.beq g 279 && (eqL c0 [] && eqL c1 [.ipt bxP.c, .ipt [I 500, I 1000], .ipt [I (-1)]])) with
 | true =>
  rw [hb] at h
  cases h
  simp only [Bool.and_eq_true] at hb
  rw [Nat.eq_of_beq_eq_true hb.1, Zer _ _ hb.2.1, Zer _ _ hb.2.2]
  exact Yfq
 | false => rw [hb] at h; exact Yat g c0 c1 xs h
noncomputable def exT5 (xs : List Nat) (pt : PC) : CF := exG Tryz.prog (tget tbl) (memN eqs) itT5 (memN xs) pt 1000 60
theorem Zv8 {xs : List Nat} {pt : PC} (hpt : PCOK Tryz.prog pt) : CFOK Tryz.prog (exT5 xs pt) := Zjd Zxy eqOK Yci mixed hpt 60
theorem Yc {xs : List Nat} {pt : PC} (hpt : PCOK Tryz.prog pt) {f : FuncId} {a : List AV} {v : AV} (h : isR v (pcF (exT5 xs pt) f a) = true) : PCall Tryz.prog f a ⟨v, []⟩ := Zls (Zv8 hpt) (Yau h)
mutual
def toFz (bl : List (Nat × List (List AV))) : AV -> Option AV
 | .asl id 0 len => match bl[id]? with
  | some (es, els) => cond (Nat.beq len els.length) (some (.isl es els)) none
  | none => none
 | .agg cs => match Zsa bl cs with
  | some ds => some (.agg ds)
  | none => none
 | .tup cs => match Zsa bl cs with
  | some ds => some (.tup ds)
  | none => none
 | .int k n => some (.int k n)
 | .bool b => some (.bool b)
 | .nils => some .nils
 | _ => none
def Zsa (bl : List (Nat × List (List AV))) : List AV -> Option (List AV)
 | [] => some []
 | c :: cs => match toFz bl c, Zsa bl cs with
  | some d, some ds => some (d :: ds)
  | _, _ => none
end
mutual
theorem Ztz (bl : List (Nat × List (List AV))) : ∀ (v : AV) {v' : AV}, toFz bl v = some v' -> Frz bl v v'
 | .asl id 0 len, v', h => by
  simp only [toFz] at h
  split at h
  ·rename_i es els hb
   obtain ⟨h1, h⟩ := Zd h
   cases h
   exact ⟨hb, rfl, Nat.eq_of_beq_eq_true h1⟩
  ·cases h
 | .agg cs, v', h => by
  simp only [toFz] at h
  split at h
  ·rename_i ds hd
   cases h
   exact Zle bl cs hd
  ·cases h
 | .tup cs, v', h => by
  simp only [toFz] at h
  split at h
  ·rename_i ds hd
   cases h
   exact Zle bl cs hd
  ·cases h
 | .int k n, v', h => by simp only [toFz] at h; cases h; exact ⟨rfl, rfl⟩
 | .bool b, v', h => by simp only [toFz] at h; cases h; exact ⟨rfl, rfl⟩
 | .nils, v', h => by simp only [toFz] at h; cases h; exact ⟨rfl, rfl⟩
 | .any, _, h | .flt _ _, _, h | .cpx _ _ _, _, h | .str _, _, h | .ptr _ _ _, _, h | .ipt _, _, h | .nilp, _, h | .bsl _ _ _ _ _, _, h | .isl _ _, _, h | .amap _, _, h | .func _ _ _, _, h | .yld _, _, h | .asl _ (_ + 1) _, _, h => by simp [toFz] at h
theorem Zle (bl : List (Nat × List (List AV))) : ∀ (v : List AV) {v' : List AV}, Zsa bl v = some v' -> FrzL bl v v'
 | [], v', h => by simp only [Zsa] at h; cases h; exact trivial
 | c :: cs, v', h => by
  simp only [Zsa] at h
  split at h
  ·rename_i d ds h1 h2
   cases h
   exact ⟨Ztz bl c h1, Zle bl cs h2⟩
  ·cases h
end
def isRF (v0 : AV) : Option PRes -> Bool
 | some ⟨v, bl⟩ => match toFz bl v with
  | some u => eqA u v0
  | none => false
 | _ => false
theorem Zik {xs : List Nat} {pt : PC} (hpt : PCOK Tryz.prog pt) {f : FuncId} {a : List AV} {v : AV} (h : isRF v (pcF (exT5 xs pt) f a) = true) : PCall Tryz.prog f a ⟨v, []⟩ := by
 unfold isRF at h
 split at h
 ·rename_i u bl hu
  split at h
  ·rename_i d hd
   rw [<-Zwh _ _ h]
   exact (Zls (Zv8 hpt) hu).freeze (Ztz bl u hd)
  ·cases h
 ·cases h
set_option maxRecDepth 1000000 in
theorem Yf7 : isR (.tup [.agg [I 0, I 0], I 0]) (pcF (exT [197] Zt5) 153 [.agg bxP.c]) = true := by kernel_rfl
theorem Yfd : PCall Tryz.prog 153 [.agg bxP.c] ⟨.tup [.agg [I 0, I 0], I 0], []⟩ := Zqu Zlh Yf7
noncomputable def boxT : PC := Za2 153 [.agg bxP.c] (.tup [.agg [I 0, I 0], I 0]) Zt5
theorem Zw2 : PCOK Tryz.prog boxT := Yf Yfd Zlh
set_option maxRecDepth 1000000 in
theorem aw77 : isR (I 0) (pcF (exT5 [153, 197] boxT) 77 [.agg bxP.c, .agg [.nils, .nils]]) = true := by kernel_rfl
noncomputable def t77 : PC := Za2 77 [.agg bxP.c, .agg [.nils, .nils]] (I 0) boxT
theorem Zz5 : PCOK Tryz.prog t77 := Yf (Yc Zw2 aw77) Zw2
set_option maxRecDepth 1000000 in
theorem aw24 : isR (I 0) (pcF (exT5 [77, 153, 197] t77) 24 [.agg bxP.c, .agg [.nils, .nils], .agg [I 300, I 700, I 150, I 300, I 800, I 50, I 2]]) = true := by kernel_rfl
noncomputable def t24 : PC := Za2 24 [.agg bxP.c, .agg [.nils, .nils], .agg [I 300, I 700, I 150, I 300, I 800, I 50, I 2]] (I 0) t77
theorem Zz9 : PCOK Tryz.prog t24 := Yf (Yc Zz5 aw24) Zz5
set_option maxRecDepth 1000000 in
theorem aw64 : isR (I 0) (pcF (exT5 [24, 77, 153, 197] t24) 64 [.agg bxP.c, .isl 1 [[I 1]]]) = true := by kernel_rfl
noncomputable def t64 : PC := Za2 64 [.agg bxP.c, .isl 1 [[I 1]]] (I 0) t24
theorem Zz6 : PCOK Tryz.prog t64 := Yf (Yc Zz9 aw64) Zz9
set_option maxRecDepth 1000000 in
theorem Yf9 : isR (.tup [.agg [I 1000, I 750, I 100, I 1], I 0]) (pcF (exT5 [24, 64, 77, 153, 197] t64) 124 [.agg bxP.c, .agg [.nils, .nils], .agg [I 1, I 1700, I 700, I 150, I 300, I 800, I 50, I 1]]) = true := by kernel_rfl
noncomputable def t124 : PC := Za2 124 [.agg bxP.c, .agg [.nils, .nils], .agg [I 1, I 1700, I 700, I 150, I 300, I 800, I 50, I 1]] (.tup [.agg [I 1000, I 750, I 100, I 1], I 0]) t64
theorem Zt1 : PCOK Tryz.prog t124 := Yf (Yc Zz6 Yf9) Zz6
set_option maxRecDepth 1000000 in
theorem Yff : isR (.tup [.bool true, I 0]) (pcF (exT5 [24, 64, 77, 124, 153, 197] t124) 125 [.agg bxP.c, .agg [.nils, .nils], .agg [I 300, I 700, I 150, I 1, I 1000, I 750, I 100, I 1]]) = true := by kernel_rfl
noncomputable def Ybn : PC := Za2 125 [.agg bxP.c, .agg [.nils, .nils], .agg [I 300, I 700, I 150, I 1, I 1000, I 750, I 100, I 1]] (.tup [.bool true, I 0]) t124
theorem Zql : PCOK Tryz.prog Ybn := Yf (Yc Zt1 Yff) Zt1
set_option maxRecDepth 1000000 in
theorem Yfe : isR (.tup [.bool true, I 0]) (pcF (exT5 [24, 64, 77, 124, 125, 153, 197] Ybn) 125 [.agg bxP.c, .agg [.nils, .nils], .agg [I 1000, I 750, I 100, I 1, I 300, I 800, I 50, I 1]]) = true := by kernel_rfl
noncomputable def Ybm : PC := Za2 125 [.agg bxP.c, .agg [.nils, .nils], .agg [I 1000, I 750, I 100, I 1, I 300, I 800, I 50, I 1]] (.tup [.bool true, I 0]) Ybn
theorem Zqk : PCOK Tryz.prog Ybm := Yf (Yc Zql Yfe) Zql
set_option maxRecDepth 1000000 in
theorem Yf8 : isR (.tup [.agg [I 0, I 1000], I 0]) (pcF (exT5 [24, 64, 77, 124, 125, 153, 197] Ybm) 136 [.agg bxP.c, .agg [.nils, .nils], I 1]) = true := by kernel_rfl
noncomputable def t136 : PC := Za2 136 [.agg bxP.c, .agg [.nils, .nils], I 1] (.tup [.agg [I 0, I 1000], I 0]) Ybm
theorem Zt0 : PCOK Tryz.prog t136 := Yf (Yc Zqk Yf8) Zqk
set_option maxRecDepth 1000000 in
theorem aw14 : isRF (.tup [.agg [.isl 1 [[I 1]], .isl 4 [[I 1000, I 750, I 100, I 1]], I 1980000], I 0]) (pcF (exT5 [24, 64, 77, 124, 125, 136, 153, 197] t136) 14 [.agg bxP.c, .agg [.nils, .nils], .agg [I 300, I 700, I 150, I 300, I 800, I 50, I 2], .isl 1 [[I 1]]]) = true := by kernel_rfl
noncomputable def t14 : PC := Za2 14 [.agg bxP.c, .agg [.nils, .nils], .agg [I 300, I 700, I 150, I 300, I 800, I 50, I 2], .isl 1 [[I 1]]] (.tup [.agg [.isl 1 [[I 1]], .isl 4 [[I 1000, I 750, I 100, I 1]], I 1980000], I 0]) t136
theorem Yaa : PCOK Tryz.prog t14 := Yf (Zik Zt0 aw14) Zt0
set_option maxRecDepth 1000000 in
theorem aw38 : isR (.tup [.agg [I 4159, I 4160], I 0]) (pcF (exT5 [14, 24, 64, 77, 124, 125, 136, 153, 197] t14) 38 [.agg [.nils, .nils, I 20000], I 34000]) = true := by kernel_rfl
noncomputable def t38 : PC := Za2 38 [.agg [.nils, .nils, I 20000], I 34000] (.tup [.agg [I 4159, I 4160], I 0]) t14
theorem Zz8 : PCOK Tryz.prog t38 := Yf (Yc Yaa aw38) Yaa
set_option maxRecDepth 1000000 in
theorem Yga : isR (.tup [.agg bxP.c, I 0]) (pcF (exT5 [14, 24, 38, 64, 77, 124, 125, 136, 153, 197] t38) 117 [.agg bxP.c, .agg [I 500, I 1000], I 0]) = true := by kernel_rfl
noncomputable def t117 : PC := Za2 117 [.agg bxP.c, .agg [I 500, I 1000], I 0] (.tup [.agg bxP.c, I 0]) t38
theorem Zt2 : PCOK Tryz.prog t117 := Yf (Yc Zz8 Yga) Zz8
set_option maxRecDepth 1000000 in
theorem awn0 : isR (.tup [.agg [I 1000000, I 4000, I 2, .bool true], .bool true]) (pcF (exT5 [14, 24, 38, 64, 77, 117, 124, 125, 136, 153, 197] t117) 121 [.agg bxP.c, .agg [I 500, I 1000, I 0, I 4, I (-1)]]) = true := by kernel_rfl
noncomputable def tn0 : PC := Za2 121 [.agg bxP.c, .agg [I 500, I 1000, I 0, I 4, I (-1)]] (.tup [.agg [I 1000000, I 4000, I 2, .bool true], .bool true]) t117
theorem Zz4 : PCOK Tryz.prog tn0 := Yf (Yc Zt2 awn0) Zt2
set_option maxRecDepth 1000000 in
theorem awn1 : isR (.tup [.agg [I 1000000, I 4000, I 3, .bool true], .bool true]) (pcF (exT5 [14, 24, 38, 64, 77, 117, 121, 124, 125, 136, 153, 197] tn0) 121 [.agg bxP.c, .agg [I 500, I 1000, I (-2), I 0, I (-1)]]) = true := by kernel_rfl
noncomputable def tn1 : PC := Za2 121 [.agg bxP.c, .agg [I 500, I 1000, I (-2), I 0, I (-1)]] (.tup [.agg [I 1000000, I 4000, I 3, .bool true], .bool true]) tn0
theorem Zz3 : PCOK Tryz.prog tn1 := Yf (Yc Zz4 awn1) Zz4
set_option maxRecDepth 1000000 in
theorem awn2 : isR (.tup [.agg [I 1000000, I 4000, I 0, .bool true], .bool true]) (pcF (exT5 [14, 24, 38, 64, 77, 117, 121, 124, 125, 136, 153, 197] tn1) 121 [.agg bxP.c, .agg [I 500, I 1000, I 0, I (-4), I (-1)]]) = true := by kernel_rfl
noncomputable def tn2 : PC := Za2 121 [.agg bxP.c, .agg [I 500, I 1000, I 0, I (-4), I (-1)]] (.tup [.agg [I 1000000, I 4000, I 0, .bool true], .bool true]) tn1
theorem Zz2 : PCOK Tryz.prog tn2 := Yf (Yc Zz3 awn2) Zz3
set_option maxRecDepth 1000000 in
theorem awn3 : isR (.tup [.agg [I 1000000, I 4000, I 1, .bool true], .bool true]) (pcF (exT5 [14, 24, 38, 64, 77, 117, 121, 124, 125, 136, 153, 197] tn2) 121 [.agg bxP.c, .agg [I 500, I 1000, I 2, I 0, I (-1)]]) = true := by kernel_rfl
noncomputable def tn3 : PC := Za2 121 [.agg bxP.c, .agg [I 500, I 1000, I 2, I 0, I (-1)]] (.tup [.agg [I 1000000, I 4000, I 1, .bool true], .bool true]) tn2
theorem Zz1 : PCOK Tryz.prog tn3 := Yf (Yc Zz2 awn3) Zz2
set_option maxRecDepth 1000000 in
theorem awr0 : isR (.tup [.agg [I 1000000, I 2000, I 1, .bool true], .bool true]) (pcF (exT5 [14, 24, 38, 64, 77, 117, 121, 124, 125, 136, 153, 197] tn3) 121 [.agg bxP.c, .agg [I 500, I 1000, I 1, I 0, I (-1)]]) = true := by kernel_rfl
noncomputable def tr0 : PC := Za2 121 [.agg bxP.c, .agg [I 500, I 1000, I 1, I 0, I (-1)]] (.tup [.agg [I 1000000, I 2000, I 1, .bool true], .bool true]) tn3
theorem Zz0 : PCOK Tryz.prog tr0 := Yf (Yc Zz1 awr0) Zz1
set_option maxRecDepth 1000000 in
theorem awr1 : isR (.tup [.agg [I 3000000, I 2000, I 3, .bool true], .bool true]) (pcF (exT5 [14, 24, 38, 64, 77, 117, 121, 124, 125, 136, 153, 197] tr0) 121 [.agg bxP.c, .agg [I 1500, I 1000, I (-1), I 0, I 1]]) = true := by kernel_rfl
noncomputable def tr1 : PC := Za2 121 [.agg bxP.c, .agg [I 1500, I 1000, I (-1), I 0, I 1]] (.tup [.agg [I 3000000, I 2000, I 3, .bool true], .bool true]) tr0
theorem Zzz : PCOK Tryz.prog tr1 := Yf (Yc Zz0 awr1) Zz0
set_option maxRecDepth 1000000 in
theorem awr2 : isR (.tup [.agg [I 5000000, I 2000, I 1, .bool true], .bool true]) (pcF (exT5 [14, 24, 38, 64, 77, 117, 121, 124, 125, 136, 153, 197] tr1) 121 [.agg bxP.c, .agg [I (-1500), I 1000, I 1, I 0, I 3]]) = true := by kernel_rfl
noncomputable def tr2 : PC := Za2 121 [.agg bxP.c, .agg [I (-1500), I 1000, I 1, I 0, I 3]] (.tup [.agg [I 5000000, I 2000, I 1, .bool true], .bool true]) tr1
theorem Zzy : PCOK Tryz.prog tr2 := Yf (Yc Zzz awr2) Zzz
set_option maxRecDepth 1000000 in
theorem aw61 : isRF (.tup [.isl 8 [[.nils, I 500, I 1000, I 1, I 2, I (-1), I 2, I 2], [.nils, I 500, I 1000, I (-1), I 2, I (-1), I (-2), I 3], [.nils, I 500, I 1000, I (-1), I (-2), I 1, I (-2), I 0], [.nils, I 500, I 1000, I 1, I (-2), I 1, I 2, I 1]], I 0]) (pcF (exT5 [14, 24, 38, 64, 77, 117, 121, 124, 125, 136, 153, 197] tr2) 61 [.agg bxP.c, .agg [I 500, I 1000], I 0]) = true := by kernel_rfl
noncomputable def t61 : PC := Za2 61 [.agg bxP.c, .agg [I 500, I 1000], I 0] (.tup [.isl 8 [[.nils, I 500, I 1000, I 1, I 2, I (-1), I 2, I 2], [.nils, I 500, I 1000, I (-1), I 2, I (-1), I (-2), I 3], [.nils, I 500, I 1000, I (-1), I (-2), I 1, I (-2), I 0], [.nils, I 500, I 1000, I 1, I (-2), I 1, I 2, I 1]], I 0]) tr2
theorem Zz7 : PCOK Tryz.prog t61 := Yf (Zik Zzy aw61) Zzy
set_option maxRecDepth 1000000 in
theorem aw62 : isRF (.tup [.isl 1 [[I 1], [I 3], [I 1]], I 0]) (pcF (exT5 [14, 24, 38, 61, 64, 77, 117, 121, 124, 125, 136, 153, 197] t61) 62 [.agg bxP.c, .agg [I 500, I 1000], .agg [I 1, I 0], I 3]) = true := by kernel_rfl
noncomputable def t62 : PC := Za2 62 [.agg bxP.c, .agg [I 500, I 1000], .agg [I 1, I 0], I 3] (.tup [.isl 1 [[I 1], [I 3], [I 1]], I 0]) t61
theorem Ydj : PCOK Tryz.prog t62 := Yf (Zik Zz7 aw62) Zz7
set_option maxRecDepth 1000000 in
theorem aw12 : isR (.bool true) (pcF (exT5 [14, 24, 38, 61, 62, 64, 77, 117, 121, 124, 125, 136, 153, 197] t62) 12 []) = true := by kernel_rfl
theorem Zzr : PCall Tryz.prog 12 [] ⟨.bool true, []⟩ := Yc Ydj aw12
theorem own : ownKnob Tryz.prog.godebug = none := by kernel_rfl
theorem Yce : laidOutB Tryz.prog = true := by kernel_rfl
theorem Yfy : laidOutB Tryz.checked.prog = true := by kernel_rfl
theorem Yfw : mapsRowed Tryz.checked.prog = true := by kernel_rfl
theorem Yez : Tryz.checked.prog.plainKeys = Rows.imageDelaysRow.plainKeys := by kernel_rfl
theorem Ye2 : Tryz.checked.prog.stopsHeard = true := by kernel_rfl
theorem fMay : Tryz.checked.prog.mayEnter = true := by kernel_rfl
theorem Ye0 : Tryz.checked.prog.liftsFinal = Rows.imageDelaysRow.lifted := by kernel_rfl
theorem Yfx : Tryz.checked.prog.make = some Rows.imageDelaysRow.make := by kernel_rfl
theorem Yaj {a b c : Int} (hc : 0 < c) : a * c < b * c ↔ a < b := ⟨fun h => Int.lt_of_mul_lt_mul_right h (by omega), fun h => Int.mul_lt_mul_of_pos_right h hc⟩
theorem Yee {a b c : Int} (hc : 0 < c) : a * c <= b * c ↔ a <= b := ⟨fun h => Int.le_of_mul_le_mul_right h hc, fun h => Int.mul_le_mul_of_nonneg_right h (by omega)⟩
theorem Yd5 {a c : Int} (hc : 0 < c) : 0 < c * a ↔ 0 < a := by rw [Int.mul_comm]; have := Yaj (a := 0) (b := a) hc; rwa [Int.zero_mul] at this
theorem Yfr {a c : Int} (hc : 0 < c) : c * a < 0 ↔ a < 0 := by rw [Int.mul_comm]; have := Yaj (a := a) (b := 0) hc; rwa [Int.zero_mul] at this
theorem np_l {a c : Int} (hc : 0 < c) : c * a <= 0 ↔ a <= 0 := by rw [Int.mul_comm]; have := Yee (a := a) (b := 0) hc; rwa [Int.zero_mul] at this
theorem Zgt (a b : Int) : imin a b = min a b := by
 unfold imin; by_cases h : b < a <;> simp [h] <;> omega
theorem Zgu (a b : Int) : imax a b = max a b := by
 unfold imax; by_cases h : a < b <;> simp [h] <;> omega
theorem Zdd {a b d : Int} (hd : 0 < d) : min a b * d = min (a * d) (b * d) := by
 rcases Int.le_total a b with h | h
 ·rw [Int.min_eq_left h, Int.min_eq_left (Int.mul_le_mul_of_nonneg_right h (by omega))]
 ·rw [Int.min_eq_right h, Int.min_eq_right (Int.mul_le_mul_of_nonneg_right h (by omega))]
theorem Zde {a b d : Int} (hd : 0 < d) : max a b * d = max (a * d) (b * d) := by
 rcases Int.le_total a b with h | h
 ·rw [Int.max_eq_right h, Int.max_eq_right (Int.mul_le_mul_of_nonneg_right h (by omega))]
 ·rw [Int.max_eq_left h, Int.max_eq_left (Int.mul_le_mul_of_nonneg_right h (by omega))]
structure P2d where
 x : Int
 y : Int
 d : Int
def bsP (w : Wl) (sx sy : Int) (p : P2d) : Int := bes w sx sy p.x p.y p.d
theorem Yfk {r : Rc} (hr : RcOk r) {x y d : Int} (hd : 0 < d /\ d <= 1000000000000000) : r.has x y d = true ↔ 0 <= x - r.xl * d /\ 0 <= r.xh * d - x /\ 0 <= y - r.yl * d /\ 0 <= r.yh * d - y := by
 obtain ⟨h1, h2, h3, h4, h5, h6⟩ := hr
 have c1 := Zj (f := r.xl) (d := d) (by omega) hd.1
 have c2 := Zj (f := r.xh) (d := d) (by omega) hd.1
 have c3 := Zj (f := r.yl) (d := d) (by omega) hd.1
 have c4 := Zj (f := r.yh) (d := d) (by omega) hd.1
 unfold Rc.has
 rw [W_eq (n := r.xl * d) (by omega) (by omega), W_eq (n := r.xh * d) (by omega) (by omega), W_eq (n := r.yl * d) (by omega) (by omega), W_eq (n := r.yh * d) (by omega) (by omega), Bool.and_eq_true, within_iff, within_iff]
 omega
theorem Zkh {r : Rc} (hr : RcOk r) {x y d : Int} (hd : 0 < d /\ d <= 1000000000000000) : r.holds x y d = true ↔ 0 < x - r.xl * d /\ 0 < r.xh * d - x /\ 0 < y - r.yl * d /\ 0 < r.yh * d - y := by
 obtain ⟨h1, h2, h3, h4, h5, h6⟩ := hr
 have c1 := Zj (f := r.xl) (d := d) (by omega) hd.1
 have c2 := Zj (f := r.xh) (d := d) (by omega) hd.1
 have c3 := Zj (f := r.yl) (d := d) (by omega) hd.1
 have c4 := Zj (f := r.yh) (d := d) (by omega) hd.1
 unfold Rc.holds
 rw [W_eq (n := r.xl * d) (by omega) (by omega), W_eq (n := r.xh * d) (by omega) (by omega), W_eq (n := r.yl * d) (by omega) (by omega), W_eq (n := r.yh * d) (by omega) (by omega)]
 simp only [Bool.and_eq_true, decide_eq_true_eq]
 omega
def Ztq (p q : Pt) : Int := IntKind.i64.wrap (IntKind.i64.wrap (q.x * p.d) - IntKind.i64.wrap (p.x * q.d))
def Ztp (p q : Pt) : Int := IntKind.i64.wrap (IntKind.i64.wrap (q.y * p.d) - IntKind.i64.wrap (p.y * q.d))
def cmpP (a b c d : Int) : Int := sgn (a * b - c * d)
def Zlb (p q : Pt) (x y : Int) : Int := cmpP (Ztq p q) (IntKind.i64.wrap (IntKind.i64.wrap (y * p.d) - p.y)) (Ztp p q) (IntKind.i64.wrap (IntKind.i64.wrap (x * p.d) - p.x))
def ovl (fr den to oth a b : Int) : Bool := decide (imin (IntKind.i64.wrap (fr * oth)) (IntKind.i64.wrap (to * den)) < IntKind.i64.wrap (IntKind.i64.wrap (imax a b * den) * oth)) && decide (IntKind.i64.wrap (IntKind.i64.wrap (imin a b * den) * oth) < imax (IntKind.i64.wrap (fr * oth)) (IntKind.i64.wrap (to * den)))
def touP (p q : Pt) (w : Wl) : Bool :=
 if Ztq p q = 0 /\ Ztp p q = 0 then w.has p.x p.y p.d
 else if w.side p.x p.y p.d = 0 /\ w.side q.x q.y q.d = 0 then (if w.fx = w.tx then ovl p.y p.d q.y q.d w.fy w.ty else ovl p.x p.d q.x q.d w.fx w.tx)
 else if 0 <= IntKind.i64.wrap (w.side p.x p.y p.d * w.side q.x q.y q.d) then false
 else decide (IntKind.i64.wrap (Zlb p q w.fx w.fy * Zlb p q w.tx w.ty) <= 0)
def crV (N M : P2d) (D x y : Int) : Int := (M.x - N.x) * (y * D - N.y) - (M.y - N.y) * (x * D - N.x)
def tch (N M : P2d) (D ax ay bx by' : Int) : Prop := ∃ s t l m : Int, 0 <= s /\ 0 <= t /\ 0 < s + t /\ 0 <= l /\ 0 <= m /\ 0 < l + m /\ (l * N.x + m * M.x) * (s + t) = (l + m) * (D * (s * ax + t * bx)) /\ (l * N.y + m * M.y) * (s + t) = (l + m) * (D * (s * ay + t * by'))
theorem Zxv {N M : P2d} {D ax ay bx by' : Int} (h : tch N M D ax ay bx by') : tch N M D bx by' ax ay := by
 obtain ⟨s, t, l, m, h1, h2, h3, h4, h5, h6, h7, h8⟩ := h
 exact ⟨t, s, l, m, h2, h1, by omega, h4, h5, h6, by rw [Int.add_comm t s, Int.add_comm (t * bx)]; exact h7, by rw [Int.add_comm t s, Int.add_comm (t * by')]; exact h8⟩
theorem Zxu {N M : P2d} {D ax ay bx by' : Int} (h : tch N M D ax ay bx by') : tch M N D ax ay bx by' := by
 obtain ⟨s, t, l, m, h1, h2, h3, h4, h5, h6, h7, h8⟩ := h
 exact ⟨s, t, m, l, h1, h2, h3, h5, h4, by omega, by rw [Int.add_comm m l, Int.add_comm (m * M.x)]; exact h7, by rw [Int.add_comm m l, Int.add_comm (m * M.y)]; exact h8⟩
theorem Ydi {N M : P2d} {D ax ay bx by' : Int} (hy : N.y < M.y) {s t : Int} (hs : 0 <= s) (ht : 0 <= t) (hw : 0 < s + t) (h1 : N.y * (s + t) <= D * (s * ay + t * by')) (h2 : D * (s * ay + t * by') <= M.y * (s + t)) (h0 : s * crV N M D ax ay + t * crV N M D bx by' = 0) : tch N M D ax ay bx by' := by
 refine ⟨s, t, M.y * (s + t) - D * (s * ay + t * by'), D * (s * ay + t * by') - N.y * (s + t), hs, ht, hw, by omega, by omega, ?_, ?_, ?_⟩
 ·have : (M.y - N.y) * (s + t) = M.y * (s + t) - N.y * (s + t) := Int.sub_mul _ _ _
  have := Int.mul_pos (show 0 < M.y - N.y by omega) hw
  omega
 ·unfold crV at h0
  grind
 ·grind
theorem Ybk {N M : P2d} {D ax ay bx by' : Int} (hy : N.y < M.y) {s t s' t' : Int} (hs : 0 <= s) (ht : 0 <= t) (hw : 0 < s + t) (hs' : 0 <= s') (ht' : 0 <= t') (hw' : 0 < s' + t') (h1 : N.y * (s + t) <= D * (s * ay + t * by')) (h2 : D * (s * ay + t * by') <= M.y * (s + t))
  (h1' : N.y * (s' + t') <= D * (s' * ay + t' * by')) (h2' : D * (s' * ay + t' * by') <= M.y * (s' + t')) (c1 : s * crV N M D ax ay + t * crV N M D bx by' < 0) (c2 : 0 <= s' * crV N M D ax ay + t' * crV N M D bx by') : tch N M D ax ay bx by' := by
 generalize hA : crV N M D ax ay = A at *
 generalize hB : crV N M D bx by' = B at *
 generalize hp : s * A + t * B = p at *
 generalize hq : s' * A + t' * B = q at *
 have k1 := Int.mul_nonneg c2 hs
 have k2 := Int.mul_nonneg c2 ht
 have k3 := Int.mul_nonneg (show 0 <= -p by omega) hs'
 have k4 := Int.mul_nonneg (show 0 <= -p by omega) ht'
 have k5 := Int.mul_pos (show 0 < -p by omega) hw'
 have k6 := Int.mul_nonneg c2 (Int.le_of_lt hw)
 have e0 : q * s + -p * s' + (q * t + -p * t') = q * (s + t) + -p * (s' + t') := by grind
 have eY : D * ((q * s + -p * s') * ay + (q * t + -p * t') * by') = q * (D * (s * ay + t * by')) + -p * (D * (s' * ay + t' * by')) := by grind
 have i1 := Int.mul_le_mul_of_nonneg_left h1 c2
 have i2 := Int.mul_le_mul_of_nonneg_left h2 c2
 have i3 := Int.mul_le_mul_of_nonneg_left h1' (show 0 <= -p by omega)
 have i4 := Int.mul_le_mul_of_nonneg_left h2' (show 0 <= -p by omega)
 refine Ydi hy (s := q * s + -p * s') (t := q * t + -p * t') (by omega) (by omega) (by omega) ?_ ?_ ?_
 ·rw [e0, eY]
  have : N.y * (q * (s + t) + -p * (s' + t')) = q * (N.y * (s + t)) + -p * (N.y * (s' + t')) := by grind
  omega
 ·rw [e0, eY]
  have : M.y * (q * (s + t) + -p * (s' + t')) = q * (M.y * (s + t)) + -p * (M.y * (s' + t')) := by grind
  omega
 ·rw [hA, hB]
  have : (q * s + -p * s') * A + (q * t + -p * t') * B = q * (s * A + t * B) + -p * (s' * A + t' * B) := by grind
  rw [this, hp, hq]; grind
def detE (p : P2d) (D ax ay bx by' : Int) : Int := (bx - ax) * (p.y - ay * D) - (by' - ay) * (p.x - ax * D)
def upE (p : P2d) (D ax ay bx by' : Int) : Prop := ay * D <= p.y /\ p.y < by' * D /\ 0 < detE p D ax ay bx by'
def rgE (N M : P2d) (D x y : Int) : Prop := N.y < y * D /\ y * D <= M.y /\ crV N M D x y < 0
theorem Zwi {N M : P2d} {D ax ay bx by' : Int} (hD : 0 < D) (hy : N.y <= M.y) (hab : ay <= by') (nt : ¬ tch N M D ax ay bx by') :
  (upE N D ax ay bx by' ↔ upE M D ax ay bx by') ↔ (rgE N M D ax ay ↔ rgE N M D bx by') := by
 have hm : ay * D <= by' * D := Int.mul_le_mul_of_nonneg_right hab (Int.le_of_lt hD)
 by_cases hyy : N.y = M.y
 ·
  have r1 : ∀ x y, ¬ rgE N M D x y := by rintro x y ⟨a, b, _⟩; omega
  have key : upE N D ax ay bx by' ↔ upE M D ax ay bx by' := by
   by_cases hl : ay * D <= N.y /\ N.y < by' * D
   ·have dd : detE N D ax ay bx by' - detE M D ax ay bx by' = (by' - ay) * (M.x - N.x) := by unfold detE; rw [hyy]; grind
    have hw : by' * D - ay * D = (by' - ay) * D := by rw [Int.sub_mul]
    have t1 : ∀ s, s = by' * D - N.y -> ∀ t, t = N.y - ay * D -> D * (s * ax + t * bx) = N.x * ((by' - ay) * D) + D * detE N D ax ay bx by' := by
     rintro s rfl t rfl; unfold detE; grind
    have t2 : ∀ s, s = by' * D - N.y -> ∀ t, t = N.y - ay * D -> D * (s * ay + t * by') = N.y * ((by' - ay) * D) := by
     rintro s rfl t rfl; grind
    unfold upE
    rw [<-hyy]
    constructor
    ·rintro ⟨h1, h2, h3⟩
     refine ⟨h1, h2, ?_⟩
     by_cases h4 : 0 < detE M D ax ay bx by'
     ·exact h4
     exfalso
     refine nt ⟨by' * D - N.y, N.y - ay * D, -detE M D ax ay bx by', detE N D ax ay bx by', by omega, by omega, by omega, by omega, by omega, by omega, ?_, ?_⟩
     ·rw [t1 _ rfl _ rfl, show by' * D - N.y + (N.y - ay * D) = (by' - ay) * D by omega]
      generalize detE N D ax ay bx by' = u at *
      generalize detE M D ax ay bx by' = v at *
      grind
     ·rw [t2 _ rfl _ rfl, show by' * D - N.y + (N.y - ay * D) = (by' - ay) * D by omega, <-hyy]
      generalize detE N D ax ay bx by' = u at *
      generalize detE M D ax ay bx by' = v at *
      grind
    ·rintro ⟨h1, h2, h3⟩
     refine ⟨h1, h2, ?_⟩
     by_cases h4 : 0 < detE N D ax ay bx by'
     ·exact h4
     exfalso
     refine nt ⟨by' * D - N.y, N.y - ay * D, detE M D ax ay bx by', -detE N D ax ay bx by', by omega, by omega, by omega, by omega, by omega, by omega, ?_, ?_⟩
     ·rw [t1 _ rfl _ rfl, show by' * D - N.y + (N.y - ay * D) = (by' - ay) * D by omega]
      generalize detE N D ax ay bx by' = u at *
      generalize detE M D ax ay bx by' = v at *
      grind
     ·rw [t2 _ rfl _ rfl, show by' * D - N.y + (N.y - ay * D) = (by' - ay) * D by omega, <-hyy]
      generalize detE N D ax ay bx by' = u at *
      generalize detE M D ax ay bx by' = v at *
      grind
   ·unfold upE
    rw [<-hyy]
    constructor <;> (rintro ⟨h1, h2, h3⟩; exact absurd ⟨h1, h2⟩ hl)
  exact ⟨fun _ => ⟨fun h => absurd h (r1 _ _), fun h => absurd h (r1 _ _)⟩, fun _ => key⟩
 have hy : N.y < M.y := by omega
 have lvl : ∀ p : P2d, ay * D <= p.y -> p.y < by' * D -> 0 <= by' * D - p.y /\ 0 <= p.y - ay * D /\ 0 < (by' * D - p.y) + (p.y - ay * D) /\ D * ((by' * D - p.y) * ay + (p.y - ay * D) * by') = p.y * ((by' * D - p.y) + (p.y - ay * D)) := by
  intro p h1 h2
  refine ⟨by omega, by omega, by omega, by grind⟩
 have crN : (by' * D - N.y) * crV N M D ax ay + (N.y - ay * D) * crV N M D bx by' = -((M.y - N.y) * D * detE N D ax ay bx by') := by unfold crV detE; grind
 have crM : (by' * D - M.y) * crV N M D ax ay + (M.y - ay * D) * crV N M D bx by' = -((M.y - N.y) * D * detE M D ax ay bx by') := by unfold crV detE; grind
 have hp : 0 < (M.y - N.y) * D := Int.mul_pos (by omega) hD
 have sN : ∀ v, -((M.y - N.y) * D * v) < 0 ↔ 0 < v := fun v => by have := Yd5 (a := v) hp; omega
 have sN2 : ∀ v, 0 <= -((M.y - N.y) * D * v) ↔ v <= 0 := fun v => by have := np_l (a := v) hp; omega
 have one : D * (1 * ay + 0 * by') = ay * D /\ D * (0 * ay + 1 * by') = by' * D := by constructor <;> grind
 have cA : 1 * crV N M D ax ay + 0 * crV N M D bx by' = crV N M D ax ay := by omega
 have cB : 0 * crV N M D ax ay + 1 * crV N M D bx by' = crV N M D bx by' := by omega
 have two := fun {s t s' t' : Int} => @Ybk N M D ax ay bx by' hy s t s' t'
 by_cases a0 : ay * D <= N.y
 ·by_cases b0 : by' * D <= N.y
  ·unfold upE rgE; constructor <;> intro _ <;> constructor <;> (rintro ⟨h1, h2, h3⟩; omega)
  obtain ⟨l1, l2, l3, l4⟩ := lvl N a0 (by omega)
  by_cases b1 : by' * D <= M.y
  ·
   have key : 0 < detE N D ax ay bx by' ↔ crV N M D bx by' < 0 := by
    constructor
    ·intro h
     by_cases hc : crV N M D bx by' < 0
     ·exact hc
     exact absurd (two (s' := 0) (t' := 1) l1 l2 l3 (by omega) (by omega) (by omega) (by rw [l4]; omega) (by rw [l4]; exact Int.mul_le_mul_of_nonneg_right (Int.le_of_lt hy) (Int.le_of_lt l3)) (by rw [one.2]; omega) (by rw [one.2]; omega) (by rw [crN]; exact (sN _).2 h) (by rw [cB]; omega)) nt
    ·intro h
     by_cases hc : 0 < detE N D ax ay bx by'
     ·exact hc
     exact absurd (two (s := 0) (t := 1) (by omega) (by omega) (by omega) l1 l2 l3 (by rw [one.2]; omega) (by rw [one.2]; omega) (by rw [l4]; omega) (by rw [l4]; exact Int.mul_le_mul_of_nonneg_right (Int.le_of_lt hy) (Int.le_of_lt l3)) (by rw [cB]; exact h) (by rw [crN]; exact (sN2 _).2 (by omega))) nt
   unfold upE rgE
   rw [<-key]
   generalize detE N D ax ay bx by' = u at *
   constructor
   ·intro h
    constructor
    ·rintro ⟨h1, _, _⟩; omega
    ·rintro ⟨_, _, h3⟩
     have := h.1 ⟨a0, by omega, h3⟩
     omega
   ·intro h
    constructor
    ·rintro ⟨_, _, h3⟩
     have := h.2 ⟨by omega, b1, h3⟩
     omega
    ·rintro ⟨_, h2, _⟩; omega
  ·
   obtain ⟨m1, m2, m3, m4⟩ := lvl M (by omega) (by omega)
   have key : 0 < detE N D ax ay bx by' ↔ 0 < detE M D ax ay bx by' := by
    constructor
    ·intro h
     by_cases hc : 0 < detE M D ax ay bx by'
     ·exact hc
     exact absurd (two l1 l2 l3 m1 m2 m3 (by rw [l4]; omega) (by rw [l4]; exact Int.mul_le_mul_of_nonneg_right (Int.le_of_lt hy) (Int.le_of_lt l3)) (by rw [m4]; exact Int.mul_le_mul_of_nonneg_right (Int.le_of_lt hy) (Int.le_of_lt m3)) (by rw [m4]; omega) (by rw [crN]; exact (sN _).2 h) (by rw [crM]; exact (sN2 _).2 (by omega))) nt
    ·intro h
     by_cases hc : 0 < detE N D ax ay bx by'
     ·exact hc
     exact absurd (two m1 m2 m3 l1 l2 l3 (by rw [m4]; exact Int.mul_le_mul_of_nonneg_right (Int.le_of_lt hy) (Int.le_of_lt m3)) (by rw [m4]; omega) (by rw [l4]; omega) (by rw [l4]; exact Int.mul_le_mul_of_nonneg_right (Int.le_of_lt hy) (Int.le_of_lt l3)) (by rw [crM]; exact (sN _).2 h) (by rw [crN]; exact (sN2 _).2 (by omega))) nt
   unfold upE rgE
   rw [key]
   constructor
   ·intro _; constructor <;> (rintro ⟨h1, h2, h3⟩; omega)
   ·intro _
    constructor
    ·rintro ⟨_, _, h3⟩; exact ⟨by omega, by omega, h3⟩
    ·rintro ⟨_, _, h3⟩; exact ⟨by omega, by omega, h3⟩
 by_cases a1 : ay * D <= M.y
 ·by_cases b1 : by' * D <= M.y
  ·
   have key : crV N M D ax ay < 0 ↔ crV N M D bx by' < 0 := by
    constructor
    ·intro h
     by_cases hc : crV N M D bx by' < 0
     ·exact hc
     exact absurd (two (s := 1) (t := 0) (s' := 0) (t' := 1) (by omega) (by omega) (by omega) (by omega) (by omega) (by omega) (by rw [one.1]; omega) (by rw [one.1]; omega) (by rw [one.2]; omega) (by rw [one.2]; omega) (by rw [cA]; exact h) (by rw [cB]; omega)) nt
    ·intro h
     by_cases hc : crV N M D ax ay < 0
     ·exact hc
     exact absurd (two (s := 0) (t := 1) (s' := 1) (t' := 0) (by omega) (by omega) (by omega) (by omega) (by omega) (by omega) (by rw [one.2]; omega) (by rw [one.2]; omega) (by rw [one.1]; omega) (by rw [one.1]; omega) (by rw [cB]; exact h) (by rw [cA]; omega)) nt
   unfold upE rgE
   rw [key]
   constructor
   ·intro _
    constructor
    ·rintro ⟨_, _, h3⟩; exact ⟨by omega, by omega, h3⟩
    ·rintro ⟨_, _, h3⟩; exact ⟨by omega, by omega, h3⟩
   ·intro _; constructor <;> (rintro ⟨h1, h2, h3⟩; omega)
  ·
   obtain ⟨m1, m2, m3, m4⟩ := lvl M a1 (by omega)
   have key : 0 < detE M D ax ay bx by' ↔ crV N M D ax ay < 0 := by
    constructor
    ·intro h
     by_cases hc : crV N M D ax ay < 0
     ·exact hc
     exact absurd (two (s' := 1) (t' := 0) m1 m2 m3 (by omega) (by omega) (by omega) (by rw [m4]; exact Int.mul_le_mul_of_nonneg_right (Int.le_of_lt hy) (Int.le_of_lt m3)) (by rw [m4]; omega) (by rw [one.1]; omega) (by rw [one.1]; omega) (by rw [crM]; exact (sN _).2 h) (by rw [cA]; omega)) nt
    ·intro h
     by_cases hc : 0 < detE M D ax ay bx by'
     ·exact hc
     exact absurd (two (s := 1) (t := 0) (by omega) (by omega) (by omega) m1 m2 m3 (by rw [one.1]; omega) (by rw [one.1]; omega) (by rw [m4]; exact Int.mul_le_mul_of_nonneg_right (Int.le_of_lt hy) (Int.le_of_lt m3)) (by rw [m4]; omega) (by rw [cA]; exact h) (by rw [crM]; exact (sN2 _).2 (by omega))) nt
   unfold upE rgE
   rw [<-key]
   generalize detE M D ax ay bx by' = u at *
   constructor
   ·intro h
    constructor
    ·rintro ⟨_, _, h3⟩
     have := h.2 ⟨a1, by omega, h3⟩
     omega
    ·rintro ⟨_, h2, _⟩; omega
   ·intro h
    constructor
    ·rintro ⟨h1, _, _⟩; omega
    ·rintro ⟨_, _, h3⟩
     have := h.1 ⟨by omega, a1, h3⟩
     omega
 ·unfold upE rgE; constructor <;> intro _ <;> constructor <;> (rintro ⟨h1, h2, h3⟩; omega)
instance (p : P2d) (D ax ay bx by' : Int) : Decidable (upE p D ax ay bx by') := by unfold upE; exact inferInstance
instance (N M : P2d) (D x y : Int) : Decidable (rgE N M D x y) := by unfold rgE; exact inferInstance
def flZ (p : P2d) (w : Wl) : Bool := if w.fy <= w.ty then decide (upE p p.d w.fx w.fy w.tx w.ty) else decide (upE p p.d w.tx w.ty w.fx w.fy)
theorem Yc5 {w : Wl} {n sx sy : Int} (h : Str w n sx sy) (p : P2d) : detE p p.d w.fx w.fy w.tx w.ty = n * bsP w sx sy p /\ detE p p.d w.tx w.ty w.fx w.fy = -(n * bsP w sx sy p) := by
 unfold detE bsP bes
 rw [h.tx, h.ty]
 constructor <;> grind
theorem Ycv {w : Wl} {n sx sy x y d : Int} (h : Str w n sx sy) (hp : PtOk x y d) : flips x y d w = flZ ⟨x, y, d⟩ w := by
 have a2 := Zj h.b2 hp.hd
 have a4 := Zj h.b4 hp.hd
 have hD := hp.hD
 have hd := hp.hd
 obtain ⟨e1, e2⟩ := Yc5 h ⟨x, y, d⟩
 have hn := h.hn
 unfold flips flZ
 rw [Xy h hp, W_eq (n := w.fy * d) (by omega) (by omega), W_eq (n := w.ty * d) (by omega) (by omega)]
 change detE ⟨x, y, d⟩ d w.fx w.fy w.tx w.ty = _ at e1
 change detE ⟨x, y, d⟩ d w.tx w.ty w.fx w.fy = _ at e2
 have p1 := Yd5 (a := bsP w sx sy ⟨x, y, d⟩) hn
 have p2 := Yfr (a := bsP w sx sy ⟨x, y, d⟩) hn
 have es : bes w sx sy x y d = bsP w sx sy ⟨x, y, d⟩ := rfl
 rw [es]
 have u1 : upE ⟨x, y, d⟩ d w.fx w.fy w.tx w.ty ↔ w.fy * d <= y /\ y < w.ty * d /\ 0 < n * bsP w sx sy ⟨x, y, d⟩ := by rw [<-e1]; exact Iff.rfl
 have u2 : upE ⟨x, y, d⟩ d w.tx w.ty w.fx w.fy ↔ w.ty * d <= y /\ y < w.fy * d /\ 0 < -(n * bsP w sx sy ⟨x, y, d⟩) := by rw [<-e2]; exact Iff.rfl
 show _ = if w.fy <= w.ty then decide (upE ⟨x, y, d⟩ d w.fx w.fy w.tx w.ty) else decide (upE ⟨x, y, d⟩ d w.tx w.ty w.fx w.fy)
 by_cases hc : w.fy <= w.ty
 ·have hm : w.fy * d <= w.ty * d := Int.mul_le_mul_of_nonneg_right hc (Int.le_of_lt hd)
  rw [if_pos hc, Bool.eq_iff_iff]
  simp only [Bool.or_eq_true, Bool.and_eq_true, decide_eq_true_eq, Zak, Zal, u1]
  generalize bsP w sx sy ⟨x, y, d⟩ = B at *
  omega
 ·have hm : w.ty * d <= w.fy * d := Int.mul_le_mul_of_nonneg_right (by omega) (Int.le_of_lt hd)
  rw [if_neg hc, Bool.eq_iff_iff]
  simp only [Bool.or_eq_true, Bool.and_eq_true, decide_eq_true_eq, Zak, Zal, u2]
  generalize bsP w sx sy ⟨x, y, d⟩ = B at *
  omega
theorem Zwj {N M : P2d} {D : Int} (hN : N.d = D) (hM : M.d = D) (hD : 0 < D) (hy : N.y <= M.y) {w : Wl} (nt : ¬ tch N M D w.fx w.fy w.tx w.ty) : (flZ N w ^^ flZ M w) = (decide (rgE N M D w.fx w.fy) ^^ decide (rgE N M D w.tx w.ty)) := by
 unfold flZ
 rw [hN, hM]
 by_cases hc : w.fy <= w.ty
 ·rw [if_pos hc, if_pos hc]
  exact Zoz (Zwi hD hy hc nt)
 ·rw [if_neg hc, if_neg hc, Bool.xor_comm (decide (rgE N M D w.fx w.fy))]
  exact Zoz (Zwi hD hy (by omega) fun h => nt (Zxv h))
theorem Zxj {N M : P2d} {D : Int} (hN : N.d = D) (hM : M.d = D) (hD : 0 < D) {cs : List (Int × Int)} (nt : ∀ w ∈ wls cs, ¬ tch N M D w.fx w.fy w.tx w.ty) : xorL ((wls cs).map (flZ N)) = xorL ((wls cs).map (flZ M)) := by
 have key : ∀ N M : P2d, N.d = D -> M.d = D -> N.y <= M.y -> (∀ w ∈ wls cs, ¬ tch N M D w.fx w.fy w.tx w.ty) -> (xorL ((wls cs).map (flZ N)) ^^ xorL ((wls cs).map (flZ M))) = false := by
  intro N M h1 h2 hy h3
  rw [Zhy, <-tele (fun x y => decide (rgE N M D x y)) cs]
  congr 1
  refine List.map_congr_left fun w hw => ?_
  exact Zwj h1 h2 hD hy (h3 w hw)
 have fin : ∀ a b : Bool, (a ^^ b) = false -> a = b := by decide
 rcases Int.le_total N.y M.y with hy | hy
 ·exact fin _ _ (key N M hN hM hy nt)
 ·exact (fin _ _ (key M N hM hN hy fun w hw h => nt w hw (Zxu h))).symm
theorem Znn {x y d : Int} : ∀ (ws : List Wl) (b : Bool), inPl x y d b ws = true -> (b ^^ xorL (ws.map (flips x y d))) = true
 | [], b, h => by simpa [xorL, inPl] using h
 | w :: ws, b, h => by
  rw [inPl] at h
  split at h
  ·cases h
  ·have := Znn ws _ h
   rw [List.map_cons, show xorL (flips x y d w :: ws.map (flips x y d)) = (flips x y d w ^^ xorL (ws.map (flips x y d))) from rfl, <-Bool.xor_assoc]
   exact this
theorem Zka {α : Type} (f : α -> Bool) : ∀ (l : List α), (∀ a ∈ l, f a = false) -> xorL (l.map f) = false
 | [], _ => rfl
 | a :: l, h => by
  rw [List.map_cons, show xorL (f a :: l.map f) = (f a ^^ xorL (l.map f)) from rfl, h a (by simp), Zka f l fun b hb => h b (by simp [hb])]
  rfl
theorem Ycy {w : Wl} {p : P2d} (hd : 0 < p.d) (h1 : -5000 <= w.fy /\ w.fy <= 5000) (h2 : -5000 <= w.ty /\ w.ty <= 5000) (hy : p.y < -(5000 * p.d) \/ 5000 * p.d < p.y) : flZ p w = false := by
 have a1 := Int.mul_le_mul_of_nonneg_right h1.1 (Int.le_of_lt hd)
 have a2 := Int.mul_le_mul_of_nonneg_right h1.2 (Int.le_of_lt hd)
 have a3 := Int.mul_le_mul_of_nonneg_right h2.1 (Int.le_of_lt hd)
 have a4 := Int.mul_le_mul_of_nonneg_right h2.2 (Int.le_of_lt hd)
 unfold flZ
 split
 ·rw [decide_eq_false]
  rintro ⟨b1, b2, _⟩
  omega
 ·rw [decide_eq_false]
  rintro ⟨b1, b2, _⟩
  omega
theorem Ybl {N M : P2d} {D ax ay bx by' : Int} (hD : 0 < D) (hM : M.x = N.x) (h1 : -5000 <= ax /\ ax <= 5000) (h2 : -5000 <= bx /\ bx <= 5000) (hx : N.x < -(5000 * D) \/ 5000 * D < N.x) : ¬ tch N M D ax ay bx by' := by
 rintro ⟨s, t, l, m, hs, ht, hst, hl, hm, hlm, e, _⟩
 rw [hM, <-Int.add_mul, Int.mul_assoc] at e
 have e := Int.eq_of_mul_eq_mul_left (by omega) e
 have a1 := Int.mul_le_mul_of_nonneg_left h1.1 hs
 have a2 := Int.mul_le_mul_of_nonneg_left h1.2 hs
 have a3 := Int.mul_le_mul_of_nonneg_left h2.1 ht
 have a4 := Int.mul_le_mul_of_nonneg_left h2.2 ht
 have b1 := Int.mul_le_mul_of_nonneg_left (show s * ax + t * bx <= 5000 * (s + t) by omega) (Int.le_of_lt hD)
 have b2 := Int.mul_le_mul_of_nonneg_left (show -5000 * (s + t) <= s * ax + t * bx by omega) (Int.le_of_lt hD)
 rw [<-e] at b1 b2
 have c1 : D * (5000 * (s + t)) = 5000 * D * (s + t) := by grind
 have c2 : D * (-5000 * (s + t)) = -(5000 * D) * (s + t) := by grind
 rw [c1] at b1
 rw [c2] at b2
 rcases hx with hx | hx
 ·have := Int.mul_lt_mul_of_pos_right hx hst
  omega
 ·have := Int.mul_lt_mul_of_pos_right hx hst
  omega
theorem Zkr {h : Hal} (hs : Zaa h.cs) {x y d : Int} (hp : PtOk x y d) (hi : Ye h x y d = true) : (-(5000 * d) <= x /\ x <= 5000 * d) /\ (-(5000 * d) <= y /\ y <= 5000 * d) := by
 have hd := hp.hd
 have h0 : xorL ((wls h.cs).map (flZ ⟨x, y, d⟩)) = true := by
  have := Znn _ _ hi
  rw [Bool.false_xor] at this
  rw [<-this]
  congr 1
  refine List.map_congr_left fun w hw => ?_
  obtain ⟨n, sx, sy, g⟩ := Zah hs w hw
  exact (Ycv g hp).symm
 have far : ∀ p : P2d, 0 < p.d -> (p.y < -(5000 * p.d) \/ 5000 * p.d < p.y) -> xorL ((wls h.cs).map (flZ p)) = false := fun p hpd hy =>
  Zka _ _ fun w hw => by
   obtain ⟨n, sx, sy, g⟩ := Zah hs w hw
   exact Ycy hpd g.b2 g.b4 hy
 have hy : ¬ (y < -(5000 * d) \/ 5000 * d < y) := fun hy => by
  rw [far ⟨x, y, d⟩ hd hy] at h0; cases h0
 have hx : ¬ (x < -(5000 * d) \/ 5000 * d < x) := fun hx => by
  rw [Zxj (N := ⟨x, y, d⟩) (M := ⟨x, 5001 * d, d⟩) (D := d) rfl rfl hd (fun w hw => by
   obtain ⟨n, sx, sy, g⟩ := Zah hs w hw
   exact Ybl hd rfl g.b1 g.b3 hx), far ⟨x, 5001 * d, d⟩ hd (.inr (by dsimp only; omega))] at h0
  cases h0
 omega
def i64 (n : Int) : Prop := -9223372036854775808 <= n /\ n <= 9223372036854775807
theorem Yab {a : Int} (h : i64 a) : size a = IntKind.i64.wrap (a.natAbs : Int) := by
 unfold size imax
 obtain ⟨h1, h2⟩ := h
 by_cases h3 : a = -9223372036854775808
 ·subst h3; decide
 ·rw [W_eq (n := 0 - a) (by omega) (by omega), W_eq (by omega) (by omega)]
  by_cases h4 : a < 0 - a
  ·rw [decide_eq_true h4]; simp only [cond_true]; omega
  ·rw [decide_eq_false h4]; simp only [cond_false]; omega
theorem Zs1 (a : Int) : i64 (IntKind.i64.wrap a) := by unfold i64; simp only [IntKind.wrap_i64]; omega
theorem Zq0 {g : Nat} (h : g <= 9223372036854775808) : (IntKind.i64.wrap (g : Int)).natAbs = g := by
 by_cases h3 : g = 9223372036854775808
 ·subst h3; decide
 ·rw [W_eq (by omega) (by omega)]; simp
theorem Zxt {a b : Int} (ha : i64 a) (hb : b ≠ 0) : i64 (a.tmod b) := by
 obtain ⟨h1, h2⟩ := ha
 have h3 : (a.tmod b).natAbs <= a.natAbs := by rw [Int.natAbs_tmod]; exact Nat.mod_le _ _
 have h4 : 0 <= a -> 0 <= a.tmod b := fun h => Int.tmod_nonneg b h
 have h5 : a <= 0 -> a.tmod b <= 0 := fun h => by have := Int.tmod_nonneg b (a := -a) (by omega); rw [Int.neg_tmod] at this; omega
 unfold i64
 omega
theorem Zyz {a b : Int} : Nat.gcd b.natAbs (a.tmod b).natAbs = Nat.gcd a.natAbs b.natAbs := by
 rw [Int.natAbs_tmod, Nat.gcd_comm, <-Nat.gcd_rec, Nat.gcd_comm]
def g4 (p : Pt) : Nat := Nat.gcd (Nat.gcd p.x.natAbs p.y.natAbs) (Nat.gcd p.z.natAbs p.d.natAbs)
structure Pt.wf (p : Pt) : Prop where
 x : i64 p.x
 y : i64 p.y
 z : i64 p.z
 d : i64 p.d
theorem Yax {a b : Int} (ha : i64 a) (hb : i64 b) : Nat.gcd a.natAbs b.natAbs <= 9223372036854775808 := by
 obtain ⟨a1, a2⟩ := ha
 obtain ⟨b1, b2⟩ := hb
 by_cases h : a.natAbs = 0
 ·rw [h, Nat.gcd_zero_left]; omega
 ·exact Nat.le_trans (Nat.gcd_le_left _ (by omega)) (by omega)
theorem Yew {p : Pt} (hp : p.wf) (hd : 0 < p.d) : 0 < g4 p /\ (g4 p : Int) <= p.d := by
 have h1 : g4 p ∣ p.d.natAbs := Nat.dvd_trans (Nat.gcd_dvd_right _ _) (Nat.gcd_dvd_right _ _)
 have h2 := Nat.le_of_dvd (by omega) h1
 have h3 : 0 < g4 p := Nat.pos_of_dvd_of_pos h1 (by omega)
 omega
def ptIn (p : Pt) : Bool := within p.x (-(5000 * p.d)) (5000 * p.d) && within p.y (-(5000 * p.d)) (5000 * p.d) && within p.z (-(5000 * p.d)) (5000 * p.d)
def Xn (p : Pt) : Int := if p.d <= 0 \/ g4 p ≠ 1 then 3 else if 100000 < p.d then 2 else if ptIn p then 0 else 2
theorem Zgn {p : Pt} (h : Xn p = 0) : 0 < p.d /\ p.d <= 100000 /\ g4 p = 1 /\ ptIn p = true := by
 unfold Xn at h
 split at h
 ·cases h
 ·rename_i h1
  split at h
  ·cases h
  ·split at h
   ·rename_i h3; exact ⟨by omega, by omega, by omega, h3⟩
   ·cases h
theorem Zkv (a b c d : Nat) : Nat.gcd (Nat.gcd (Nat.gcd a b) c) d = Nat.gcd (Nat.gcd a b) (Nat.gcd c d) := by rw [Nat.gcd_assoc (Nat.gcd a b)]
def gl : Nat -> List Int -> Nat
 | g, [] => g
 | g, n :: l => gl (Nat.gcd g n.natAbs) l
set_option maxRecDepth 100000 in
set_option maxHeartbeats 8000000 in
theorem c117 {ns : List Int} (hl : ns.length < 1000) (hw : ∀ n ∈ ns, i64 n) : PCall Tryz.prog 170 [.isl 1 (nl ns)] ⟨I (IntKind.i64.wrap ((gl 0 ns : Nat) : Int)), []⟩ := by
 have e3 := Zk ns
 refine bs.pv (sx := nos) Zkq Tryz.func170 (by kernel_rfl) (by kernel_rfl) rfl ?_
 repeat' (first | refine wk1 ?_ | (refine wk2 ?_ ?_ <;> intro _) | refine wk4 ?_ | fail); all_goals (conv => whnf)
 refine Ya (S := Nat × Int × Int) (fun t => ns.length - t.1) (fun t => [(3, I t.2.2), (6, .isl 1 (nl ns)), (7, I (nl ns).length), (8, I t.2.1)]) (fun _ => []) 0 0 (fun t => t.2.1 = t.1 /\ t.1 <= ns.length /\ i64 t.2.2 /\ gl t.2.2.natAbs (ns.drop t.1) = gl 0 ns) (0, 0, 0) ⟨rfl, Nat.zero_le _, (by unfold i64; decide), rfl⟩ (Nat.le_refl _) [] rfl (kps) (kps) ?_
 rintro ⟨k, i, g⟩ ⟨hi, hk, hg, hh⟩
 dsimp only at hi hk hg hh ⊢
 subst hi
 refine bs.av (sx := nos) Zkq ?_
 by_cases hlt : k < ns.length
 ·have e1 := Xw hlt
  have hn := hw _ (List.getElem_mem hlt)
  rw [List.drop_eq_getElem_cons hlt, gl] at hh
  repeat' (first | refine wk1 ?_ | (refine wk2 ?_ ?_ <;> intro _) | refine wk4 ?_ | fail); all_goals (conv => whnf)
  refine Ya (S := Int × Int) (fun t => t.2.natAbs) (fun t => [(3, I t.1), (5, I t.2), (6, .isl 1 (nl ns)), (7, I (nl ns).length), (8, I k)]) (fun _ => []) 0 0 (fun t => (i64 t.1 /\ i64 t.2) /\ Nat.gcd t.1.natAbs t.2.natAbs = Nat.gcd g.natAbs ns[k].natAbs) (g, ns[k]) ⟨⟨hg, hn⟩, rfl⟩ (Nat.le_refl _) [] rfl (kps) (kps) ?_
  rintro ⟨a, b⟩ ⟨⟨ha, hb⟩, hG⟩
  dsimp only at ha hb hG ⊢
  refine bs.av (sx := nos) Zkq ?_
  by_cases h0 : b = 0
  ·subst h0
   repeat' (first | refine wk1 ?_ | (refine wk2 ?_ ?_ <;> intro _) | refine wk4 ?_ | fail); all_goals (conv => whnf)
   exact Done.mk ⟨(k + 1, _, a), [], rfl, kps, kps, ⟨Zg (by omega), hlt, ha, by rw [<-hh, <-hG]; simp⟩, by dsimp only; omega⟩
  ·repeat' (first | refine wk1 ?_ | (refine wk2 ?_ ?_ <;> intro _) | refine wk4 ?_ | fail); all_goals (conv => whnf)
   exact Done.mk ⟨(b, a.tmod b), [], rfl, kps, kps, ⟨⟨hb, Zxt ha h0⟩, by rw [<-hG]; exact Zyz⟩, by
    show (a.tmod b).natAbs < b.natAbs
    rw [Int.natAbs_tmod]; exact Nat.mod_lt _ (by omega)⟩
 rw [List.drop_of_length_le (by omega)] at hh
 repeat' (first | refine wk1 ?_ | (refine wk2 ?_ ?_ <;> intro _) | refine wk4 ?_ | fail); all_goals (conv => whnf)
 exact Za (by show size g = _; rw [Yab hg, <-hh]; rfl)
theorem Yb6 {d : Int} (h0 : 0 < d) (h1 : d <= 100000) : IntKind.i64.wrap (5000 * d) = 5000 * d /\ IntKind.i64.wrap (0 - IntKind.i64.wrap (5000 * d)) = -(5000 * d) := by
 have e : IntKind.i64.wrap (5000 * d) = 5000 * d := W_eq (by omega) (by omega)
 refine ⟨e, ?_⟩
 rw [e, W_eq (by omega) (by omega)]; omega
set_option maxRecDepth 100000 in
set_option maxHeartbeats 8000000 in
theorem c99 {p : Pt} (hp : p.wf) : PCall Tryz.prog 164 [p.av] ⟨I (Xn p), []⟩ := by
 have hc := c117 (ns := [p.x, p.y, p.z, p.d]) (by simp) (by
  intro n hn
  simp only [List.mem_cons, List.not_mem_nil, or_false] at hn
  rcases hn with rfl | rfl | rfl | rfl
  ·exact hp.x
  ·exact hp.y
  ·exact hp.z
  ·exact hp.d)
 have hg : gl 0 [p.x, p.y, p.z, p.d] = g4 p := by
  simp only [gl, Nat.gcd_zero_left]
  exact Zkv _ _ _ _
 rw [hg] at hc
 have hk := Ze hc Uq
 by_cases h1 : p.d <= 0
 ·have e : Xn p = 3 := by unfold Xn; rw [if_pos (.inl h1)]
  rw [e]
  refine bs.pv (sx := nos) hk Tryz.func164 (by kernel_rfl) (by kernel_rfl) rfl ?_
  repeat' (first | refine wk1 ?_ | (refine wk2 ?_ ?_ <;> intro _) | refine wk4 ?_ | fail); all_goals (conv => whnf)
  exact Za rfl
 ·obtain ⟨g1, g2⟩ := Yew hp (by omega)
  have hd := hp.d
  unfold i64 at hd
  have hw : IntKind.i64.wrap ((g4 p : Nat) : Int) = (g4 p : Nat) := W_eq (by omega) (by omega)
  rw [hw] at hk
  by_cases h2 : g4 p = 1
  ·rw [h2] at hk
   by_cases h3 : 100000 < p.d
   ·have e : Xn p = 2 := by unfold Xn; rw [if_neg (by omega), if_pos h3]
    rw [e]
    refine bs.pv (sx := nos) hk Tryz.func164 (by kernel_rfl) (by kernel_rfl) rfl ?_
    repeat' (first | refine wk1 ?_ | (refine wk2 ?_ ?_ <;> intro _) | refine wk4 ?_ | fail); all_goals (conv => whnf)
    exact Za rfl
   ·obtain ⟨m1, m2⟩ := Yb6 (d := p.d) (by omega) (by omega)
    have e : Xn p = if ptIn p then 0 else 2 := by unfold Xn; rw [if_neg (by omega), if_neg h3]
    have e2 : ∀ x, small x (IntKind.i64.wrap (5000 * p.d)) = within x (-(5000 * p.d)) (5000 * p.d) := fun x => by unfold small; rw [m2, m1]
    rw [e]
    unfold ptIn
    rw [<-e2, <-e2, <-e2]
    refine bs.pv (sx := nos) hk Tryz.func164 (by kernel_rfl) (by kernel_rfl) rfl ?_
    repeat' (first | refine wk1 ?_ | (refine wk2 ?_ ?_ <;> intro _) | refine wk4 ?_ | fail); all_goals (conv => whnf)
    all_goals (clear hk hc m1 m2 e2)
    all_goals exact Za (by simp_all [unl])
  ·have e : Xn p = 3 := by unfold Xn; rw [if_pos (.inr h2)]
   rw [e]
   have h4 : (1 : Int) < (g4 p : Nat) := by omega
   refine bs.pv (sx := nos) hk Tryz.func164 (by kernel_rfl) (by kernel_rfl) rfl ?_
   repeat' (first | refine wk1 ?_ | (refine wk2 ?_ ?_ <;> intro _) | refine wk4 ?_ | fail); all_goals (conv => whnf)
   all_goals clear hk hc
   all_goals first
    | exact Za rfl
    | (exfalso; simp_all; done)
    | (exfalso; simp_all; omega)
noncomputable abbrev gcds : List AV -> Option PRes := famA (fun p : Int × Int => i64 p.1 /\ i64 p.2) (fun p => [I p.1, I p.2]) (fun p => ⟨I (IntKind.i64.wrap ((Nat.gcd p.1.natAbs p.2.natAbs : Nat) : Int)), []⟩)
theorem Zl1 {a b : Int} (ha : i64 a) (hb : i64 b) : gcds [I a, I b] = some ⟨I (IntKind.i64.wrap ((Nat.gcd a.natAbs b.natAbs : Nat) : Int)), []⟩ :=
 Zv (p := fun p : Int × Int => i64 p.1 /\ i64 p.2) (g := fun p => [I p.1, I p.2]) (r := fun p => ⟨I (IntKind.i64.wrap ((Nat.gcd p.1.natAbs p.2.natAbs : Nat) : Int)), []⟩) (k := (a, b)) (fun j hj => by
  simp only [List.cons.injEq, AV.int.injEq, true_and, and_true] at hj
  obtain ⟨h1, h2⟩ := hj
  dsimp only
  rw [h1, h2]) ⟨ha, hb⟩
def insE (h : Hal) (p : Pt) : Int := if h.err = 0 then Xn p else h.err
theorem Yby {p : Pt} (h : Xn p = 0) : PtOk p.x p.y p.d := by
 obtain ⟨h1, h2, _, h4⟩ := Zgn h
 unfold ptIn at h4
 simp only [Bool.and_eq_true, within_iff] at h4
 exact ⟨h1, by omega, by omega, by omega⟩
set_option maxRecDepth 100000 in
set_option maxHeartbeats 8000000 in
theorem c50 {h : Hal} (hk : h.ok) {p : Pt} (hp : p.wf) : PCall Tryz.prog 135 [h.av, p.av] ⟨.tup [Bo (decide (insE h p = 0) && Uz h p), I (insE h p)], []⟩ := by
 have hk0 := Ze (c76 hk) (Ze (c99 hp) Zc)
 by_cases he : h.err = 0
 ·have hi : insE h p = Xn p := by unfold insE; rw [if_pos he]
  rw [hi]
  by_cases hq : Xn p = 0
  ·have hf := Zi9 hk he
   have e : Uz h p = Zs2 h p.x p.y p.z p.d := by
    unfold Uz Zs2
    rw [Ur hf.st p.z (Yby hq)]
   have hk1 := Ze (c124 hk.f p.x p.y p.z p.d) hk0
   rw [hq, he] at hk1
   rw [hq, e]
   refine bs.pv (sx := nos) hk1 Tryz.func135 (by kernel_rfl) (by kernel_rfl) rfl ?_
   repeat' (first | refine wk1 ?_ | (refine wk2 ?_ ?_ <;> intro _) | refine wk4 ?_ | fail); all_goals (conv => whnf)
   exact Zf (by simp) rfl
  ·rw [he] at hk0
   rw [decide_eq_false hq]
   refine bs.pv (sx := nos) hk0 Tryz.func135 (by kernel_rfl) (by kernel_rfl) rfl ?_
   repeat' (first | refine wk1 ?_ | (refine wk2 ?_ ?_ <;> intro _) | refine wk4 ?_ | fail); all_goals (conv => whnf)
   exact Zf rfl rfl
 ·have hi : insE h p = h.err := by unfold insE; rw [if_neg he]
  rw [hi, decide_eq_false he]
  refine bs.pv (sx := nos) hk0 Tryz.func135 (by kernel_rfl) (by kernel_rfl) rfl ?_
  repeat' (first | refine wk1 ?_ | (refine wk2 ?_ ?_ <;> intro _) | refine wk4 ?_ | fail); all_goals (conv => whnf)
  exact Zf rfl rfl
set_option maxHeartbeats 4000000 in
theorem c113 (k : Int) (p : Pt) : PCall Tryz.prog 166 [I k, p.av] ⟨I (offN k p.x p.y p.z), []⟩ := by
 refine bs.pv (sx := nos) Zc Tryz.func166 (by kernel_rfl) (by kernel_rfl) rfl ?_
 repeat' (first | refine wk0 ?_ | (refine wk2 ?_ ?_ <;> intro _) | refine wk4 ?_ | fail); all_goals (conv => whnf)
 all_goals exact Za (by simp_all [offN])
def Zme (h : Hal) (w : Wl) (p : Pt) : Bool := !(decide (p.z <= 0) || decide (IntKind.i64.wrap (h.ht * p.d) <= p.z)) && (if w.fx = w.tx then decide (IntKind.i64.wrap (imin w.fy w.ty * p.d) < p.y) && decide (p.y < IntKind.i64.wrap (imax w.fy w.ty * p.d)) else decide (IntKind.i64.wrap (imin w.fx w.tx * p.d) < p.x) && decide (p.x < IntKind.i64.wrap (imax w.fx w.tx * p.d)))
def Za3 (h : Hal) (i : Int) (p : Pt) : Bool := if i < h.ws.length then Zme h (wlOf h.cs i.toNat) p else if i < (h.ws.length : Int) + 2 then Ye h p.x p.y p.d else (kat h i).rc.holds p.x p.y p.d
theorem Zge {h : Hal} {k : Nat} {p : Pt} (hk : k < h.ws.length) : Za3 h k p = Zme h (wlOf h.cs k) p := by unfold Za3; rw [if_pos (by omega)]; rfl
theorem Zeu {h : Hal} {p : Pt} : Za3 h h.ws.length p = Ye h p.x p.y p.d := by unfold Za3; rw [if_neg (by omega), if_pos (by omega)]
theorem Zgf {h : Hal} {p : Pt} : Za3 h ((h.ws.length : Int) + 1) p = Ye h p.x p.y p.d := by unfold Za3; rw [if_neg (by omega), if_pos (by omega)]
theorem Zh2 {h : Hal} {j : Nat} {p : Pt} (hj : j < h.ks.length) : Za3 h ((h.ws.length : Int) + 2 + j) p = h.ks[j].rc.holds p.x p.y p.d := by unfold Za3; rw [if_neg (by omega), if_neg (by omega), Zq7 hj]
set_option maxRecDepth 100000 in
set_option maxHeartbeats 16000000 in
theorem c118 {h : Hal} {s : Stg} (g : Sit h s) {i : Int} (hi : SK h i) (p : Pt) : PCall Tryz.prog 171 [.agg (stgL h s), I i, p.av] ⟨Bo (Za3 h i p), []⟩ := by
 have f3 := g.ok.f.2.2.1
 have f4 := g.ok.f.2.2.2.1
 have hk0 := Ze (c87 g.ok.f s hi) (Ze (c183 g.ok.f p.x p.y p.d) (Yej g))
 cases hi with
 | wall k hk =>
  have hk2 : k < h.cs.length := by have := g.fine.le; omega
  rw [Zge hk]
  obtain ⟨v1, v2⟩ := Zl7 (h := h) (i := k) (by omega)
  rw [v1, v2] at hk0
  have hk1 := Ze (Ydb g.ok.f hk2) hk0
  generalize wlOf h.cs k = w at *
  refine bs.pv (sx := nos) hk1 Tryz.func171 (by kernel_rfl) (by kernel_rfl) rfl ?_
  repeat' (first | refine wk0 ?_ | (refine wk2 ?_ ?_ <;> intro _) | refine wk4 ?_ | fail); all_goals (conv => whnf)
  all_goals clear hk0 hk1
  all_goals first
   | (exfalso; rename_i hx; have hx := of_decide_eq_true (show decide ((k : Int) = (h.ws.length : Int) + 1) = true from hx); omega)
   | (exfalso; rename_i hx; have hx := of_decide_eq_true (show decide ((k : Int) = (h.ws.length : Int)) = true from hx); omega)
   | (refine Zb ?_; simp_all [Zme]; done)
   | (refine Zb ?_; simp_all [Zme]; intro _; omega)
   | (exfalso; simp_all; omega)
 | floor =>
  rw [Zeu]
  obtain ⟨v1, v2⟩ := Zl7 (h := h) (i := h.ws.length) (by omega)
  rw [v1, v2] at hk0
  refine bs.pv (sx := nos) hk0 Tryz.func171 (by kernel_rfl) (by kernel_rfl) rfl ?_
  repeat' (first | refine wk1 ?_ | (refine wk2 ?_ ?_ <;> intro _) | refine wk4 ?_ | fail); all_goals (conv => whnf)
  exact Zb rfl
 | ceil =>
  rw [Zgf]
  obtain ⟨v1, v2⟩ := Zl7 (h := h) (i := (h.ws.length : Int) + 1) (by omega)
  rw [v1, v2] at hk0
  refine bs.pv (sx := nos) hk0 Tryz.func171 (by kernel_rfl) (by kernel_rfl) rfl ?_
  repeat' (first | refine wk1 ?_ | (refine wk2 ?_ ?_ <;> intro _) | refine wk4 ?_ | fail); all_goals (conv => whnf)
  ·exact Zb rfl
  all_goals (exfalso; simp_all; done)
 | can j hj =>
  rw [Zh2 hj]
  obtain ⟨v1, v2⟩ := Zzj hj
  rw [v1, v2] at hk0
  generalize h.ks[j] = c at *
  have hk1 := Ze (c193 c.rc p.x p.y p.d) hk0
  refine bs.pv (sx := nos) hk1 Tryz.func171 (by kernel_rfl) (by kernel_rfl) rfl ?_
  repeat' (first | refine wk1 ?_ | (refine wk2 ?_ ?_ <;> intro _) | refine wk4 ?_ | fail); all_goals (conv => whnf)
  exact Zb rfl
def Ybh (c : Can) (p : Pt) : Bool := Zfu c p && !decide (p.x = IntKind.i64.wrap (c.fx * p.d)) && !decide (p.x = IntKind.i64.wrap (c.tx * p.d)) && !decide (p.y = IntKind.i64.wrap (c.fy * p.d)) && !decide (p.y = IntKind.i64.wrap (c.ty * p.d))
def Zxm (h : Hal) (l : Ln) (p : Pt) : Bool := within (l.along p) 1 (IntKind.i64.wrap (IntKind.i64.wrap (l.full * p.d) - 1)) && within p.z 1 (IntKind.i64.wrap (IntKind.i64.wrap (h.ht * p.d) - 1))
def Zh1 (h : Hal) (i : Int) (p : Pt) : Bool := if i < h.ws.length then Zxm h (lnOf h.cs i.toNat) p else if i < (h.ws.length : Int) + 2 then Zw h p else Ybh (kat h i) p
theorem Zr2 {h : Hal} {k : Nat} {p : Pt} (hk : k < h.ws.length) : Zh1 h k p = Zxm h (lnOf h.cs k) p := by unfold Zh1; rw [if_pos (by omega)]; rfl
theorem Zo1 {h : Hal} {p : Pt} : Zh1 h h.ws.length p = Zw h p := by unfold Zh1; rw [if_neg (by omega), if_pos (by omega)]
theorem Zr3 {h : Hal} {p : Pt} : Zh1 h ((h.ws.length : Int) + 1) p = Zw h p := by unfold Zh1; rw [if_neg (by omega), if_pos (by omega)]
theorem Ztn {h : Hal} {j : Nat} {p : Pt} (hj : j < h.ks.length) : Zh1 h ((h.ws.length : Int) + 2 + j) p = Ybh h.ks[j] p := by unfold Zh1; rw [if_neg (by omega), if_neg (by omega), Zq7 hj]
def valN (k x y z : Int) : Int := if k = 0 then x else if k = 1 then y else if k = 2 then z else if k = 3 then x + y else x - y
theorem Zlp {w : Wl} {n sx sy : Int} (h : Str w n sx sy) : plW w = if sx = 0 then (0, w.fx) else if sy = 0 then (1, w.fy) else if sx = sy then (4, w.fx - w.fy) else (3, w.fx + w.fy) := by
 have hn := h.hn
 have b1 := h.b1
 have b2 := h.b2
 have hxy := h.hxy
 have w4 : IntKind.i64.wrap (w.fx - w.fy) = w.fx - w.fy := W_eq (by omega) (by omega)
 have w3 : IntKind.i64.wrap (w.fx + w.fy) = w.fx + w.fy := W_eq (by omega) (by omega)
 unfold plW
 rw [h.dx, h.dy, w3, w4]
 rcases h.hx with rfl | rfl | rfl <;> rcases h.hy with rfl | rfl | rfl <;> (try (exact absurd ⟨rfl, rfl⟩ hxy)) <;> simp only [Int.mul_zero, Int.mul_one, Int.mul_neg] <;> (repeat' split) <;> first | rfl | (exfalso; omega)
set_option maxHeartbeats 8000000 in
theorem Zts {h : Hal} {w : Wl} {n sx sy : Int} (hs : Str w n sx sy) {p : Pt} (hp : PtOk p.x p.y p.d) (ht : 2 <= h.ht /\ h.ht <= 5000) (hpl : valN (plW w).1 p.x p.y p.z = (plW w).2 * p.d) : Zme h w p = Zxm h w.ln p := by
 obtain ⟨x, y, z, d⟩ := p
 dsimp only at hp hpl
 have hd := hp.hd
 have hD := hp.hD
 have nd := Yb5 hs.hn hs.nle hd
 have a1 := Zj hs.b1 hd
 have a2 := Zj hs.b2 hd
 have a3 := Zj hs.b3 hd
 have a4 := Zj hs.b4 hd
 have hz : IntKind.i64.wrap (h.ht * d) = h.ht * d /\ IntKind.i64.wrap (h.ht * d - 1) = h.ht * d - 1 /\ 0 < h.ht * d := by
  have := Zj (f := h.ht) (d := d) (by omega) hd
  have := Int.mul_pos (a := h.ht) (b := d) (by omega) hd
  exact ⟨W_eq (by omega) (by omega), W_eq (by omega) (by omega), this⟩
 unfold Zme Zxm
 rw [Zry hs hp, Zvx hs]
 rw [Zlp hs] at hpl
 unfold valN at hpl
 rw [Zgt, Zgt, Zgu, Zgu]
 dsimp only
 rw [hz.1, hz.2.1]
 rw [Zdd hd, Zdd hd, Zde hd, Zde hd]
 rw [W_eq (n := min (w.fx * d) (w.tx * d)) (by omega) (by omega), W_eq (n := max (w.fx * d) (w.tx * d)) (by omega) (by omega), W_eq (n := min (w.fy * d) (w.ty * d)) (by omega) (by omega), W_eq (n := max (w.fy * d) (w.ty * d)) (by omega) (by omega)]
 have etx := hs.tx
 have ety := hs.ty
 have b1 := hs.b1
 have b2 := hs.b2
 have hn := hs.hn
 have cnd : (w.fx = w.tx) ↔ sx = 0 := by
  rw [etx]
  constructor
  ·intro e
   have : n * sx = 0 := by omega
   rcases Int.mul_eq_zero.1 this with h | h
   ·omega
   ·exact h
  ·intro e; rw [e]; omega
 have ex : w.tx * d = w.fx * d + sx * (n * d) := by rw [etx]; grind
 have ey : w.ty * d = w.fy * d + sy * (n * d) := by rw [ety]; grind
 have full : n * (sx * sx + sy * sy) * d = (sx * sx + sy * sy) * (n * d) := by grind
 have d3 : (w.fx + w.fy) * d = w.fx * d + w.fy * d := by grind
 have d4 : (w.fx - w.fy) * d = w.fx * d - w.fy * d := by grind
 rw [full, ex, ey]
 unfold alo
 simp only [cnd]
 have hx := hs.hx
 have hy := hs.hy
 have hxy := hs.hxy
 clear full etx ety cnd hs hp hz
 generalize w.fx * d = A at *
 generalize w.fy * d = C at *
 generalize n * d = N at *
 generalize h.ht * d = H at *
 rcases hx with rfl | rfl | rfl <;> rcases hy with rfl | rfl | rfl <;> (try (exact absurd ⟨rfl, rfl⟩ hxy)) <;> simp [IntKind.wrap_i64] at hpl ⊢ <;> rw [Bool.eq_iff_iff] <;> simp [within_iff]
 all_goals omega
structure Crs where
 su : Int
 fx : Int
 fy : Int
 fz : Int
 to : Pt
abbrev Crs.av (c : Crs) : AV := .agg [I c.su, I c.fx, I c.fy, I c.fz, I c.to.x, I c.to.y, I c.to.z, I c.to.d]
def crF (pl : Int × Int) (c : Crs) : Int := valN pl.1 c.fx c.fy c.fz - pl.2
def crG (pl : Int × Int) (c : Crs) : Int := valN pl.1 c.to.x c.to.y c.to.z - pl.2 * c.to.d
def crPt (c : Crs) (u v : Int) : Pt := ⟨c.fx * u + c.to.x * v, c.fy * u + c.to.y * v, c.fz * u + c.to.z * v, u + c.to.d * v⟩
def redP (p : Pt) : Pt := ⟨p.x / (g4 p : Int), p.y / (g4 p : Int), p.z / (g4 p : Int), p.d / (g4 p : Int)⟩
def iabs (n : Int) : Int := if n < 0 then -n else n
def Vo (pl : Int × Int) (c : Crs) : Pt := redP (crPt c (iabs (crG pl c)) (iabs (crF pl c)))
def ptZ : Pt := ⟨0, 0, 0, 0⟩
def Za4 (well : Pt -> Bool) (pl : Int × Int) (c : Crs) : Pt × Int :=
 if 0 <= sgn (crF pl c) * sgn (crG pl c) then (ptZ, 12)
 else if well (Vo pl c) then (if 100000 < (Vo pl c).d then (ptZ, 8) else (Vo pl c, 0))
 else (ptZ, 12)
structure CrOk (pl : Int × Int) (c : Crs) : Prop where
 k0 : 0 <= pl.1
 k4 : pl.1 <= 4
 at' : -10000 <= pl.2 /\ pl.2 <= 10000
 fx : -45000 <= c.fx /\ c.fx <= 45000
 fy : -45000 <= c.fy /\ c.fy <= 45000
 fz : -45000 <= c.fz /\ c.fz <= 45000
 d0 : 0 < c.to.d
 d1 : c.to.d <= 100000
 x : -(5000 * c.to.d) <= c.to.x /\ c.to.x <= 5000 * c.to.d
 y : -(5000 * c.to.d) <= c.to.y /\ c.to.y <= 5000 * c.to.d
 z : -(5000 * c.to.d) <= c.to.z /\ c.to.z <= 5000 * c.to.d
theorem Ya7 {pl : Int × Int} {c : Crs} (h : CrOk pl c) : IntKind.i64.wrap (offN pl.1 c.fx c.fy c.fz - pl.2) = crF pl c /\ IntKind.i64.wrap (offN pl.1 c.fx c.fy c.fz - IntKind.i64.wrap (pl.2 * 1)) = crF pl c /\ -100000 <= crF pl c /\ crF pl c <= 100000 := by
 obtain ⟨h1, h2, h3, h4, h5, h6, _⟩ := h
 unfold crF valN offN
 rw [Int.mul_one, W_eq (n := pl.2) (by omega) (by omega)]
 repeat' split
 all_goals (try rw [W_eq (n := c.fx + c.fy) (by omega) (by omega)])
 all_goals (try rw [W_eq (n := c.fx - c.fy) (by omega) (by omega)])
 all_goals (refine ⟨W_eq (by omega) (by omega), W_eq (by omega) (by omega), by omega, by omega⟩)
theorem Ya6 {pl : Int × Int} {c : Crs} (h : CrOk pl c) : IntKind.i64.wrap (offN pl.1 c.to.x c.to.y c.to.z - IntKind.i64.wrap (pl.2 * c.to.d)) = crG pl c /\ -2000000000 <= crG pl c /\ crG pl c <= 2000000000 := by
 obtain ⟨h1, h2, h3, h4, h5, h6, h7, h8, h9, h10, h11⟩ := h
 have m := Uo (a := pl.2) (b := c.to.d) (A := 10000) (B := 100000) (by omega) (by omega)
 unfold crG valN offN
 rw [W_eq (n := pl.2 * c.to.d) (by omega) (by omega)]
 generalize pl.2 * c.to.d = m at *
 repeat' split
 all_goals (try rw [W_eq (n := c.to.x + c.to.y) (by omega) (by omega)])
 all_goals (try rw [W_eq (n := c.to.x - c.to.y) (by omega) (by omega)])
 all_goals (refine ⟨W_eq (by omega) (by omega), by omega, by omega⟩)
theorem Zwr {pl : Int × Int} {c : Crs} (h : CrOk pl c) {u v : Int} (hu : 0 <= u /\ u <= 2000000000) (hv : 0 <= v /\ v <= 100000) :
  (-90000000000000 <= c.fx * u /\ c.fx * u <= 90000000000000) /\ (-90000000000000 <= c.fy * u /\ c.fy * u <= 90000000000000) /\ (-90000000000000 <= c.fz * u /\ c.fz * u <= 90000000000000) /\
  (-50000000000000 <= c.to.x * v /\ c.to.x * v <= 50000000000000) /\ (-50000000000000 <= c.to.y * v /\ c.to.y * v <= 50000000000000) /\ (-50000000000000 <= c.to.z * v /\ c.to.z * v <= 50000000000000) /\ (0 <= c.to.d * v /\ c.to.d * v <= 10000000000) := by
 obtain ⟨h1, h2, h3, h4, h5, h6, h7, h8, h9, h10, h11⟩ := h
 have m1 := Uo (a := c.fx) (b := u) (A := 45000) (B := 2000000000) (by omega) (by omega)
 have m2 := Uo (a := c.fy) (b := u) (A := 45000) (B := 2000000000) (by omega) (by omega)
 have m3 := Uo (a := c.fz) (b := u) (A := 45000) (B := 2000000000) (by omega) (by omega)
 have m4 := Uo (a := c.to.x) (b := v) (A := 500000000) (B := 100000) (by omega) (by omega)
 have m5 := Uo (a := c.to.y) (b := v) (A := 500000000) (B := 100000) (by omega) (by omega)
 have m6 := Uo (a := c.to.z) (b := v) (A := 500000000) (B := 100000) (by omega) (by omega)
 have m7 := Uo (a := c.to.d) (b := v) (A := 100000) (B := 100000) (by omega) (by omega)
 have m8 := Int.mul_nonneg (Int.le_of_lt h7) hv.1
 refine ⟨by omega, by omega, by omega, by omega, by omega, by omega, by omega, by omega⟩
structure Big (p : Pt) : Prop where
 x : -140000000000000 <= p.x /\ p.x <= 140000000000000
 y : -140000000000000 <= p.y /\ p.y <= 140000000000000
 z : -140000000000000 <= p.z /\ p.z <= 140000000000000
 d : 0 < p.d /\ p.d <= 12000000000
theorem Big.wf {p : Pt} (h : Big p) : p.wf := by
 obtain ⟨h1, h2, h3, h4⟩ := h
 exact ⟨⟨by omega, by omega⟩, ⟨by omega, by omega⟩, ⟨by omega, by omega⟩, ⟨by omega, by omega⟩⟩
theorem Zzc {pl : Int × Int} {c : Crs} (h : CrOk pl c) {u v : Int} (hu : 0 < u /\ u <= 2000000000) (hv : 0 < v /\ v <= 100000) : Big (crPt c u v) := by
 have hb := Zwr h (u := u) (v := v) (by omega) (by omega)
 unfold crPt
 refine ⟨?_, ?_, ?_, ?_⟩ <;> dsimp only <;> omega
theorem Yex (p : Pt) : ((g4 p : Int) ∣ p.x /\ (g4 p : Int) ∣ p.y) /\ ((g4 p : Int) ∣ p.z /\ (g4 p : Int) ∣ p.d) := by
 unfold g4
 have a := Nat.gcd_dvd_left (Nat.gcd p.x.natAbs p.y.natAbs) (Nat.gcd p.z.natAbs p.d.natAbs)
 have b := Nat.gcd_dvd_right (Nat.gcd p.x.natAbs p.y.natAbs) (Nat.gcd p.z.natAbs p.d.natAbs)
 exact ⟨⟨Int.ofNat_dvd_left.2 (Nat.dvd_trans a (Nat.gcd_dvd_left _ _)), Int.ofNat_dvd_left.2 (Nat.dvd_trans a (Nat.gcd_dvd_right _ _))⟩, ⟨Int.ofNat_dvd_left.2 (Nat.dvd_trans b (Nat.gcd_dvd_left _ _)), Int.ofNat_dvd_left.2 (Nat.dvd_trans b (Nat.gcd_dvd_right _ _))⟩⟩
theorem Zb3 {a g : Int} (hg : 0 < g) (h : g ∣ a) : a.tdiv g = a / g /\ a / g * g = a /\ (∀ B, -B <= a /\ a <= B -> -B <= a / g /\ a / g <= B) := by
 obtain ⟨k, rfl⟩ := h
 rw [Int.mul_tdiv_cancel_left _ (by omega), Int.mul_ediv_cancel_left _ (by omega)]
 refine ⟨rfl, Int.mul_comm _ _, fun B hB => ?_⟩
 rcases Int.lt_or_le k 0 with hk | hk
 ·have := Int.mul_le_mul_of_nonneg_right (show 1 <= g by omega) (show 0 <= -k by omega)
  have e : g * -k = -(g * k) := Int.mul_neg _ _
  omega
 ·have := Int.mul_le_mul_of_nonneg_right (show 1 <= g by omega) hk
  omega
theorem Zdu {p : Pt} (h : Big p) : (0 < (g4 p : Int) /\ (g4 p : Int) <= 12000000000) /\ (IntKind.i64.wrap (p.x.tdiv (g4 p)) = (redP p).x /\ IntKind.i64.wrap (p.y.tdiv (g4 p)) = (redP p).y /\ IntKind.i64.wrap (p.z.tdiv (g4 p)) = (redP p).z /\ IntKind.i64.wrap (p.d.tdiv (g4 p)) = (redP p).d) /\ Big (redP p) /\ ((redP p).x * g4 p = p.x /\ (redP p).y * g4 p = p.y /\ (redP p).z * g4 p = p.z /\ (redP p).d * g4 p = p.d) := by
 obtain ⟨g1, g2⟩ := Yew h.wf h.d.1
 obtain ⟨⟨d1, d2⟩, d3, d4⟩ := Yex p
 have hg : (0 : Int) < g4 p := by omega
 obtain ⟨x1, x2, x3⟩ := Zb3 hg d1
 obtain ⟨y1, y2, y3⟩ := Zb3 hg d2
 obtain ⟨z1, z2, z3⟩ := Zb3 hg d3
 obtain ⟨e1, e2, e3⟩ := Zb3 hg d4
 obtain ⟨h1, h2, h3, h4⟩ := h
 have x3 := x3 140000000000000 h1
 have y3 := y3 140000000000000 h2
 have z3 := z3 140000000000000 h3
 have e3 := e3 12000000000 (by omega)
 have hd : 0 < p.d / (g4 p : Int) := by
  rcases Int.lt_or_le 0 (p.d / (g4 p : Int)) with k | k
  ·exact k
  ·have := Int.mul_nonneg (show 0 <= -(p.d / (g4 p : Int)) by omega) (Int.le_of_lt hg)
   rw [Int.neg_mul] at this
   omega
 refine ⟨by omega, ⟨?_, ?_, ?_, ?_⟩, ⟨x3, y3, z3, hd, e3.2⟩, x2, y2, z2, e2⟩
 ·rw [x1]; exact W_eq (by omega) (by omega)
 ·rw [y1]; exact W_eq (by omega) (by omega)
 ·rw [z1]; exact W_eq (by omega) (by omega)
 ·rw [e1]; exact W_eq (by omega) (by omega)
theorem Big.ok {p : Pt} (h : Big p) : PtOk p.x p.y p.d := by
 obtain ⟨h1, h2, h3, h4⟩ := h
 exact ⟨h4.1, by omega, by omega, by omega⟩
theorem Ztg {pl : Int × Int} {c : Crs} (h : CrOk pl c) (hs : ¬ 0 <= sgn (crF pl c) * sgn (crG pl c)) : (0 < iabs (crG pl c) /\ iabs (crG pl c) <= 2000000000) /\ (0 < iabs (crF pl c) /\ iabs (crF pl c) <= 100000) := by
 have h1 := (Ya7 h).2.2
 have h2 := (Ya6 h).2
 have h3 := sgn_mul_neg.1 (show sgn (crF pl c) * sgn (crG pl c) < 0 by omega)
 unfold iabs
 refine ⟨?_, ?_⟩ <;> split <;> omega
theorem Zdm {pl : Int × Int} {c : Crs} (h : CrOk pl c) (hs : ¬ 0 <= sgn (crF pl c) * sgn (crG pl c)) : Big (crPt c (iabs (crG pl c)) (iabs (crF pl c))) := by
 obtain ⟨a, b⟩ := Ztg h hs
 exact Zzc h a b
theorem Zxr (k a b c a' b' c' u v : Int) : valN k (a * u + a' * v) (b * u + b' * v) (c * u + c' * v) = valN k a b c * u + valN k a' b' c' * v := by
 unfold valN
 repeat' split
 all_goals grind
theorem Zxq (k a b c g : Int) : valN k (a * g) (b * g) (c * g) = valN k a b c * g := by
 unfold valN
 repeat' split
 all_goals grind
theorem Zfa {pl : Int × Int} {c : Crs} (h : CrOk pl c) (hs : ¬ 0 <= sgn (crF pl c) * sgn (crG pl c)) : valN pl.1 (Vo pl c).x (Vo pl c).y (Vo pl c).z = pl.2 * (Vo pl c).d := by
 obtain ⟨⟨g1, _⟩, _, _, e1, e2, e3, e4⟩ := Zdu (Zdm h hs)
 have h3 := sgn_mul_neg.1 (show sgn (crF pl c) * sgn (crG pl c) < 0 by omega)
 have k : valN pl.1 (crPt c (iabs (crG pl c)) (iabs (crF pl c))).x (crPt c (iabs (crG pl c)) (iabs (crF pl c))).y (crPt c (iabs (crG pl c)) (iabs (crF pl c))).z = pl.2 * (crPt c (iabs (crG pl c)) (iabs (crF pl c))).d := by
  unfold crPt
  dsimp only
  rw [Zxr]
  have hF : valN pl.1 c.fx c.fy c.fz = crF pl c + pl.2 := by unfold crF; omega
  have hG : valN pl.1 c.to.x c.to.y c.to.z = crG pl c + pl.2 * c.to.d := by unfold crG; omega
  rw [hF, hG]
  have : crF pl c * iabs (crG pl c) + crG pl c * iabs (crF pl c) = 0 := by
   unfold iabs
   rcases h3 with ⟨p1, p2⟩ | ⟨p1, p2⟩
   ·rw [if_neg (by omega), if_pos p1]; grind
   ·rw [if_pos p2, if_neg (by omega)]; grind
  grind
 unfold Vo
 rw [<-e1, <-e2, <-e3, <-e4, Zxq] at k
 generalize redP (crPt c (iabs (crG pl c)) (iabs (crF pl c))) = q at *
 have k2 : (valN pl.1 q.x q.y q.z - pl.2 * q.d) * (g4 (crPt c (iabs (crG pl c)) (iabs (crF pl c))) : Int) = 0 := by
  rw [Int.sub_mul, k]; grind
 rcases Int.mul_eq_zero.1 k2 with k3 | k3 <;> omega
theorem Zjl {h : Hal} (g : h.fine) {j : Nat} (hj : j < h.ks.length) : CanOk h.ks[j] /\ Zcc h.ht none h.ks[j].hs = 0 := by
 have := g.can j hj
 unfold Zg2 at this
 split at this
 ·split at this
  ·cases this
  ·split at this
   ·cases this
   ·split at this
    ·cases this
    ·split at this
     ·cases this
     ·split at this
      ·split at this
       ·rename_i hz
        split at this
        ·rename_i hp
         split at this
         ·cases this
         ·rename_i hd
          simp only [Bool.and_eq_true] at hp
          simp only [Bool.or_eq_true, decide_eq_true_eq, not_or] at hd
          exact ⟨⟨within_iff.1 hp.1.1.1, within_iff.1 hp.1.1.2, within_iff.1 hp.1.2, within_iff.1 hp.2, hd.1, hd.2⟩, hz⟩
        ·cases this
       ·rename_i hx; exact absurd this hx
      ·cases this
 ·cases this
theorem ite9 {b : Bool} {x : Int} (h : (if b = true then 9 else x) = 0) : x = 0 := by
 cases b
 ·exact h
 ·rw [if_pos rfl] at h; exact absurd h (by decide)
theorem Yet {ht : Int} (h0 : 2 <= ht /\ ht <= 5000) : ∀ (l : List Int) (p : Option Int), Zcc ht p l = 0 -> ∀ n ∈ l, 1 <= n /\ n < ht
 | [], _, _, n, hn => by simp at hn
 | m :: l, p, h, n, hn => by
  rw [Zgv] at h
  split at h
  ·rename_i hw
   rw [W_eq (by omega) (by omega), within_iff] at hw
   have h2 := ite9 h
   rcases List.mem_cons.1 hn with rfl | hn
   ·omega
   ·exact Yet h0 l _ h2 n hn
  ·cases h
theorem Zvr {h : Hal} {s : Stg} (g : Sit h s) {j : Nat} (hj : j < h.ks.length) : 1 <= Zdj h s j /\ Zdj h s j < h.ht := by
 obtain ⟨n, e1, e2, e3, e4⟩ := Znt g.set hj
 have hm : Zdj h s j ∈ h.ks[j].hs := by
  have := List.mem_of_getElem? e4
  simp only [nl, List.mem_map, List.cons.injEq, AV.int.injEq, true_and, and_true] at this
  obtain ⟨m, hm, rfl⟩ := this
  exact hm
 exact Yet g.fine.ht _ _ (Zjl g.fine hj).2 _ hm
theorem Zuh {c : Can} (h : CanOk c) : RcOk c.rc := by
 obtain ⟨h1, h2, h3, h4, h5, h6⟩ := h
 obtain ⟨⟨e1, e2⟩, e3, e4⟩ := Zgl c
 refine ⟨?_, ?_, ?_, ?_, ?_, ?_⟩ <;> omega
theorem Zlo {h : Hal} {s : Stg} (g : Sit h s) {i : Int} (hi : SK h i) : (0 <= (Zl h s i).1 /\ (Zl h s i).1 <= 4) /\ (-10000 <= (Zl h s i).2 /\ (Zl h s i).2 <= 10000) := by
 have ht := g.fine.ht
 cases hi with
 | wall k hk =>
  have hk2 : k < h.cs.length := by have := g.fine.le; omega
  obtain ⟨n, sx, sy, hs⟩ := g.fine.st k hk2
  rw [Zas hk, Zlp hs]
  have := hs.b1
  have := hs.b2
  repeat' split
  all_goals (dsimp only; omega)
 | floor => rw [Zbc]; dsimp only; omega
 | ceil => rw [Zca]; dsimp only; omega
 | can j hj =>
  rw [Zdv]
  have := Zvr g hj
  dsimp only; omega
theorem Ybg {h : Hal} {s : Stg} (g : Sit h s) {i : Int} (hi : SK h i) {p : Pt} (hp : PtOk p.x p.y p.d) (hpl : valN (Zl h s i).1 p.x p.y p.z = (Zl h s i).2 * p.d) : Za3 h i p = Zh1 h i p := by
 cases hi with
 | wall k hk =>
  have hk2 : k < h.cs.length := by have := g.fine.le; omega
  obtain ⟨n, sx, sy, hs⟩ := g.fine.st k hk2
  rw [Zas hk] at hpl
  rw [Zge hk, Zr2 hk, Ze3]
  exact Zts hs hp g.fine.ht hpl
 | floor =>
  rw [Zeu, Zo1]
  exact Ur g.fine.st p.z hp
 | ceil =>
  rw [Zgf, Zr3]
  exact Ur g.fine.st p.z hp
 | can j hj =>
  rw [Zh2 hj, Ztn hj]
  have hr := Zuh (Zjl g.fine hj).1
  have hd : 0 < p.d /\ p.d <= 1000000000000000 := by have := hp.hd; have := hp.hD; omega
  have c0 := (Zjl g.fine hj).1
  generalize h.ks[j] = c at *
  obtain ⟨⟨e1, e2⟩, e3, e4⟩ := Zgl c
  have c1 := Zj c0.b1 hd.1
  have c2 := Zj c0.b2 hd.1
  have c3 := Zj c0.b3 hd.1
  have c4 := Zj c0.b4 hd.1
  rw [Bool.eq_iff_iff, Zkh hr hd, e1, e2, e3, e4]
  unfold Ybh Zfu
  rw [Zgt, Zgt, Zgu, Zgu, Zdd hd.1, Zde hd.1, Zdd hd.1, Zde hd.1]
  rw [W_eq (n := c.fx * p.d) (by omega) (by omega), W_eq (n := c.tx * p.d) (by omega) (by omega), W_eq (n := c.fy * p.d) (by omega) (by omega), W_eq (n := c.ty * p.d) (by omega) (by omega)]
  rw [W_eq (n := min (c.fx * p.d) (c.tx * p.d)) (by omega) (by omega), W_eq (n := max (c.fx * p.d) (c.tx * p.d)) (by omega) (by omega), W_eq (n := min (c.fy * p.d) (c.ty * p.d)) (by omega) (by omega), W_eq (n := max (c.fy * p.d) (c.ty * p.d)) (by omega) (by omega)]
  simp only [Bool.and_eq_true, Bool.not_eq_true', decide_eq_false_iff_not, within_iff]
  omega
theorem Ye7 {p : Pt} (hb : Big p) {X Y Z D : Int} (hX : X = p.x) (hY : Y = p.y) (hZ : Z = p.z) (hD : D = p.d) :
  gcds [I X, I Y] = some ⟨I (IntKind.i64.wrap ((Nat.gcd p.x.natAbs p.y.natAbs : Nat) : Int)), []⟩ /\ gcds [I Z, I D] = some ⟨I (IntKind.i64.wrap ((Nat.gcd p.z.natAbs p.d.natAbs : Nat) : Int)), []⟩ /\ gcds [I (IntKind.i64.wrap ((Nat.gcd p.x.natAbs p.y.natAbs : Nat) : Int)), I (IntKind.i64.wrap ((Nat.gcd p.z.natAbs p.d.natAbs : Nat) : Int))] = some ⟨I (g4 p : Int), []⟩ /\
  IntKind.i64.wrap (X.tdiv (g4 p)) = (redP p).x /\ IntKind.i64.wrap (Y.tdiv (g4 p)) = (redP p).y /\ IntKind.i64.wrap (Z.tdiv (g4 p)) = (redP p).z /\ IntKind.i64.wrap (D.tdiv (g4 p)) = (redP p).d /\ (0 < (g4 p : Int) /\ (g4 p : Int) <= 12000000000) := by
 subst hX hY hZ hD
 have hw := hb.wf
 have h3' := Zl1 (Zs1 ((Nat.gcd p.x.natAbs p.y.natAbs : Nat) : Int)) (Zs1 ((Nat.gcd p.z.natAbs p.d.natAbs : Nat) : Int))
 rw [Zq0 (Yax hw.x hw.y), Zq0 (Yax hw.z hw.d)] at h3'
 change gcds _ = some ⟨I (IntKind.i64.wrap ((g4 p : Nat) : Int)), []⟩ at h3'
 obtain ⟨g1, ⟨r1, r2, r3, r4⟩, _, _⟩ := Zdu hb
 rw [W_eq (n := ((g4 p : Nat) : Int)) (by omega) (by omega)] at h3'
 exact ⟨Zl1 hw.x hw.y, Zl1 hw.z hw.d, h3', r1, r2, r3, r4, g1⟩
theorem Yev {p : Pt} (h : Big p) : g4 (redP p) = 1 := by
 obtain ⟨⟨g1, _⟩, _, _, e1, e2, e3, e4⟩ := Zdu h
 have key : g4 p = g4 (redP p) * g4 p := by
  have hx : p.x.natAbs = (redP p).x.natAbs * g4 p := by rw [<-e1, Int.natAbs_mul, Int.natAbs_natCast]
  have hy : p.y.natAbs = (redP p).y.natAbs * g4 p := by rw [<-e2, Int.natAbs_mul, Int.natAbs_natCast]
  have hz : p.z.natAbs = (redP p).z.natAbs * g4 p := by rw [<-e3, Int.natAbs_mul, Int.natAbs_natCast]
  have hd : p.d.natAbs = (redP p).d.natAbs * g4 p := by rw [<-e4, Int.natAbs_mul, Int.natAbs_natCast]
  have : g4 p = Nat.gcd (Nat.gcd ((redP p).x.natAbs * g4 p) ((redP p).y.natAbs * g4 p)) (Nat.gcd ((redP p).z.natAbs * g4 p) ((redP p).d.natAbs * g4 p)) := by rw [<-hx, <-hy, <-hz, <-hd]; rfl
  rw [Nat.gcd_mul_right, Nat.gcd_mul_right, Nat.gcd_mul_right] at this
  exact this
 have h0 : 0 < g4 p := by omega
 have : g4 (redP p) * g4 p = 1 * g4 p := by omega
 exact Nat.eq_of_mul_eq_mul_right h0 this
def crsE (h : Hal) (s : Stg) (c : Crs) : Int := if surE h s c.su = 0 then (if Vs c.fx c.fy c.fz = 0 then Xn c.to else Vs c.fx c.fy c.fz) else surE h s c.su
theorem Zws {h : Hal} {s : Stg} {c : Crs} (hk : h.ok) (hs : s.few) (h0 : crsE h s c = 0) : Sit h s /\ SK h c.su /\ CrOk (Zl h s c.su) c /\ surE h s c.su = 0 /\ Vs c.fx c.fy c.fz = 0 /\ Xn c.to = 0 := by
 unfold crsE at h0
 split at h0
 ·rename_i h1
  split at h0
  ·rename_i h2
   have e := Zmk h1
   have g := Zmn hk hs e.1
   have hi := Zse e.2.1 e.2.2
   obtain ⟨⟨b1, b2⟩, b3⟩ := Zlo g hi
   obtain ⟨p1, p2, _, p4⟩ := Zgn h0
   unfold ptIn at p4
   simp only [Bool.and_eq_true, within_iff] at p4
   have h3 := h2
   unfold Vs img at h3
   split at h3
   ·rename_i h4
    simp only [Bool.and_eq_true, within_iff] at h4
    exact ⟨g, hi, ⟨b1, b2, b3, by omega, by omega, by omega, p1, p2, p4.1.1, p4.1.2, p4.2⟩, h1, h2, h0⟩
   ·cases h3
  ·rename_i h2; exact absurd h0 h2
 ·rename_i h1; exact absurd h0 h1
abbrev crAV (r : Pt × Int) : AV := .tup [r.1.av, I r.2]
theorem Zgy {well : Pt -> Bool} {pl : Int × Int} {c : Crs} (hs : 0 <= sgn (crF pl c) * sgn (crG pl c)) : Za4 well pl c = (ptZ, 12) := by unfold Za4; rw [if_pos hs]
theorem Zze {well : Pt -> Bool} {pl : Int × Int} {c : Crs} (hw : well (Vo pl c) = false) : Za4 well pl c = (ptZ, 12) := by unfold Za4; rw [hw]; split <;> rfl
theorem Zwt {well : Pt -> Bool} {pl : Int × Int} {c : Crs} (hs : ¬ 0 <= sgn (crF pl c) * sgn (crG pl c)) (hw : well (Vo pl c) = true) (hd : 100000 < (Vo pl c).d) : Za4 well pl c = (ptZ, 8) := by unfold Za4; rw [if_neg hs, hw, if_pos rfl, if_pos hd]
theorem Zzd {well : Pt -> Bool} {pl : Int × Int} {c : Crs} (hs : ¬ 0 <= sgn (crF pl c) * sgn (crG pl c)) (hw : well (Vo pl c) = true) (hd : ¬ 100000 < (Vo pl c).d) : Za4 well pl c = (Vo pl c, 0) := by unfold Za4; rw [if_neg hs, hw, if_pos rfl, if_neg hd]
abbrev sxC : FuncId -> Bool := fun f => Nat.beq f 159 || Nat.beq f 160 || Nat.beq f 163
def r113 : List AV -> Option PRes
 | [.int .i64 k, .agg [.int .i64 x, .int .i64 y, .int .i64 z, .int .i64 d]] => some ⟨I (offN k x y z), []⟩
 | _ => none
def crsA (h : Hal) (s : Stg) (c : Crs) : Pt × Int := if crsE h s c = 0 then Za4 (Za3 h c.su) (Zl h s c.su) c else (ptZ, crsE h s c)
theorem Yav (x y z : Int) : Vs x y z = if Xr x y z then 0 else 2 := by rw [Zgs]; rfl
set_option maxRecDepth 100000 in
set_option maxHeartbeats 16000000 in
theorem c40e {h : Hal} (hk : h.ok) {s : Stg} (hs : s.few) {c : Crs} (hw : c.to.wf) (he : crsE h s c ≠ 0) : PCall Tryz.prog 124 [h.av, s.av, c.av] ⟨crAV (ptZ, crsE h s c), []⟩ := by
 have hk0 := Ze (c109 hk hs c.su) (Ze (c99 hw) Uq)
 by_cases h1 : surE h s c.su = 0
 ·have e1 : crsE h s c = if Xr c.fx c.fy c.fz then Xn c.to else 2 := by
   unfold crsE; rw [if_pos h1, Yav]
   split
   ·rw [if_pos rfl]
   ·rw [if_neg (by decide)]
  rw [e1] at he ⊢
  rw [h1] at hk0
  cases h2 : Xr c.fx c.fy c.fz with
  | false =>
   have hu : unl (Xr c.fx c.fy c.fz) 2 = 2 := by rw [h2]; rfl
   rw [if_neg (by decide)]
   refine bs.pv (sx := sxC) hk0 Tryz.func124 (by kernel_rfl) (by kernel_rfl) rfl ?_
   repeat' (first | refine wk1 ?_ | (refine wk2 ?_ ?_ <;> intro _) | refine wk4 ?_ | fail); all_goals (conv => whnf)
   refine bs.sv (sx := sxC) hk0 Tryz.func159 (by kernel_rfl) (by kernel_rfl) ?_
   refine LpM.start 3 ?_
   refine LpM.succ (bs.av (sx := sxC) hk0 ?_)
   repeat' (first | refine wk1 ?_ | (refine wk2 ?_ ?_ <;> intro _) | refine wk4 ?_ | fail); all_goals (conv => whnf)
   refine bs.sv (sx := sxC) hk0 Tryz.func160 (by kernel_rfl) (by kernel_rfl) ?_
   repeat' (first | refine wk1 ?_ | (refine wk2 ?_ ?_ <;> intro _) | refine wk4 ?_ | fail); all_goals (conv => whnf)
   exact Zf (by rw [hu]; rfl) rfl
  | true =>
   have hu : unl (Xr c.fx c.fy c.fz) 2 = 0 := by rw [h2]; rfl
   rw [h2, if_pos rfl] at he
   rw [if_pos rfl]
   generalize Xn c.to = pe at *
   refine bs.pv (sx := sxC) hk0 Tryz.func124 (by kernel_rfl) (by kernel_rfl) rfl ?_
   repeat' (first | refine wk1 ?_ | (refine wk2 ?_ ?_ <;> intro _) | refine wk4 ?_ | fail); all_goals (conv => whnf)
   refine bs.sv (sx := sxC) hk0 Tryz.func159 (by kernel_rfl) (by kernel_rfl) ?_
   refine LpM.start 3 ?_
   refine LpM.succ (bs.av (sx := sxC) hk0 ?_)
   repeat' (first | refine wk1 ?_ | (refine wk2 ?_ ?_ <;> intro _) | refine wk4 ?_ | fail); all_goals (conv => whnf)
   refine bs.sv (sx := sxC) hk0 Tryz.func160 (by kernel_rfl) (by kernel_rfl) ?_
   repeat' (first | refine wk1 ?_ | (refine wk2 ?_ ?_ <;> intro _) | refine wk4 ?_ | fail); all_goals (conv => whnf)
   refine LpM.succ (bs.av (sx := sxC) hk0 ?_)
   repeat' (first | refine wk1 ?_ | (refine wk2 ?_ ?_ <;> intro _) | refine wk4 ?_ | fail); all_goals (conv => whnf)
   refine bs.sv (sx := sxC) hk0 Tryz.func163 (by kernel_rfl) (by kernel_rfl) ?_
   repeat' (first | refine wk1 ?_ | (refine wk2 ?_ ?_ <;> intro _) | refine wk4 ?_ | fail); all_goals (conv => whnf)
   exact Zf rfl rfl
 ·have e1 : crsE h s c = surE h s c.su := by unfold crsE; rw [if_neg h1]
  rw [e1]
  refine bs.pv (sx := sxC) hk0 Tryz.func124 (by kernel_rfl) (by kernel_rfl) rfl ?_
  repeat' (first | refine wk1 ?_ | (refine wk2 ?_ ?_ <;> intro _) | refine wk4 ?_ | fail); all_goals (conv => whnf)
  exact Zf rfl rfl
theorem Zqo {n : Int} (h : -9000000000000000000 <= n /\ n <= 9000000000000000000) : size n = iabs n := by rw [Zic h]; rfl
set_option maxRecDepth 100000 in
set_option maxHeartbeats 16000000 in
theorem c40o {h : Hal} (hk : h.ok) {s : Stg} (hs : s.few) {c : Crs} (hw : c.to.wf) (he : crsE h s c = 0) : PCall Tryz.prog 124 [h.av, s.av, c.av] ⟨crAV (Za4 (Za3 h c.su) (Zl h s c.su) c), []⟩ := by
 obtain ⟨g, hi, ho, h1, h2, h3⟩ := Zws hk hs he
 have h2' : Xr c.fx c.fy c.fz = true := by
  rw [Yav] at h2
  cases hx : Xr c.fx c.fy c.fz
  ·rw [hx] at h2; exact absurd h2 (by decide)
  ·rfl
 have hu : unl (Xr c.fx c.fy c.fz) 2 = 0 := by rw [h2']; rfl
 obtain ⟨f1, f2, f3⟩ := Ya7 ho
 obtain ⟨g1, g2⟩ := Ya6 ho
 have hk0 := Ze (c109 hk hs c.su) (Ze (c99 hw) Uq)
 rw [h1, h3] at hk0
 have hk0 := Ze (c112 g hi) (Zi (f0 := 166) (r := r113) (fun a res h => by unfold r113 at h; split at h <;> cases h; exact c113 _ ⟨_, _, _, _⟩) hk0)
 generalize hpl : Zl h s c.su = pl at *
 by_cases hsg : 0 <= sgn (crF pl c) * sgn (crG pl c)
 ·rw [Zgy hsg]
  have hs2 : 0 <= IntKind.i64.wrap (sgn (IntKind.i64.wrap (offN pl.1 c.fx c.fy c.fz - pl.2)) * sgn (IntKind.i64.wrap (offN pl.1 c.to.x c.to.y c.to.z - IntKind.i64.wrap (pl.2 * c.to.d)))) := by rw [f1, g1, Zma]; exact hsg
  refine bs.pv (sx := sxC) hk0 Tryz.func124 (by kernel_rfl) (by kernel_rfl) rfl ?_
  repeat' (first | refine wk1 ?_ | (refine wk2 ?_ ?_ <;> intro _) | refine wk4 ?_ | fail); all_goals (conv => whnf)
  refine bs.sv (sx := sxC) hk0 Tryz.func159 (by kernel_rfl) (by kernel_rfl) ?_
  refine LpM.start 3 ?_
  refine LpM.succ (bs.av (sx := sxC) hk0 ?_)
  repeat' (first | refine wk1 ?_ | (refine wk2 ?_ ?_ <;> intro _) | refine wk4 ?_ | fail); all_goals (conv => whnf)
  refine bs.sv (sx := sxC) hk0 Tryz.func160 (by kernel_rfl) (by kernel_rfl) ?_
  repeat' (first | refine wk1 ?_ | (refine wk2 ?_ ?_ <;> intro _) | refine wk4 ?_ | fail); all_goals (conv => whnf)
  refine LpM.succ (bs.av (sx := sxC) hk0 ?_)
  repeat' (first | refine wk1 ?_ | (refine wk2 ?_ ?_ <;> intro _) | refine wk4 ?_ | fail); all_goals (conv => whnf)
  refine bs.sv (sx := sxC) hk0 Tryz.func163 (by kernel_rfl) (by kernel_rfl) ?_
  repeat' (first | refine wk1 ?_ | (refine wk2 ?_ ?_ <;> intro _) | refine wk4 ?_ | fail); all_goals (conv => whnf)
  refine LpM.succ (bs.av (sx := sxC) hk0 ?_)
  repeat' (first | refine wk1 ?_ | (refine wk2 ?_ ?_ <;> intro _) | refine wk4 ?_ | fail); all_goals (conv => whnf)
  exact Zf rfl rfl
 ·have hs2 : ¬ 0 <= IntKind.i64.wrap (sgn (IntKind.i64.wrap (offN pl.1 c.fx c.fy c.fz - pl.2)) * sgn (IntKind.i64.wrap (offN pl.1 c.to.x c.to.y c.to.z - IntKind.i64.wrap (pl.2 * c.to.d)))) := by rw [f1, g1, Zma]; exact hsg
  have hB := Zdm ho hsg
  have hx := Zwr ho (u := iabs (crG pl c)) (v := iabs (crF pl c)) (by have := Ztg ho hsg; omega) (by have := Ztg ho hsg; omega)
  have hcr : Vo pl c = redP (crPt c (iabs (crG pl c)) (iabs (crF pl c))) := rfl
  have hwl := c118 g hi (Vo pl c)
  have A1 := Zze (well := Za3 h c.su) (pl := pl) (c := c)
  have A2 := Zwt (well := Za3 h c.su) hsg
  have A3 := Zzd (well := Za3 h c.su) hsg
  generalize Za4 (Za3 h c.su) pl c = ans at *
  generalize Za3 h c.su (Vo pl c) = wl at *
  generalize Vo pl c = Q at *
  have su : size (IntKind.i64.wrap (offN pl.1 c.to.x c.to.y c.to.z - IntKind.i64.wrap (pl.2 * c.to.d))) = iabs (crG pl c) := by rw [g1]; exact Zqo (by omega)
  have sv : size (IntKind.i64.wrap (offN pl.1 c.fx c.fy c.fz - pl.2)) = iabs (crF pl c) := by rw [f1]; exact Zqo (by omega)
  generalize hp : crPt c (iabs (crG pl c)) (iabs (crF pl c)) = p at *
  generalize iabs (crF pl c) = v at *
  generalize iabs (crG pl c) = u at *
  have px : c.fx * u + c.to.x * v = p.x := by rw [<-hp]; rfl
  have py : c.fy * u + c.to.y * v = p.y := by rw [<-hp]; rfl
  have pz : c.fz * u + c.to.z * v = p.z := by rw [<-hp]; rfl
  have pd : u + c.to.d * v = p.d := by rw [<-hp]; rfl
  obtain ⟨x1, x2, x3, x4, x5, x6, x7⟩ := hx
  have hDd := hB.d
  generalize hA : IntKind.i64.wrap (offN pl.1 c.fx c.fy c.fz - pl.2) = A at *
  generalize hBb : IntKind.i64.wrap (offN pl.1 c.to.x c.to.y c.to.z - IntKind.i64.wrap (pl.2 * c.to.d)) = B at *
  have q : ∀ a b : Int, (-90000000000000 <= a * u /\ a * u <= 90000000000000) -> (-50000000000000 <= b * v /\ b * v <= 50000000000000) -> IntKind.i64.wrap (IntKind.i64.wrap (a * size B) + IntKind.i64.wrap (b * size A)) = a * u + b * v := by
   intro a b k1 k2
   rw [su, sv]
   rw [W_eq (n := a * u) (by omega) (by omega), W_eq (n := b * v) (by omega) (by omega), W_eq (by omega) (by omega)]
  have qd : IntKind.i64.wrap (size B + IntKind.i64.wrap (c.to.d * size A)) = p.d := by
   rw [su, sv]
   rw [W_eq (n := c.to.d * v) (by omega) (by omega), W_eq (by omega) (by omega)]; omega
  obtain ⟨k1, k2, k3, k4, k5, k6, k7, k8⟩ := Ye7 hB (X := IntKind.i64.wrap (IntKind.i64.wrap (c.fx * size B) + IntKind.i64.wrap (c.to.x * size A))) (Y := IntKind.i64.wrap (IntKind.i64.wrap (c.fy * size B) + IntKind.i64.wrap (c.to.y * size A))) (Z := IntKind.i64.wrap (IntKind.i64.wrap (c.fz * size B) + IntKind.i64.wrap (c.to.z * size A))) (D := IntKind.i64.wrap (size B + IntKind.i64.wrap (c.to.d * size A))) (by rw [q _ _ x1 x4, px]) (by rw [q _ _ x2 x5, py]) (by rw [q _ _ x3 x6, pz]) qd
  rw [<-hcr] at k4 k5 k6 k7
  have hdv : PCall Tryz.prog 170 [.isl 1 (nl [IntKind.i64.wrap (IntKind.i64.wrap (c.fx * size B) + IntKind.i64.wrap (c.to.x * size A)), IntKind.i64.wrap (IntKind.i64.wrap (c.fy * size B) + IntKind.i64.wrap (c.to.y * size A)), IntKind.i64.wrap (IntKind.i64.wrap (c.fz * size B) + IntKind.i64.wrap (c.to.z * size A)), IntKind.i64.wrap (size B + IntKind.i64.wrap (c.to.d * size A))])] ⟨I (g4 p : Int), []⟩ := by
   rw [q _ _ x1 x4, q _ _ x2 x5, q _ _ x3 x6, qd, px, py, pz]
   have hwf := hB.wf
   have hc := c117 (ns := [p.x, p.y, p.z, p.d]) (by simp) (by
    intro n hn
    simp only [List.mem_cons, List.not_mem_nil, or_false] at hn
    rcases hn with rfl | rfl | rfl | rfl
    ·exact hwf.x
    ·exact hwf.y
    ·exact hwf.z
    ·exact hwf.d)
   have hg : gl 0 [p.x, p.y, p.z, p.d] = g4 p := by
    simp only [gl, Nat.gcd_zero_left]
    exact Zkv _ _ _ _
   rw [hg, W_eq (n := ((g4 p : Nat) : Int)) (by omega) (by omega)] at hc
   exact hc
  have hw2 : PCall Tryz.prog 171 [.agg (stgL h s), I c.su, P4 (IntKind.i64.wrap ((IntKind.i64.wrap (IntKind.i64.wrap (c.fx * size B) + IntKind.i64.wrap (c.to.x * size A))).tdiv (g4 p))) (IntKind.i64.wrap ((IntKind.i64.wrap (IntKind.i64.wrap (c.fy * size B) + IntKind.i64.wrap (c.to.y * size A))).tdiv (g4 p))) (IntKind.i64.wrap ((IntKind.i64.wrap (IntKind.i64.wrap (c.fz * size B) + IntKind.i64.wrap (c.to.z * size A))).tdiv (g4 p))) (IntKind.i64.wrap ((IntKind.i64.wrap (size B + IntKind.i64.wrap (c.to.d * size A))).tdiv (g4 p)))] ⟨Bo wl, []⟩ := by
   rw [k4, k5, k6, k7]; exact hwl
  rw [<-hA, <-hBb] at hw2 hdv
  have hk2 := Ze hw2 (Ze hdv hk0)
  clear hw2 hwl hk0 hdv q
  rw [<-hA, <-hBb] at k4 k5 k6 k7 hs2
  clear k1 k2 k3
  refine bs.pv (sx := sxC) hk2 Tryz.func124 (by kernel_rfl) (by kernel_rfl) rfl ?_
  cases wl with
  | false =>
   rw [A1 rfl]
   repeat' (first | refine wk1 ?_ | (refine wk2 ?_ ?_ <;> intro _) | refine wk4 ?_ | fail); all_goals (conv => whnf)
   refine bs.sv (sx := sxC) hk2 Tryz.func159 (by kernel_rfl) (by kernel_rfl) ?_
   refine LpM.start 3 ?_
   refine LpM.succ (bs.av (sx := sxC) hk2 ?_)
   repeat' (first | refine wk1 ?_ | (refine wk2 ?_ ?_ <;> intro _) | refine wk4 ?_ | fail); all_goals (conv => whnf)
   refine bs.sv (sx := sxC) hk2 Tryz.func160 (by kernel_rfl) (by kernel_rfl) ?_
   repeat' (first | refine wk1 ?_ | (refine wk2 ?_ ?_ <;> intro _) | refine wk4 ?_ | fail); all_goals (conv => whnf)
   refine LpM.succ (bs.av (sx := sxC) hk2 ?_)
   repeat' (first | refine wk1 ?_ | (refine wk2 ?_ ?_ <;> intro _) | refine wk4 ?_ | fail); all_goals (conv => whnf)
   refine bs.sv (sx := sxC) hk2 Tryz.func163 (by kernel_rfl) (by kernel_rfl) ?_
   repeat' (first | refine wk1 ?_ | (refine wk2 ?_ ?_ <;> intro _) | refine wk4 ?_ | fail); all_goals (conv => whnf)
   refine LpM.succ (bs.av (sx := sxC) hk2 ?_)
   repeat' (first | refine wk1 ?_ | (refine wk2 ?_ ?_ <;> intro _) | refine wk4 ?_ | fail); all_goals (conv => whnf)
   exact Zf rfl rfl
  | true =>
   by_cases hd : 100000 < Q.d
   ·rw [A2 rfl hd]
    repeat' (first | refine wk1 ?_ | (refine wk2 ?_ ?_ <;> intro _) | refine wk4 ?_ | fail); all_goals (conv => whnf)
    refine bs.sv (sx := sxC) hk2 Tryz.func159 (by kernel_rfl) (by kernel_rfl) ?_
    refine LpM.start 3 ?_
    refine LpM.succ (bs.av (sx := sxC) hk2 ?_)
    repeat' (first | refine wk1 ?_ | (refine wk2 ?_ ?_ <;> intro _) | refine wk4 ?_ | fail); all_goals (conv => whnf)
    refine bs.sv (sx := sxC) hk2 Tryz.func160 (by kernel_rfl) (by kernel_rfl) ?_
    repeat' (first | refine wk1 ?_ | (refine wk2 ?_ ?_ <;> intro _) | refine wk4 ?_ | fail); all_goals (conv => whnf)
    refine LpM.succ (bs.av (sx := sxC) hk2 ?_)
    repeat' (first | refine wk1 ?_ | (refine wk2 ?_ ?_ <;> intro _) | refine wk4 ?_ | fail); all_goals (conv => whnf)
    refine bs.sv (sx := sxC) hk2 Tryz.func163 (by kernel_rfl) (by kernel_rfl) ?_
    repeat' (first | refine wk1 ?_ | (refine wk2 ?_ ?_ <;> intro _) | refine wk4 ?_ | fail); all_goals (conv => whnf)
    refine LpM.succ (bs.av (sx := sxC) hk2 ?_)
    repeat' (first | refine wk1 ?_ | (refine wk2 ?_ ?_ <;> intro _) | refine wk4 ?_ | fail); all_goals (conv => whnf)
    exact Zf rfl rfl
   ·rw [A3 rfl hd]
    repeat' (first | refine wk1 ?_ | (refine wk2 ?_ ?_ <;> intro _) | refine wk4 ?_ | fail); all_goals (conv => whnf)
    refine bs.sv (sx := sxC) hk2 Tryz.func159 (by kernel_rfl) (by kernel_rfl) ?_
    refine LpM.start 3 ?_
    refine LpM.succ (bs.av (sx := sxC) hk2 ?_)
    repeat' (first | refine wk1 ?_ | (refine wk2 ?_ ?_ <;> intro _) | refine wk4 ?_ | fail); all_goals (conv => whnf)
    refine bs.sv (sx := sxC) hk2 Tryz.func160 (by kernel_rfl) (by kernel_rfl) ?_
    repeat' (first | refine wk1 ?_ | (refine wk2 ?_ ?_ <;> intro _) | refine wk4 ?_ | fail); all_goals (conv => whnf)
    refine LpM.succ (bs.av (sx := sxC) hk2 ?_)
    repeat' (first | refine wk1 ?_ | (refine wk2 ?_ ?_ <;> intro _) | refine wk4 ?_ | fail); all_goals (conv => whnf)
    refine bs.sv (sx := sxC) hk2 Tryz.func163 (by kernel_rfl) (by kernel_rfl) ?_
    repeat' (first | refine wk1 ?_ | (refine wk2 ?_ ?_ <;> intro _) | refine wk4 ?_ | fail); all_goals (conv => whnf)
    refine LpM.succ (bs.av (sx := sxC) hk2 ?_)
    repeat' (first | refine wk1 ?_ | (refine wk2 ?_ ?_ <;> intro _) | refine wk4 ?_ | fail); all_goals (conv => whnf)
    exact Zf (by rw [k4, k5, k6, k7]) rfl
theorem c40 {h : Hal} (hk : h.ok) {s : Stg} (hs : s.few) {c : Crs} (hw : c.to.wf) : PCall Tryz.prog 124 [h.av, s.av, c.av] ⟨crAV (crsA h s c), []⟩ := by
 unfold crsA
 by_cases he : crsE h s c = 0
 ·rw [if_pos he]; exact c40o hk hs hw he
 ·rw [if_neg he]; exact c40e hk hs hw he
theorem Zzf {h : Hal} {s : Stg} {c : Crs} (g : Sit h s) (hi : SK h c.su) (ho : CrOk (Zl h s c.su) c) : Za4 (Za3 h c.su) (Zl h s c.su) c = Za4 (Zh1 h c.su) (Zl h s c.su) c := by
 by_cases hs : 0 <= sgn (crF (Zl h s c.su) c) * sgn (crG (Zl h s c.su) c)
 ·rw [Zgy hs, Zgy hs]
 ·have hb := (Zdu (Zdm ho hs)).2.2.1
  have e := Ybg g hi (p := Vo (Zl h s c.su) c) hb.ok (Zfa ho hs)
  unfold Za4
  rw [e]
end Go.Proofs.YtdaliaafmcjikaaGreat
