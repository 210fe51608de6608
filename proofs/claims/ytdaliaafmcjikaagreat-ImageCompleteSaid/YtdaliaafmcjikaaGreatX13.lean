/- A part of the proof: lemmas. -/
import Derived.Test.YtdaliaafmcjikaaGreatX12
import Derived.Test.YtdaliaafmcjikaaGreatX7
import Derived.Test.YtdaliaafmcjikaaGreatX11
import Derived.Test.YtdaliaafmcjikaaGreatX10
import Derived.Laws.Bits64b
import Derived.Lib.Mul64
set_option linter.unusedVariables false
set_option linter.unusedSimpArgs false
namespace Go.Proofs.YtdaliaafmcjikaaGreat
open Go Go.Sx
def Ydd (p : Pt) : Prop := (-(5000 * p.d) <= p.x /\ p.x <= 5000 * p.d) /\ (-(5000 * p.d) <= p.y /\ p.y <= 5000 * p.d) /\ (-(5000 * p.d) <= p.z /\ p.z <= 5000 * p.d)
theorem Ztt {h : Hal} {w : Wl} {n sx sy : Int} (hs : Str w n sx sy) {p : Pt} (hp : PtOk p.x p.y p.d) (ht : 2 <= h.ht /\ h.ht <= 5000) (hpl : valN (plW w).1 p.x p.y p.z = (plW w).2 * p.d) (hw : Zme h w p = true) : Ydd p := by
 obtain ⟨x, y, z, d⟩ := p
 dsimp only at hp hpl
 have hd := hp.hd
 have hD := hp.hD
 have a1 := Zj hs.b1 hd
 have a2 := Zj hs.b2 hd
 have a3 := Zj hs.b3 hd
 have a4 := Zj hs.b4 hd
 have hz0 := Zj (f := h.ht) (d := d) (by omega) hd
 have hz : IntKind.i64.wrap (h.ht * d) = h.ht * d := W_eq (by omega) (by omega)
 unfold Zme at hw
 rw [Zlp hs] at hpl
 unfold valN at hpl
 rw [Zgt, Zgt, Zgu, Zgu] at hw
 dsimp only at hw
 rw [hz, Zdd hd, Zdd hd, Zde hd, Zde hd] at hw
 rw [W_eq (n := min (w.fx * d) (w.tx * d)) (by omega) (by omega), W_eq (n := max (w.fx * d) (w.tx * d)) (by omega) (by omega), W_eq (n := min (w.fy * d) (w.ty * d)) (by omega) (by omega), W_eq (n := max (w.fy * d) (w.ty * d)) (by omega) (by omega)] at hw
 have ex : w.tx * d = w.fx * d + sx * (n * d) := by rw [hs.tx]; grind
 have ey : w.ty * d = w.fy * d + sy * (n * d) := by rw [hs.ty]; grind
 have d3 : (w.fx + w.fy) * d = w.fx * d + w.fy * d := by grind
 have d4 : (w.fx - w.fy) * d = w.fx * d - w.fy * d := by grind
 have cnd : (w.fx = w.tx) -> sx = 0 := by
  intro e
  have := hs.tx
  have hn := hs.hn
  have : n * sx = 0 := by omega
  rcases Int.mul_eq_zero.1 this with h | h
  ·omega
  ·exact h
 have nd : 0 < n * d := Int.mul_pos hs.hn hd
 unfold Ydd
 dsimp only
 simp only [Bool.and_eq_true, Bool.not_eq_true', Bool.or_eq_false_iff, decide_eq_false_iff_not] at hw
 obtain ⟨⟨z1, z2⟩, hw⟩ := hw
 have hxy := hs.hxy
 split at hw
 ·rename_i c
  have c0 := cnd c
  subst c0
  simp only [Bool.and_eq_true, decide_eq_true_eq] at hw
  simp at hpl
  omega
 ·rename_i c
  simp only [Bool.and_eq_true, decide_eq_true_eq] at hw
  have hx0 : sx ≠ 0 := fun e => c (by rw [hs.tx, e]; omega)
  rw [if_neg hx0] at hpl
  rcases hs.hy with rfl | rfl | rfl <;> rcases hs.hx with rfl | rfl | rfl
  all_goals simp at hpl hx0
  all_goals omega
theorem Zpm {h : Hal} {d z n : Int} (hd : 0 < d) (hn : 0 <= n /\ n <= 5000) (e : z = n * d) : -(5000 * d) <= z /\ z <= 5000 * d := by
 have := Zj (f := n) (d := d) (by omega) hd
 omega
theorem Ztm {h : Hal} {s : Stg} (g : Sit h s) {i : Int} (hi : SK h i) {p : Pt} (hp : PtOk p.x p.y p.d) (hpl : valN (Zl h s i).1 p.x p.y p.z = (Zl h s i).2 * p.d) (hw : Za3 h i p = true) : Ydd p := by
 have ht := g.fine.ht
 cases hi with
 | wall k hk =>
  have hk2 : k < h.cs.length := by have := g.fine.le; omega
  obtain ⟨n, sx, sy, hs⟩ := g.fine.st k hk2
  rw [Zas hk] at hpl
  rw [Zge hk] at hw
  exact Ztt hs hp ht hpl hw
 | floor =>
  rw [Zeu] at hw
  rw [Zbc] at hpl
  have hb := Zkr g.fine.st hp hw
  have hpl : p.z = 0 * p.d := hpl
  exact ⟨hb.1, hb.2, Zpm (h := h) hp.hd (by omega) hpl⟩
 | ceil =>
  rw [Zgf] at hw
  rw [Zca] at hpl
  have hb := Zkr g.fine.st hp hw
  have hpl : p.z = h.ht * p.d := hpl
  exact ⟨hb.1, hb.2, Zpm (h := h) hp.hd (by omega) hpl⟩
 | can j hj =>
  rw [Zh2 hj] at hw
  rw [Zdv] at hpl
  have hpl : p.z = Zdj h s j * p.d := hpl
  have hg := Zvr g hj
  have hr := Zuh (Zjl g.fine hj).1
  have hd : 0 < p.d /\ p.d <= 1000000000000000 := by have := hp.hd; have := hp.hD; omega
  have c0 := (Zjl g.fine hj).1
  generalize h.ks[j] = c at *
  obtain ⟨⟨e1, e2⟩, e3, e4⟩ := Zgl c
  have c1 := Zj c0.b1 hd.1
  have c2 := Zj c0.b2 hd.1
  have c3 := Zj c0.b3 hd.1
  have c4 := Zj c0.b4 hd.1
  rw [Zkh hr hd, e1, e2, e3, e4, Zdd hd.1, Zde hd.1, Zdd hd.1, Zde hd.1] at hw
  exact ⟨by omega, by omega, Zpm (h := h) hp.hd (by omega) hpl⟩
theorem Zp5 {h : Hal} {s : Stg} (g : Sit h s) {c : Crs} (hi : SK h c.su) (ho : CrOk (Zl h s c.su) c) (e : (Za4 (Za3 h c.su) (Zl h s c.su) c).2 = 0) :
  Xn (Za4 (Za3 h c.su) (Zl h s c.su) c).1 = 0 := by
 unfold Za4 at e ⊢
 split at e
 ·cases e
 ·rename_i hs
  split at e
  ·rename_i hw
   split at e
   ·cases e
   ·rename_i hd
    rw [if_neg hs, if_pos hw, if_neg hd]
    have hbig := Zdm ho hs
    have hb := (Zdu hbig).2.2.1
    have hn := Ztm g hi (p := Vo (Zl h s c.su) c) hb.ok (Zfa ho hs) hw
    have hg := Yev hbig
    unfold Xn
    have hd0 := hb.d.1
    rw [if_neg (by
     intro q
     rcases q with q | q
     ·exact absurd hd0 (Int.not_lt.2 q)
     ·exact q hg), if_neg hd, if_pos]
    unfold ptIn
    obtain ⟨n1, n2, n3⟩ := hn
    simp only [Bool.and_eq_true, within_iff]
    exact ⟨⟨n1, n2⟩, n3⟩
  ·cases e
structure Pth where
 ss : List Int
 ps : List (Int × Int × Int × Int)
 sq : Int
abbrev hp4 (p : Int × Int × Int × Int) : List AV := [I p.1, I p.2.1, I p.2.2.1, I p.2.2.2]
abbrev Pth.av (p : Pth) : AV := .agg [.isl 1 (nl p.ss), .isl 4 (p.ps.map hp4), I p.sq]
def pthE (p : Pth) : Int := if (p.ps.length : Int) = p.ss.length then (if 4 < (p.ss.length : Int) then 8 else (if within p.sq 1 24300000000 then 0 else 2)) else 10
theorem d210 (n lo hi : Int) : PCall Tryz.prog 101 [I n, I lo, I hi] ⟨Bo (within n lo hi), []⟩ := by
 refine bs.pv (sx := nos) Zc Tryz.func101 (by kernel_rfl) (by kernel_rfl) rfl ?_
 repeat' (first | refine wk3 ?_ | (refine wk2 ?_ ?_ <;> intro _) | refine wk4 ?_ | fail); all_goals (conv => whnf)
 all_goals exact Zb (by simp_all [within] <;> omega)
theorem d209 (b : Bool) (e : Int) : PCall Tryz.prog 80 [Bo b, I e] ⟨I (unl b e), []⟩ := by
 refine bs.pv (sx := nos) Zc Tryz.func80 (by kernel_rfl) (by kernel_rfl) rfl ?_
 repeat' (first | refine wk3 ?_ | (refine wk2 ?_ ?_ <;> intro _) | refine wk4 ?_ | fail); all_goals (conv => whnf)
 all_goals exact Za (by simp_all [unl])
def fstL : List Int -> Int
 | [] => 0
 | x :: l => if x ≠ 0 then x else fstL l
theorem Zvy (x : Int) (l : List Int) : fstL (x :: l) = if x ≠ 0 then x else fstL l := rfl
set_option maxRecDepth 100000 in
set_option maxHeartbeats 4000000 in
theorem d78 {l : List Int} (hl : l.length < 1000) : PCall Tryz.prog 78 [.isl 1 (nl l)] ⟨I (fstL l), []⟩ := by
 have l2 := Zk l
 refine bs.pv (sx := nos) Zc Tryz.func78 (by kernel_rfl) (by kernel_rfl) rfl ?_
 repeat' (first | refine wk3 ?_ | (refine wk2 ?_ ?_ <;> intro _) | refine wk4 ?_ | fail); all_goals (conv => whnf)
 refine Ya (S := Nat × Int) (fun t => l.length - t.1) (fun t => [(5, .isl 1 (nl l)), (6, I (nl l).length), (7, I t.2)]) (fun _ => []) 0 0 (fun t => t.2 = t.1 /\ t.1 <= l.length /\ fstL (l.drop t.1) = fstL l) (0, 0) ⟨rfl, Nat.zero_le _, rfl⟩ (Nat.le_refl _) [] rfl (kps) (kps) ?_
 rintro ⟨k, i⟩ ⟨hi, hk, hh⟩
 dsimp only at hi hk hh ⊢
 subst hi
 generalize fstL l = R at *
 refine bs.av (sx := nos) Zc ?_
 by_cases hlt : k < l.length
 ·have e1 := Xw hlt
  rw [List.drop_eq_getElem_cons hlt, Zvy] at hh
  generalize l[k] = x at *
  by_cases hx : x = 0
  ·rw [if_neg (fun c => c hx)] at hh
   repeat' (first | refine wk3 ?_ | (refine wk2 ?_ ?_ <;> intro _) | refine wk4 ?_ | fail); all_goals (conv => whnf)
   exact Done.mk ⟨(k + 1, _), [], rfl, kps, kps, ⟨Zg (by omega), hlt, hh⟩, by dsimp only; omega⟩
  ·rw [if_pos hx] at hh
   subst hh
   repeat' (first | refine wk3 ?_ | (refine wk2 ?_ ?_ <;> intro _) | refine wk4 ?_ | fail); all_goals (conv => whnf)
   exact Za rfl
 ·rw [List.drop_of_length_le (by omega)] at hh
  repeat' (first | refine wk3 ?_ | (refine wk2 ?_ ?_ <;> intro _) | refine wk4 ?_ | fail); all_goals (conv => whnf)
  exact Za hh
def r78f : List AV -> Option PRes
 | [.isl 1 l] => match numsOf l with
  | some ns => asr (Nat.blt ns.length 1000) ⟨I (fstL ns), []⟩
  | none => none
 | _ => none
where
 numsOf : List (List AV) -> Option (List Int)
  | [] => some []
  | [.int .i64 n] :: l => match numsOf l with
   | some ns => some (n :: ns)
   | none => none
  | _ => none
theorem Zm8 : ∀ {l : List (List AV)} {ns : List Int}, r78f.numsOf l = some ns -> l = nl ns
 | [], ns, h => by cases h; rfl
 | e :: l, ns, h => by
  unfold r78f.numsOf at h
  split at h
  ·rename_i h0; cases h0
  ·rename_i n l' h0
   cases h0
   split at h
   ·rename_i ms hm
    cases h
    rw [Zm8 hm]; rfl
   ·cases h
  ·cases h
theorem d86 (n m : Int) : PCall Tryz.prog 86 [I n, I m] ⟨Bo (small n m), []⟩ := by
 have hk : PCOK Tryz.prog (ins 101 (fun a => match a with
  | [.int .i64 n, .int .i64 lo, .int .i64 hi] => some ⟨Bo (within n lo hi), []⟩
  | _ => none) pt0) := Zi (fun a res h => by split at h <;> cases h; exact d210 _ _ _) Zc
 refine bs.pv (sx := nos) hk Tryz.func86 (by kernel_rfl) (by kernel_rfl) rfl ?_
 repeat' (first | refine wk3 ?_ | (refine wk2 ?_ ?_ <;> intro _) | refine wk4 ?_ | fail); all_goals (conv => whnf)
 exact Zb rfl
def rWu : List AV -> Option PRes
 | [.int .i64 n, .int .i64 lo, .int .i64 hi] => some ⟨Bo (within n lo hi), []⟩
 | _ => none
def rUn : List AV -> Option PRes
 | [.bool b, .int .i64 e] => some ⟨I (unl b e), []⟩
 | _ => none
def kI0 : PC := ins 78 r78f (ins 80 rUn (ins 101 rWu (ins 86 r92 k78)))
theorem Yek : PCOK Tryz.prog kI0 := by
 refine Zi (fun a res h => ?_) (Zi (fun a res h => ?_) (Zi (fun a res h => ?_) (Zi (fun a res h => ?_) Zvb)))
 ·unfold r78f at h
  split at h
  ·split at h
   ·rename_i ns hn
    obtain ⟨h1, rfl⟩ := Ul h
    rw [Zm8 hn]
    exact d78 (by simpa [Nat.blt_eq] using h1)
   ·cases h
  ·cases h
 ·unfold rUn at h; split at h <;> cases h; exact d209 _ _
 ·unfold rWu at h; split at h <;> cases h; exact d210 _ _ _
 ·unfold r92 at h; split at h <;> cases h; exact d86 _ _
theorem Zyd (p : Pth) : pthE p = fstL [unl (decide (((p.ps.map hp4).length : Int) = ((nl p.ss).length : Int))) 10, unl (decide (((nl p.ss).length : Int) <= 4)) 8, unl (within p.sq 1 24300000000) 2] := by
 have l1 : (p.ps.map hp4).length = p.ps.length := by simp
 rw [l1, Zk]
 unfold pthE fstL fstL fstL fstL unl
 by_cases c1 : (p.ps.length : Int) = p.ss.length
 ·by_cases c2 : 4 < (p.ss.length : Int)
  ·rw [if_pos c1, if_pos c2, decide_eq_true c1, decide_eq_false (by omega)]; rfl
  ·rw [if_pos c1, if_neg c2, decide_eq_true c1, decide_eq_true (by omega)]; cases within p.sq 1 24300000000 <;> rfl
 ·rw [if_neg c1, decide_eq_false c1]; rfl
set_option maxHeartbeats 4000000 in
theorem d162 (p : Pth) : PCall Tryz.prog 96 [p.av] ⟨I (pthE p), []⟩ := by
 rw [Zyd]
 refine bs.pv (sx := nos) Yek Tryz.func96 (by kernel_rfl) (by kernel_rfl) rfl ?_
 repeat' (first | refine wk3 ?_ | (refine wk2 ?_ ?_ <;> intro _) | refine wk4 ?_ | fail); all_goals (conv => whnf)
 exact Za rfl
abbrev Yey (h : Hal) : Prop := (9 < h.ws.length /\ h.ws.length <= 12) \/ 14 < h.ws.length \/ 14 < h.cs.length \/ 4 < h.ms.length \/ 2 < h.ks.length \/ 3 < h.ss.length
def Zkn (h : Hal) : Bool := Yj h.nm && Yj h.fl && Yj h.ce
def few2 (h : Hal) : Bool := (!decide (Yey h) && Zkn h) && (h.ws.all fewW && (h.ms.all fewM && (h.ks.all fewC && h.ss.all fewS)))
theorem Yc0 {h : Hal} (hb : few2 h = true) : h.ok := by
 unfold few2 Zkn at hb
 simp only [Bool.and_eq_true, Bool.not_eq_true', decide_eq_false_iff_not] at hb
 obtain ⟨⟨hL, ⟨n1, n2⟩, n3⟩, m2, m1, m3, m4⟩ := hb
 have hL : ¬ ((9 < h.ws.length /\ h.ws.length <= 12) \/ 14 < h.ws.length \/ 14 < h.cs.length \/ 4 < h.ms.length \/ 2 < h.ks.length \/ 3 < h.ss.length) := hL
 rw [List.all_eq_true] at m1 m2 m3 m4
 refine ⟨⟨by omega, by omega, by omega, by omega, by omega, fun c hc => ?_⟩, ⟨Zbl n1, fun m hm => Zbl (m1 m hm), fun m hm => ?_, fun m hm => ?_, fun m hm => Zbl (m4 m hm)⟩⟩
 ·have := m3 c hc
  unfold fewC at this
  simp only [Bool.and_eq_true, Bool.not_eq_true', decide_eq_false_iff_not] at this
  omega
 ·have := m2 m hm
  unfold fewW at this
  simp only [Bool.and_eq_true] at this
  exact Zbl this.1.1
 ·have := m3 m hm
  unfold fewC at this
  simp only [Bool.and_eq_true] at this
  exact Zbl this.1.1
theorem sh_n {s : ByteArray} (h : Yj s = true) : ¬ (20 : Int) < (s.size : Int) := by
 unfold Yj at h
 simpa using h
set_option maxRecDepth 100000 in
set_option maxHeartbeats 16000000 in
theorem d80 (h : Hal) : PCall Tryz.prog 63 [h.av] ⟨Bo (few2 h), []⟩ := by
 have l1 := Zdc h.ms
 have l2 : (h.cs.map pt).length = h.cs.length := by simp
 have l3 := Yp h.ws
 have l4 := Xc h.ks
 have l5 := Zc1 h.ss
 by_cases hP : Yey h
 ·have e0 : few2 h = false := by unfold few2; rw [decide_eq_true hP]; rfl
  rw [e0]
  clear e0
  have hP : (9 < h.ws.length /\ h.ws.length <= 12) \/ 14 < h.ws.length \/ 14 < h.cs.length \/ 4 < h.ms.length \/ 2 < h.ks.length \/ 3 < h.ss.length := hP
  refine bs.pv (sx := nos) Zc Tryz.func63 (by kernel_rfl) (by kernel_rfl) rfl ?_
  repeat' (first | refine wk3 ?_ | (refine wk2 ?_ ?_ <;> intro _) | refine wk4 ?_ | fail); all_goals (conv => whnf)
  all_goals first
   | exact Zb rfl
   | (exfalso; simp_all; omega)
 have hP' : ¬ ((9 < h.ws.length /\ h.ws.length <= 12) \/ 14 < h.ws.length \/ 14 < h.cs.length \/ 4 < h.ms.length \/ 2 < h.ks.length \/ 3 < h.ss.length) := hP
 have hw : h.ws.length <= 9 \/ 12 < h.ws.length := by omega
 unfold few2
 rw [decide_eq_false hP, Bool.not_false, Bool.true_and]
 clear hP
 by_cases hN : Zkn h = true
 rotate_left
 ·have hN : Zkn h = false := by simpa using hN
  rw [hN, Bool.false_and]
  unfold Zkn at hN
  rcases hw with hw | hw
  all_goals
   refine bs.pv (sx := nos) Zc Tryz.func63 (by kernel_rfl) (by kernel_rfl) rfl ?_
   repeat' (first | refine wk3 ?_ | (refine wk2 ?_ ?_ <;> intro _) | refine wk4 ?_ | fail); all_goals (conv => whnf)
  all_goals first
   | exact Zb rfl
   | (exfalso; simp_all [Yj]; done)
   | (exfalso; simp_all [Yj]; omega)
 rw [hN, Bool.true_and]
 unfold Zkn at hN
 simp only [Bool.and_eq_true] at hN
 obtain ⟨⟨n1, n2⟩, n3⟩ := hN
 have n1 := sh_n n1
 have n2 := sh_n n2
 have n3 := sh_n n3
 generalize hE : (h.ws.all fewW && (h.ms.all fewM && (h.ks.all fewC && h.ss.all fewS))) = R
 rcases hw with hw | hw
 all_goals
  refine bs.pv (sx := nos) Zc Tryz.func63 (by kernel_rfl) (by kernel_rfl) rfl ?_
  repeat' (first | refine wk3 ?_ | (refine wk2 ?_ ?_ <;> intro _) | refine wk4 ?_ | fail); all_goals (conv => whnf)
  clear n1 n2 n3
  subst hE
  generalize hV : (h.ms.all fewM && (h.ks.all fewC && h.ss.all fewS)) = V
  refine Ya (S := Nat × Int) (fun t => h.ws.length - t.1) (fun t => [(1, .ptr 0 0 0), (2, Bo false), (3, I t.2)]) (fun _ => [(0, .row 9 [h.cells] true false)]) 1 1 (fun t => t.2 = t.1 /\ t.1 <= h.ws.length /\ ((h.ws.drop t.1).all fewW && V) = (h.ws.all fewW && V)) (0, 0) ⟨rfl, Nat.zero_le _, rfl⟩ (Nat.le_refl _) [] rfl (kps) (kps) ?_
  rintro ⟨k, i⟩ ⟨hi, hk, hh⟩
  dsimp only at hi hk hh ⊢
  subst hi
  generalize hB : (h.ws.all fewW && V) = B at *
  clear hB
  refine bs.av (sx := nos) Zc ?_
  by_cases hlt : k < h.ws.length
  ·clear hV
   have e1 := Zkb hlt
   rw [List.drop_eq_getElem_cons hlt, List.all_cons] at hh
   generalize h.ws[k] = m at *
   have hm : ∀ b, fewW m = b -> (b && (h.ws.drop (k + 1)).all fewW && V) = B := fun b e => by rw [<-e, Bool.and_assoc]; rw [Bool.and_assoc] at hh; exact hh
   clear hh
   repeat' (first | refine wk3 ?_ | (refine wk2 ?_ ?_ <;> intro _) | refine wk4 ?_ | fail); all_goals (conv => whnf)
   all_goals clear e1
   all_goals first
    | exact Zb (hm false (by clear hm; simp_all [fewW, Yj]; done))
    | exact Done.mk ⟨(k + 1, _), [], rfl, kps, kps, ⟨Zg (by omega), hlt, hm true (by clear hm; simp_all [fewW, Yj]; done)⟩, by dsimp only; omega⟩
  rw [List.drop_of_length_le (by omega)] at hh
  have hh : V = B := hh
  subst hh
  subst hV
  repeat' (first | refine wk3 ?_ | (refine wk2 ?_ ?_ <;> intro _) | refine wk4 ?_ | fail); all_goals (conv => whnf)
  clear hlt hk
  generalize hV : (h.ks.all fewC && h.ss.all fewS) = V
  refine Ya (S := Nat × Int) (fun t => h.ms.length - t.1) (fun t => [(1, .ptr 0 0 0), (2, Bo false), (4, I t.2)]) (fun _ => [(0, .row 9 [h.cells] true false)]) 1 1 (fun t => t.2 = t.1 /\ t.1 <= h.ms.length /\ ((h.ms.drop t.1).all fewM && V) = (h.ms.all fewM && V)) (0, 0) ⟨rfl, Nat.zero_le _, rfl⟩ (Nat.le_refl _) [] rfl (kps) (kps) ?_
  rintro ⟨k, i⟩ ⟨hi, hk, hh⟩
  dsimp only at hi hk hh ⊢
  subst hi
  generalize hB : (h.ms.all fewM && V) = B at *
  clear hB
  refine bs.av (sx := nos) Zc ?_
  by_cases hlt : k < h.ms.length
  ·clear hV
   have e1 := Zq1 hlt
   rw [List.drop_eq_getElem_cons hlt, List.all_cons] at hh
   generalize h.ms[k] = m at *
   have hm : ∀ b, fewM m = b -> (b && (h.ms.drop (k + 1)).all fewM && V) = B := fun b e => by rw [<-e, Bool.and_assoc]; rw [Bool.and_assoc] at hh; exact hh
   clear hh
   repeat' (first | refine wk3 ?_ | (refine wk2 ?_ ?_ <;> intro _) | refine wk4 ?_ | fail); all_goals (conv => whnf)
   all_goals clear e1
   all_goals first
    | exact Zb (hm false (by clear hm; simp_all [fewM, Yj]; done))
    | exact Done.mk ⟨(k + 1, _), [], rfl, kps, kps, ⟨Zg (by omega), hlt, hm true (by clear hm; simp_all [fewM, Yj]; done)⟩, by dsimp only; omega⟩
  rw [List.drop_of_length_le (by omega)] at hh
  have hh : V = B := hh
  subst hh
  subst hV
  repeat' (first | refine wk3 ?_ | (refine wk2 ?_ ?_ <;> intro _) | refine wk4 ?_ | fail); all_goals (conv => whnf)
  clear hlt hk
  generalize hV : h.ss.all fewS = V
  refine Ya (S := Nat × Int) (fun t => h.ks.length - t.1) (fun t => [(1, .ptr 0 0 0), (2, Bo false), (5, I t.2)]) (fun _ => [(0, .row 9 [h.cells] true false)]) 1 1 (fun t => t.2 = t.1 /\ t.1 <= h.ks.length /\ ((h.ks.drop t.1).all fewC && V) = (h.ks.all fewC && V)) (0, 0) ⟨rfl, Nat.zero_le _, rfl⟩ (Nat.le_refl _) [] rfl (kps) (kps) ?_
  rintro ⟨k, i⟩ ⟨hi, hk, hh⟩
  dsimp only at hi hk hh ⊢
  subst hi
  generalize hB : (h.ks.all fewC && V) = B at *
  clear hB
  refine bs.av (sx := nos) Zc ?_
  by_cases hlt : k < h.ks.length
  ·clear hV
   have e1 := Zdo hlt
   rw [List.drop_eq_getElem_cons hlt, List.all_cons] at hh
   generalize h.ks[k] = m at *
   have e9 := Zk m.hs
   have hm : ∀ b, fewC m = b -> (b && (h.ks.drop (k + 1)).all fewC && V) = B := fun b e => by rw [<-e, Bool.and_assoc]; rw [Bool.and_assoc] at hh; exact hh
   clear hh
   repeat' (first | refine wk3 ?_ | (refine wk2 ?_ ?_ <;> intro _) | refine wk4 ?_ | fail); all_goals (conv => whnf)
   all_goals clear e1
   all_goals first
    | exact Zb (hm false (by clear hm; simp_all [fewC, Yj]; done))
    | exact Done.mk ⟨(k + 1, _), [], rfl, kps, kps, ⟨Zg (by omega), hlt, hm true (by clear hm; simp_all [fewC, Yj]; done)⟩, by dsimp only; omega⟩
  rw [List.drop_of_length_le (by omega)] at hh
  have hh : V = B := hh
  subst hh
  subst hV
  repeat' (first | refine wk3 ?_ | (refine wk2 ?_ ?_ <;> intro _) | refine wk4 ?_ | fail); all_goals (conv => whnf)
  clear hlt hk
  refine Ya (S := Nat × Int) (fun t => h.ss.length - t.1) (fun t => [(1, .ptr 0 0 0), (2, Bo false), (6, I t.2)]) (fun _ => [(0, .row 9 [h.cells] true false)]) 1 1 (fun t => t.2 = t.1 /\ t.1 <= h.ss.length /\ ((h.ss.drop t.1).all fewS) = (h.ss.all fewS)) (0, 0) ⟨rfl, Nat.zero_le _, rfl⟩ (Nat.le_refl _) [] rfl (kps) (kps) ?_
  rintro ⟨k, i⟩ ⟨hi, hk, hh⟩
  dsimp only at hi hk hh ⊢
  subst hi
  generalize hB : (h.ss.all fewS) = B at *
  clear hB
  refine bs.av (sx := nos) Zc ?_
  by_cases hlt : k < h.ss.length
  ·have e1 := Zqq hlt
   rw [List.drop_eq_getElem_cons hlt, List.all_cons] at hh
   generalize h.ss[k] = m at *
   have hm : ∀ b, fewS m = b -> (b && (h.ss.drop (k + 1)).all fewS) = B := fun b e => by rw [<-e]; exact hh
   clear hh
   repeat' (first | refine wk3 ?_ | (refine wk2 ?_ ?_ <;> intro _) | refine wk4 ?_ | fail); all_goals (conv => whnf)
   all_goals clear e1
   all_goals first
    | exact Zb (hm false (by clear hm; simp_all [fewS, Yj]; done))
    | exact Done.mk ⟨(k + 1, _), [], rfl, kps, kps, ⟨Zg (by omega), hlt, hm true (by clear hm; simp_all [fewS, Yj]; done)⟩, by dsimp only; omega⟩
  rw [List.drop_of_length_le (by omega)] at hh
  repeat' (first | refine wk3 ?_ | (refine wk2 ?_ ?_ <;> intro _) | refine wk4 ?_ | fail); all_goals (conv => whnf)
  exact Zb hh
def few3 (h : Hal) (s : Stg) : Bool := few2 h && (decide (s.hs.length <= 4) && decide (s.dr.length <= 10))
theorem Ycz {h : Hal} {s : Stg} (r : few3 h s = true) : h.ok /\ s.few := by
 unfold few3 at r
 simp only [Bool.and_eq_true, decide_eq_true_eq] at r
 exact ⟨Yc0 r.1, by omega, by omega⟩
theorem d90 {h : Hal} (hk : h.ok) : PCall Tryz.prog 66 [h.av] ⟨I h.err, []⟩ := by
 refine bs.pv (sx := nos) (Ze (c65k hk) Zc) Tryz.func66 (by kernel_rfl) (by kernel_rfl) rfl ?_
 repeat' (first | refine wk3 ?_ | (refine wk2 ?_ ?_ <;> intro _) | refine wk4 ?_ | fail); all_goals (conv => whnf)
 exact Za rfl
noncomputable abbrev cHas (h : Hal) : List AV -> Option PRes := famA (fun _ : Int => True) (fun i => [h.av, I i]) (fun i => ⟨Bo (within i 0 (nsur h - 1)), []⟩)
theorem Ycr (h : Hal) (i : Int) : cHas h [h.av, I i] = some ⟨Bo (within i 0 (nsur h - 1)), []⟩ :=
 Zv (p := fun _ : Int => True) (g := fun i => [h.av, I i]) (r := fun i => ⟨Bo (within i 0 (nsur h - 1)), []⟩) (fun j hj => by
  simp only [List.cons.injEq, AV.int.injEq, true_and, and_true] at hj
  rw [hj]) trivial
def nsN (h : Hal) : Nat := h.ws.length + 2 + h.ks.length
theorem Zqz (h : Hal) : (nsN h : Int) = nsur h := by unfold nsN nsur; omega
theorem Zqm (h : Hal) : (sl (surf h)).length = nsN h := by
 rw [Zib]; unfold surf Zfc Zft nsN; simp; omega
def prvL (l : List Int) : Nat -> Option Int
 | 0 => none
 | k + 1 => l[k]?
def wkG (n : Int) : Option Int -> List Int -> Int
 | _, [] => 0
 | q, x :: l => if within x 0 n then (if q = some x then 26 else wkG n (some x) l) else 6
theorem Zqe {n : Int} {l : List Int} {k : Nat} (hk : k < l.length) : wkG n (prvL l k) (l.drop k) = if within l[k] 0 n then (if prvL l k = some l[k] then 26 else wkG n (prvL l (k + 1)) (l.drop (k + 1))) else 6 := by
 rw [List.drop_eq_getElem_cons hk, wkG, show prvL l (k + 1) = some l[k] by rw [prvL, List.getElem?_eq_getElem hk]]
def suE (h : Hal) (l : List Int) : Int := if 4 < (l.length : Int) then 8 else wkG (nsur h - 1) none l
theorem Zzw {n : Int} : ∀ {l : List Int} {q : Option Int}, wkG n q l = 0 -> ∀ x ∈ l, 0 <= x /\ x <= n
 | [], _, _, x, hx => by simp at hx
 | y :: l, q, h, x, hx => by
  rw [wkG] at h
  split at h
  ·rename_i c
   split at h
   ·cases h
   ·rw [List.mem_cons] at hx
    rcases hx with rfl | hx
    ·exact within_iff.1 c
    ·exact Zzw h x hx
  ·cases h
set_option maxRecDepth 100000 in
set_option maxHeartbeats 8000000 in
theorem d93 {h : Hal} (hf : h.few) (l : List Int) (hl : l.length < 1000) : PCall Tryz.prog 19 [h.av, .isl 1 (nl l)] ⟨I (suE h l), []⟩ := by
 have l2 := Zk l
 have hk : PCOK Tryz.prog (ins 69 (cHas h) pt0) := Ym (fun i _ => c88 hf i) Zc
 unfold suE
 by_cases c : 4 < (l.length : Int)
 ·rw [if_pos c]
  refine bs.pv (sx := nos) Zc Tryz.func19 (by kernel_rfl) (by kernel_rfl) rfl ?_
  repeat' (first | refine wk3 ?_ | (refine wk2 ?_ ?_ <;> intro _) | refine wk4 ?_ | fail); all_goals (conv => whnf)
  exact Za rfl
 rw [if_neg c]
 refine bs.pv (sx := nos) hk Tryz.func19 (by kernel_rfl) (by kernel_rfl) rfl ?_
 repeat' (first | refine wk3 ?_ | (refine wk2 ?_ ?_ <;> intro _) | refine wk4 ?_ | fail); all_goals (conv => whnf)
 refine Ya (S := Nat × Int) (fun t => l.length - t.1) (fun t => [(1, .isl 1 (nl l)), (2, .ptr 0 0 0), (5, I t.2)]) (fun _ => [(0, .row 9 [h.cells] true false)]) 1 1 (fun t => t.2 = t.1 /\ t.1 <= l.length /\ wkG (nsur h - 1) (prvL l t.1) (l.drop t.1) = wkG (nsur h - 1) none l) (0, 0) ⟨rfl, Nat.zero_le _, rfl⟩ (Nat.le_refl _) [] rfl (kps) (kps) ?_
 rintro ⟨k, i⟩ ⟨hi, hk1, hh⟩
 dsimp only at hi hk1 hh ⊢
 subst hi
 generalize wkG (nsur h - 1) none l = R at *
 refine bs.av (sx := nos) hk ?_
 by_cases hlt : k < l.length
 ·have e1 := Xw hlt
  have g1 := Ycr h l[k]
  rw [Zqe hlt] at hh
  cases k with
  | zero =>
   rw [show prvL l 0 = none from rfl] at hh
   rw [if_neg (c := none = some l[0]) (by simp)] at hh
   generalize l[0] = x at *
   cases hw : within x 0 (nsur h - 1)
   ·rw [hw] at hh g1
    have hh : (6 : Int) = R := hh
    subst hh
    repeat' (first | refine wk3 ?_ | (refine wk2 ?_ ?_ <;> intro _) | refine wk4 ?_ | fail); all_goals (conv => whnf)
    exact Za rfl
   ·rw [hw, if_pos rfl] at hh
    rw [hw] at g1
    repeat' (first | refine wk3 ?_ | (refine wk2 ?_ ?_ <;> intro _) | refine wk4 ?_ | fail); all_goals (conv => whnf)
    exact Done.mk ⟨(1, _), [], rfl, kps, kps, ⟨Zg (k := 0) (by omega), hlt, hh⟩, by dsimp only; omega⟩
  | succ k =>
   have w : IntKind.i64.wrap (((k + 1 : Nat) : Int) - 1) = (k : Int) := by rw [W_eq (by omega) (by omega)]; omega
   have hlt' : k < l.length := by omega
   have e2 : (nl l)[(IntKind.i64.wrap (((k + 1 : Nat) : Int) - 1)).toNat]? = some [I l[k]] := by rw [w]; exact Xw hlt'
   rw [show prvL l (k + 1) = some l[k] by rw [prvL, List.getElem?_eq_getElem hlt']] at hh
   generalize l[k + 1] = x at *
   generalize l[k] = y at *
   cases hw : within x 0 (nsur h - 1)
   ·rw [hw] at hh g1
    have hh : (6 : Int) = R := hh
    subst hh
    repeat' (first | refine wk3 ?_ | (refine wk2 ?_ ?_ <;> intro _) | refine wk4 ?_ | fail); all_goals (conv => whnf)
    exact Za rfl
   ·rw [hw, if_pos rfl] at hh
    rw [hw] at g1
    by_cases hxy : x = y
    ·rw [if_pos (by rw [hxy])] at hh
     subst hh
     repeat' (first | refine wk3 ?_ | (refine wk2 ?_ ?_ <;> intro _) | refine wk4 ?_ | fail); all_goals (conv => whnf)
     exact Za rfl
    ·rw [if_neg (fun c => hxy (by simpa using c.symm))] at hh
     repeat' (first | refine wk3 ?_ | (refine wk2 ?_ ?_ <;> intro _) | refine wk4 ?_ | fail); all_goals (conv => whnf)
     exact Done.mk ⟨(k + 1 + 1, _), [], rfl, kps, kps, ⟨Zg (k := k + 1) (by omega), hlt, hh⟩, by dsimp only; omega⟩
 ·rw [List.drop_of_length_le (by omega), wkG] at hh
  repeat' (first | refine wk3 ?_ | (refine wk2 ?_ ?_ <;> intro _) | refine wk4 ?_ | fail); all_goals (conv => whnf)
  exact Za hh
set_option maxRecDepth 100000 in
set_option maxHeartbeats 8000000 in
theorem d165 {h : Hal} (hk : h.ok) (he : h.err = 0) (l : List Int) (hl : l.length < 1000) : PCall Tryz.prog 64 [h.av, .isl 1 (nl l)] ⟨I (suE h l), []⟩ := by
 have l2 := Zk l
 have h64 := c64 hk
 rw [he, if_pos rfl] at h64
 have l3 := Zqm h
 have hn := Zqz h
 have hf := hk.f
 have hnb : nsN h < 10000 := by obtain ⟨f1, f2, f3, f4, f5, f6⟩ := hf; unfold nsN; omega
 have hk := Ze h64 (Zi (f0 := 101) (r := rWu) (fun a res h => by unfold rWu at h; split at h <;> cases h; exact d210 _ _ _) Zc)
 unfold suE
 by_cases c : 4 < (l.length : Int)
 ·rw [if_pos c]
  refine bs.pv (sx := nos) Zc Tryz.func64 (by kernel_rfl) (by kernel_rfl) rfl ?_
  repeat' (first | refine wk3 ?_ | (refine wk2 ?_ ?_ <;> intro _) | refine wk4 ?_ | fail); all_goals (conv => whnf)
  exact Za rfl
 rw [if_neg c]
 have w0 : IntKind.i64.wrap (((sl (surf h)).length : Int) - 1) = nsur h - 1 := by rw [l3, W_eq (by omega) (by omega)]; omega
 rw [<-w0]
 refine bs.pv (sx := nos) hk Tryz.func64 (by kernel_rfl) (by kernel_rfl) rfl ?_
 repeat' (first | refine wk3 ?_ | (refine wk2 ?_ ?_ <;> intro _) | refine wk4 ?_ | fail); all_goals (conv => whnf)
 refine Ya (S := Nat × Int) (fun t => l.length - t.1) (fun t => [(1, .isl 1 (nl l)), (5, .isl 1 (sl (surf h))), (17, .isl 1 (nl l)), (18, I (nl l).length), (19, I t.2)]) (fun _ => []) 1 1 (fun t => t.2 = t.1 /\ t.1 <= l.length /\ wkG (IntKind.i64.wrap (((sl (surf h)).length : Int) - 1)) (prvL l t.1) (l.drop t.1) = wkG (IntKind.i64.wrap (((sl (surf h)).length : Int) - 1)) none l) (0, 0) ⟨rfl, Nat.zero_le _, rfl⟩ (Nat.le_refl _) [] rfl (kps) (kps) ?_
 rintro ⟨k, i⟩ ⟨hi, hk1, hh⟩
 dsimp only at hi hk1 hh ⊢
 subst hi
 generalize wkG (IntKind.i64.wrap (((sl (surf h)).length : Int) - 1)) none l = R at *
 refine bs.av (sx := nos) hk ?_
 by_cases hlt : k < l.length
 ·have e1 := Xw hlt
  rw [Zqe hlt] at hh
  cases k with
  | zero =>
   rw [show prvL l 0 = none from rfl] at hh
   rw [if_neg (c := none = some l[0]) (by simp)] at hh
   generalize l[0] = x at *
   cases hw : within x 0 (IntKind.i64.wrap (((sl (surf h)).length : Int) - 1))
   ·rw [hw] at hh
    have hh : (6 : Int) = R := hh
    subst hh
    repeat' (first | refine wk3 ?_ | (refine wk2 ?_ ?_ <;> intro _) | refine wk4 ?_ | fail); all_goals (conv => whnf)
    all_goals first
     | exact Za rfl
     | (exfalso; simp_all; done)
   ·rw [hw, if_pos rfl] at hh
    repeat' (first | refine wk3 ?_ | (refine wk2 ?_ ?_ <;> intro _) | refine wk4 ?_ | fail); all_goals (conv => whnf)
    all_goals first
     | exact Done.mk ⟨(1, _), [], rfl, kps, kps, ⟨Zg (k := 0) (by omega), hlt, hh⟩, by dsimp only; omega⟩
     | (exfalso; simp_all; done)
  | succ k =>
   have w : IntKind.i64.wrap (((k + 1 : Nat) : Int) - 1) = (k : Int) := by rw [W_eq (by omega) (by omega)]; omega
   have hlt' : k < l.length := by omega
   have e2 : (nl l)[(IntKind.i64.wrap (((k + 1 : Nat) : Int) - 1)).toNat]? = some [I l[k]] := by rw [w]; exact Xw hlt'
   rw [show prvL l (k + 1) = some l[k] by rw [prvL, List.getElem?_eq_getElem hlt']] at hh
   generalize l[k + 1] = x at *
   generalize l[k] = y at *
   cases hw : within x 0 (IntKind.i64.wrap (((sl (surf h)).length : Int) - 1))
   ·rw [hw] at hh
    have hh : (6 : Int) = R := hh
    subst hh
    repeat' (first | refine wk3 ?_ | (refine wk2 ?_ ?_ <;> intro _) | refine wk4 ?_ | fail); all_goals (conv => whnf)
    all_goals first
     | exact Za rfl
     | (exfalso; simp_all; done)
   ·rw [hw, if_pos rfl] at hh
    by_cases hxy : x = y
    ·rw [if_pos (by rw [hxy])] at hh
     subst hh
     repeat' (first | refine wk3 ?_ | (refine wk2 ?_ ?_ <;> intro _) | refine wk4 ?_ | fail); all_goals (conv => whnf)
     all_goals first
      | exact Za rfl
      | (exfalso; simp_all; done)
    ·rw [if_neg (fun c => hxy (by simpa using c.symm))] at hh
     repeat' (first | refine wk3 ?_ | (refine wk2 ?_ ?_ <;> intro _) | refine wk4 ?_ | fail); all_goals (conv => whnf)
     all_goals first
      | exact Done.mk ⟨(k + 1 + 1, _), [], rfl, kps, kps, ⟨Zg (k := k + 1) (by omega), hlt, hh⟩, by dsimp only; omega⟩
      | (exfalso; simp_all; done)
 ·rw [List.drop_of_length_le (by omega), wkG] at hh
  repeat' (first | refine wk3 ?_ | (refine wk2 ?_ ?_ <;> intro _) | refine wk4 ?_ | fail); all_goals (conv => whnf)
  exact Za hh
theorem d17 (h : Hal) (s : Stg) : PCall Tryz.prog 13 [.agg (stgL h s)] ⟨Bo (few3 h s), []⟩ := by
 have l1 := Zk s.hs
 have l2 := Zk s.dr
 have hk := Ze (d80 h) Zc
 unfold few3
 generalize few2 h = b at *
 by_cases c1 : s.hs.length <= 4 <;> by_cases c2 : s.dr.length <= 10 <;> cases b
 all_goals
  refine bs.pv (sx := nos) hk Tryz.func13 (by kernel_rfl) (by kernel_rfl) rfl ?_
  repeat' (first | refine wk3 ?_ | (refine wk2 ?_ ?_ <;> intro _) | refine wk4 ?_ | fail); all_goals (conv => whnf)
 all_goals first
  | exact Zb rfl
  | (refine Zb ?_; simp_all; done)
  | (refine Zb ?_; simp_all; omega)
  | (exfalso; simp_all; omega)
set_option maxRecDepth 100000 in
set_option maxHeartbeats 4000000 in
theorem d21 {p : Pth} (h1 : p.ss.length < 100000) (h2 : p.ps.length < 100000) : PCall Tryz.prog 35 [p.av] ⟨p.av, []⟩ := by
 have o1 : Vb (p.ps.map hp4) = true := by simp [Vb, AV.one]
 have l2 : (p.ps.map hp4).length = p.ps.length := by simp
 have hk := Ze (c25f p.ss h1) Zc
 have key : PCall Tryz.prog 35 [p.av] ⟨.agg [.isl 1 (nl p.ss), .asl 0 0 (p.ps.map hp4).length, I p.sq], [(4, p.ps.map hp4)]⟩ := by
  obtain ⟨ss, ps, sq⟩ := p
  dsimp only at *
  cases ps with
  | nil =>
   refine bs.pv (sx := nos) hk Tryz.func35 (by kernel_rfl) (by kernel_rfl) rfl ?_
   repeat' (first | refine wk3 ?_ | (refine wk2 ?_ ?_ <;> intro _) | refine wk4 ?_ | fail); all_goals (conv => whnf)
   exact Xf [5] rfl rfl rfl
  | cons q ps =>
   refine bs.pv (sx := nos) hk Tryz.func35 (by kernel_rfl) (by kernel_rfl) rfl ?_
   repeat' (first | refine wk3 ?_ | (refine wk2 ?_ ?_ <;> intro _) | refine wk4 ?_ | fail); all_goals (conv => whnf)
   refine Ydc (ys := (q :: ps).map hp4) rfl rfl rfl rfl rfl rfl rfl rfl rfl o1 (by simp) rfl (by show 0 + _ <= _; rw [l2]; omega) ?_
   repeat' (first | refine wk3 ?_ | (refine wk2 ?_ ?_ <;> intro _) | refine wk4 ?_ | fail); all_goals (conv => whnf)
   refine Xf [8] rfl ?_ rfl
   show AV.agg [.isl 1 (nl ss), .asl 8 0 (0 + ((q :: ps).map hp4).length), I sq] = AV.agg [.isl 1 (nl ss), .asl 8 0 ((q :: ps).map hp4).length, I sq]
   rw [Nat.zero_add]
 exact key.freeze ⟨⟨rfl, rfl⟩, ⟨rfl, rfl, rfl⟩, ⟨rfl, rfl⟩, trivial⟩
def eqN : List Int -> List Int -> Bool
 | [], [] => true
 | x :: a, y :: b => decide (x = y) && eqN a b
 | _, _ => false
theorem eqN_iff : ∀ {a b : List Int}, eqN a b = true ↔ a = b
 | [], [] => by simp [eqN]
 | x :: a, y :: b => by rw [eqN, Bool.and_eq_true, decide_eq_true_eq, eqN_iff]; simp
 | [], y :: b => by simp [eqN]
 | x :: a, [] => by simp [eqN]
theorem Yc3 {a b : List Int} (h : a.length ≠ b.length) : eqN a b = false := by
 rw [Bool.eq_false_iff, ne_eq, eqN_iff]
 intro e; exact h (by rw [e])
set_option maxRecDepth 100000 in
set_option maxHeartbeats 4000000 in
theorem c69 {a b : List Int} (hl : a.length < 1000000) (hb : b.length < 1000000) : PCall Tryz.prog 58 [.isl 1 (nl a), .isl 1 (nl b)] ⟨Bo (eqN a b), []⟩ := by
 have l1 := Zk a
 have l2 := Zk b
 refine bs.pv (sx := nos) Zc Tryz.func58 (by kernel_rfl) (by kernel_rfl) rfl ?_
 by_cases hlen : a.length = b.length
 ·repeat' (first | refine wk1 ?_ | (refine wk2 ?_ ?_ <;> intro _) | refine wk4 ?_ | fail); all_goals (conv => whnf)
  refine Ya (S := Nat × Int) (fun t => a.length - t.1) (fun t => [(0, .isl 1 (nl a)), (1, .isl 1 (nl b)), (5, I t.2)]) (fun _ => []) 0 0 (fun t => t.2 = t.1 /\ t.1 <= a.length /\ eqN (a.drop t.1) (b.drop t.1) = eqN a b) (0, 0) ⟨rfl, Nat.zero_le _, rfl⟩ (Nat.le_refl _) [] rfl (kps) (kps) ?_
  rintro ⟨k, i⟩ ⟨hi, hk, hh⟩
  dsimp only at hi hk hh ⊢
  subst hi
  refine bs.av (sx := nos) Zc ?_
  by_cases hlt : k < a.length
  ·have e1 := Xw hlt
   have e2 := Xw (ns := b) (k := k) (by omega)
   rw [List.drop_eq_getElem_cons hlt, List.drop_eq_getElem_cons (show k < b.length by omega), eqN] at hh
   by_cases he : a[k] = b[k]'(by omega)
   ·rw [decide_eq_true he, Bool.true_and] at hh
    repeat' (first | refine wk1 ?_ | (refine wk2 ?_ ?_ <;> intro _) | refine wk4 ?_ | fail); all_goals (conv => whnf)
    exact Done.mk ⟨(k + 1, _), [], rfl, kps, kps, ⟨Zg (by omega), hlt, hh⟩, by dsimp only; omega⟩
   ·rw [decide_eq_false he, Bool.false_and] at hh
    rw [<-hh]
    repeat' (first | refine wk1 ?_ | (refine wk2 ?_ ?_ <;> intro _) | refine wk4 ?_ | fail); all_goals (conv => whnf)
    exact Zb rfl
  ·rw [List.drop_of_length_le (by omega), List.drop_of_length_le (by omega)] at hh
   rw [<-hh]
   repeat' (first | refine wk1 ?_ | (refine wk2 ?_ ?_ <;> intro _) | refine wk4 ?_ | fail); all_goals (conv => whnf)
   exact Zb rfl
 ·rw [Yc3 hlen]
  repeat' (first | refine wk1 ?_ | (refine wk2 ?_ ?_ <;> intro _) | refine wk4 ?_ | fail); all_goals (conv => whnf)
  exact Zb rfl
noncomputable abbrev Yco : List AV -> Option PRes := famA (fun p : List Int × List Int => p.1.length < 1000000 /\ p.2.length < 1000000) (fun p => [.isl 1 (nl p.1), .isl 1 (nl p.2)]) (fun p => ⟨Bo (eqN p.1 p.2), []⟩)
theorem Zys {a b : List Int} (ha : a.length < 1000000) (hb : b.length < 1000000) : Yco [.isl 1 (nl a), .isl 1 (nl b)] = some ⟨Bo (eqN a b), []⟩ :=
 Zv (p := fun p : List Int × List Int => p.1.length < 1000000 /\ p.2.length < 1000000) (g := fun p => [.isl 1 (nl p.1), .isl 1 (nl p.2)]) (r := fun p => ⟨Bo (eqN p.1 p.2), []⟩) (k := (a, b)) (fun j hj => by
  simp only [List.cons.injEq, AV.isl.injEq, true_and, and_true] at hj
  rw [Zfp hj.1, Zfp hj.2]) ⟨ha, hb⟩
theorem Zyt {pt : PC} (h : PCOK Tryz.prog pt) : PCOK Tryz.prog (ins 58 Yco pt) := Ym (fun p hp => c69 hp.1 hp.2) h
theorem d103 {ns : List Int} (h0 : 0 < ns.length) (hl : ns.length < 100000) : PCall Tryz.prog 103 [.isl 1 (nl ns)] ⟨.asl 0 0 (nl ns).length, [(1, nl ns)]⟩ := by
 obtain ⟨x, l, rfl⟩ := List.exists_cons_of_length_pos h0
 have h1 := Zm7 (x :: l)
 have h2 := Zk (x :: l)
 refine bs.pv (sx := nos) Zc Tryz.func103 (by kernel_rfl) (by kernel_rfl) rfl ?_
 repeat' (first | refine wk3 ?_ | (refine wk2 ?_ ?_ <;> intro _) | refine wk4 ?_ | fail); all_goals (conv => whnf)
 refine Xf [1] rfl ?_ rfl
 show AV.asl 1 0 (0 + (nl (x :: l)).length) = AV.asl 1 0 (nl (x :: l)).length
 rw [Nat.zero_add]
set_option maxRecDepth 100000 in
set_option maxHeartbeats 4000000 in
theorem w103 (a : Option Addr) (cap : Nat) (w : World) : Calls Tryz.prog 103 #[.slice a 0 cap] w fun e w' => ∃ a' cap', e = .returned (.slice a' 0 cap') /\ RowKit.Below w.heap.size w w' := by
 have e : ∀ w : World, Sem.run Tryz.prog (binOp BinOp.eql 29 (Value.slice a 0 cap) (Value.slice none 0 0)) w = .ok (.bool a.isNone) w := by
  intro w
  cases a <;> rfl
 cases a with
 | none =>
  simp only [Option.isNone] at e
  go_enter Tryz.func103, Tryz.ntmps103
  go_wp2
  go_ret
  exact ⟨_, _, rfl, RowKit.Below.refl _ _⟩
 | some a =>
  simp only [Option.isNone] at e
  go_enter Tryz.func103, Tryz.ntmps103
  go_wp2
  go_ret
  exact ⟨_, _, rfl, Zjn _ _⟩
theorem Yf6 : PCall Tryz.prog 103 [.isl 1 []] ⟨.isl 1 [], []⟩ := Zm4 (FnOK.of Tryz.func103 (by kernel_rfl) (by kernel_rfl)) w103
theorem Zu0 (l : List (Int × Int × Int × Int)) : Vb (l.map hp4) = true := by simp [Vb, AV.one]
theorem d104 {ps : List (Int × Int × Int × Int)} (h0 : 0 < ps.length) (hl : ps.length < 100000) : PCall Tryz.prog 104 [.isl 4 (ps.map hp4)] ⟨.asl 0 0 (ps.map hp4).length, [(4, ps.map hp4)]⟩ := by
 obtain ⟨x, l, rfl⟩ := List.exists_cons_of_length_pos h0
 have h1 := Zu0 (x :: l)
 have h2 : ((x :: l).map hp4).length = (x :: l).length := by simp
 refine bs.pv (sx := nos) Zc Tryz.func104 (by kernel_rfl) (by kernel_rfl) rfl ?_
 repeat' (first | refine wk3 ?_ | (refine wk2 ?_ ?_ <;> intro _) | refine wk4 ?_ | fail); all_goals (conv => whnf)
 refine Xf [1] rfl ?_ rfl
 show AV.asl 1 0 (0 + ((x :: l).map hp4).length) = AV.asl 1 0 ((x :: l).map hp4).length
 rw [Nat.zero_add]
set_option maxRecDepth 100000 in
set_option maxHeartbeats 4000000 in
theorem w104 (a : Option Addr) (cap : Nat) (w : World) : Calls Tryz.prog 104 #[.slice a 0 cap] w fun e w' => ∃ a' cap', e = .returned (.slice a' 0 cap') /\ RowKit.Below w.heap.size w w' := by
 have e : ∀ w : World, Sem.run Tryz.prog (binOp BinOp.eql 40 (Value.slice a 0 cap) (Value.slice none 0 0)) w = .ok (.bool a.isNone) w := by
  intro w
  cases a <;> rfl
 cases a with
 | none =>
  simp only [Option.isNone] at e
  go_enter Tryz.func104, Tryz.ntmps104
  go_wp2
  go_ret
  exact ⟨_, _, rfl, RowKit.Below.refl _ _⟩
 | some a =>
  simp only [Option.isNone] at e
  go_enter Tryz.func104, Tryz.ntmps104
  go_wp2
  go_ret
  exact ⟨_, _, rfl, Zjn _ _⟩
theorem Yf4 : PCall Tryz.prog 104 [.isl 4 []] ⟨.isl 4 [], []⟩ := Zm4 (FnOK.of Tryz.func104 (by kernel_rfl) (by kernel_rfl)) w104
abbrev Pl3 := Int × Int × Int
def plcB (x y z : Int) : Bool := within x (-5000) 5000 && within y (-5000) 5000 && within z (-5000) 5000
def plaE (h : Hal) (x y z : Int) : Int := if plcB x y z = true then unl (Uz h ⟨x, y, z, 1⟩) 24 else 2
theorem d123 (x y z : Int) : PCall Tryz.prog 123 [P3 x y z] ⟨P4 x y z 1, []⟩ := by
 refine bs.pv (sx := nos) Zc Tryz.func123 (by kernel_rfl) (by kernel_rfl) rfl ?_
 repeat' (first | refine wk3 ?_ | (refine wk2 ?_ ?_ <;> intro _) | refine wk4 ?_ | fail); all_goals (conv => whnf)
 all_goals exact Zf rfl rfl
theorem d83 (n : Int) : PCall Tryz.prog 83 [I n] ⟨Bo (within n (-5000) 5000), []⟩ := by
 refine bs.pv (sx := nos) (Ze (c30 n (-5000) 5000) Zc) Tryz.func83 (by kernel_rfl) (by kernel_rfl) rfl ?_
 repeat' (first | refine wk3 ?_ | (refine wk2 ?_ ?_ <;> intro _) | refine wk4 ?_ | fail); all_goals (conv => whnf)
 exact Zb rfl
theorem d81 (n : Int) : PCall Tryz.prog 81 [I n] ⟨I (unl (within n 0 4) 2), []⟩ := by
 refine bs.pv (sx := nos) (Ze (d210 n 0 4) (Ze (d209 (within n 0 4) 2) Zc)) Tryz.func81 (by kernel_rfl) (by kernel_rfl) rfl ?_
 repeat' (first | refine wk3 ?_ | (refine wk2 ?_ ?_ <;> intro _) | refine wk4 ?_ | fail); all_goals (conv => whnf)
 exact Za rfl
theorem d68 (n : Int) : PCall Tryz.prog 68 [I n] ⟨I (unl (within n 0 4) 2), []⟩ := by
 refine bs.pv (sx := nos) (Ze (c30 n 0 4) Zc) Tryz.func68 (by kernel_rfl) (by kernel_rfl) rfl ?_
 repeat' (first | refine wk3 ?_ | (refine wk2 ?_ ?_ <;> intro _) | refine wk4 ?_ | fail); all_goals (conv => whnf)
 all_goals exact Za (by simp_all [unl])
theorem Zqn (n : Int) : small n 5000 = within n (-5000) 5000 := rfl
theorem Yd8 {x y z : Int} (c : plcB x y z = true) : Xn ⟨x, y, z, 1⟩ = 0 := by
 simp only [plcB, Bool.and_eq_true, within_iff] at c
 have hg : g4 ⟨x, y, z, 1⟩ = 1 := by
  simp [g4]
 unfold Xn
 rw [if_neg (by simp [hg]), if_neg (by simp), if_pos]
 unfold ptIn
 simp only [Bool.and_eq_true, within_iff]
 simp
 omega
def r86 : List AV -> Option PRes
 | [.int .i64 n, .int .i64 m] => some ⟨Bo (small n m), []⟩
 | _ => none
theorem Ydz {pt : PC} (h : PCOK Tryz.prog pt) : PCOK Tryz.prog (ins 86 r86 pt) := Zi (fun a res h => by unfold r86 at h; split at h <;> cases h; exact d86 _ _) h
def r83 : List AV -> Option PRes
 | [.int .i64 n] => some ⟨Bo (within n (-5000) 5000), []⟩
 | _ => none
theorem Yd0 {pt : PC} (h : PCOK Tryz.prog pt) : PCOK Tryz.prog (ins 83 r83 pt) := Zi (fun a res h => by unfold r83 at h; split at h <;> cases h; exact d83 _) h
set_option maxHeartbeats 8000000 in
theorem d79 {h : Hal} (hk : h.ok) (he : h.err = 0) (x y z : Int) : PCall Tryz.prog 79 [h.av, P3 x y z] ⟨I (plaE h x y z), []⟩ := by
 have hk0 := Ydz (Ze (d123 x y z) Zc)
 by_cases c : plcB x y z = true
 ·have hp := Yd8 c
  have hi : insE h ⟨x, y, z, 1⟩ = 0 := by unfold insE; rw [if_pos he, hp]
  have hw : Pt.wf ⟨x, y, z, 1⟩ := by
   simp only [plcB, Bool.and_eq_true, within_iff] at c
   refine ⟨⟨?_, ?_⟩, ⟨?_, ?_⟩, ⟨?_, ?_⟩, ⟨?_, ?_⟩⟩ <;> dsimp only <;> omega
  have h50 := c50 hk hw
  rw [hi] at h50
  unfold plaE
  rw [if_pos c]
  generalize Uz h ⟨x, y, z, 1⟩ = b at *
  have hk1 := Ze h50 (Ze (d209 b 24) hk0)
  simp only [plcB, Bool.and_eq_true, <-Zqn] at c
  refine bs.pv (sx := nos) hk1 Tryz.func79 (by kernel_rfl) (by kernel_rfl) rfl ?_
  repeat' (first | refine wk3 ?_ | (refine wk2 ?_ ?_ <;> intro _) | refine wk4 ?_ | fail); all_goals (conv => whnf)
  all_goals first
   | exact Za rfl
   | (exfalso; clear hk1 h50 hk0 hp hi; simp_all; done)
 ·unfold plaE
  rw [if_neg c]
  simp only [plcB, <-Zqn] at c
  refine bs.pv (sx := nos) hk0 Tryz.func79 (by kernel_rfl) (by kernel_rfl) rfl ?_
  repeat' (first | refine wk3 ?_ | (refine wk2 ?_ ?_ <;> intro _) | refine wk4 ?_ | fail); all_goals (conv => whnf)
  all_goals first
   | exact Za rfl
   | (exfalso; clear hk0; simp_all; done)
set_option maxHeartbeats 8000000 in
theorem d27 {h : Hal} (hk : h.ok) (he : h.err = 0) (x y z : Int) : PCall Tryz.prog 27 [h.av, P3 x y z] ⟨I (plaE h x y z), []⟩ := by
 have hf := Zi9 hk he
 have hk0 := Ze (c52 hk.f hf.le.2.2.1 (Yea hf.st) ⟨x, y, z, 1⟩) (Yd0 (Ze (c36 x y z) Zc))
 unfold plaE plcB
 generalize Uz h ⟨x, y, z, 1⟩ = b at *
 refine bs.pv (sx := nos) hk0 Tryz.func27 (by kernel_rfl) (by kernel_rfl) rfl ?_
 repeat' (first | refine wk3 ?_ | (refine wk2 ?_ ?_ <;> intro _) | refine wk4 ?_ | fail); all_goals (conv => whnf)
 all_goals clear hk0
 all_goals exact Za (by simp_all [unl])
abbrev pl3 (p : Pl3) : List AV := [I p.1, I p.2.1, I p.2.2]
def im1 (h : Hal) (s : Stg) (n : Int) (p : Pl3) : Pl3 := rmir (Zl h s n).1 (Zl h s n).2 p.1 p.2.1 p.2.2
def imA (f : Int -> Pl3 -> Pl3) (p : Pl3) (l : List Int) (k : Nat) : Pl3 := (l.take k).foldl (fun q n => f n q) p
theorem Zrc (f : Int -> Pl3 -> Pl3) (p : Pl3) {l : List Int} {k : Nat} (hk : k < l.length) : imA f p l (k + 1) = f l[k] (imA f p l k) := by
 unfold imA
 rw [List.take_succ_eq_append_getElem hk, List.foldl_append]
 rfl
def imC (f : Int -> Pl3 -> Pl3) (p : Pl3) (l : List Int) (k : Nat) : List (List AV) := (List.range (k + 1)).map fun j => pl3 (imA f p l j)
theorem Zi3 (f : Int -> Pl3 -> Pl3) (p : Pl3) (l : List Int) (k : Nat) : (imC f p l k).length = k + 1 := by simp [imC]
theorem Zlx (f : Int -> Pl3 -> Pl3) (p : Pl3) (l : List Int) (k : Nat) : (imC f p l k)[k]? = some (pl3 (imA f p l k)) := by simp [imC]
theorem Zyw (f : Int -> Pl3 -> Pl3) (p : Pl3) (l : List Int) (k : Nat) : imC f p l (k + 1) = imC f p l k ++ [pl3 (imA f p l (k + 1))] := by
 unfold imC
 rw [List.range_succ, List.map_append]
 rfl
theorem Zye {h : Hal} {s : Stg} (g : Sit h s) {i : Int} (hi : SK h i) : (Zl h s i).1 <= 2 -> (-5000 <= (Zl h s i).2 /\ (Zl h s i).2 <= 5000) := by
 have ht := g.fine.ht
 cases hi with
 | wall k hk =>
  have hk2 : k < h.cs.length := by have := g.fine.le; omega
  obtain ⟨n, sx, sy, hs⟩ := g.fine.st k hk2
  rw [Zas hk, Zlp hs]
  have := hs.b1
  have := hs.b2
  repeat' split
  all_goals (dsimp only; omega)
 | floor => rw [Zbc]; dsimp only; omega
 | ceil => rw [Zca]; dsimp only; omega
 | can j hj =>
  rw [Zdv]
  have := Zvr g hj
  dsimp only; omega
def Near (m : Int) (p : Pl3) : Prop := (-m <= p.1 /\ p.1 <= m) /\ (-m <= p.2.1 /\ p.2.1 <= m) /\ (-m <= p.2.2 /\ p.2.2 <= m)
theorem Zrd {h : Hal} {s : Stg} (g : Sit h s) {i : Int} (hi : SK h i) {m : Int} (hm : m <= 35000) {p : Pl3} (hp : Near m p) : Near (m + 10000) (im1 h s i p) /\ Vl (Zl h s i).1 (Zl h s i).2 p.1 p.2.1 p.2.2 = 0 /\ mirP (Zl h s i).1 (Zl h s i).2 p.1 p.2.1 p.2.2 = im1 h s i p := by
 have b := Zlo g hi
 have b2 := Zye g hi
 obtain ⟨x, y, z⟩ := p
 obtain ⟨hx, hy, hz⟩ := hp
 dsimp only at hx hy hz
 unfold im1
 generalize (Zl h s i).1 = k at *
 generalize (Zl h s i).2 = a at *
 have key : Near (m + 10000) (rmir k a x y z) := by
  unfold rmir Near
  have w2 : IntKind.i64.wrap (2 * a) = 2 * a := W_eq (by omega) (by omega)
  by_cases k0 : k = 0
  ·subst k0; have := b2 (by omega); simp only [if_pos]; rw [w2, W_eq (by omega) (by omega)]; omega
  by_cases k1 : k = 1
  ·subst k1; have := b2 (by omega); simp; rw [w2, W_eq (by omega) (by omega)]; omega
  by_cases k2 : k = 2
  ·subst k2; have := b2 (by omega); simp; rw [w2, W_eq (by omega) (by omega)]; omega
  by_cases k3 : k = 3
  ·subst k3; simp; rw [W_eq (by omega) (by omega), W_eq (by omega) (by omega)]; omega
  have k4 : k = 4 := by omega
  subst k4; simp; rw [W_eq (by omega) (by omega), W_eq (by omega) (by omega)]; omega
 have e := Zsi b.1 b.2 (x := x) (y := y) (z := z) (by omega) (by omega) (by omega) (u := (rmir k a x y z).1) (v := (rmir k a x y z).2.1) (w := (rmir k a x y z).2.2) rfl
  (by have := key.1; omega) (by have := key.2.1; omega) (by have := key.2.2; omega)
 refine ⟨key, by rw [Znd]; exact e, ?_⟩
 rw [Yb7]
 unfold Ybs
 rw [if_pos e]
theorem Zly {h : Hal} {s : Stg} (g : Sit h s) {p : Pl3} (hp : Near 5000 p) {l : List Int} (hl : l.length <= 4) (hi : ∀ n ∈ l, SK h n) : ∀ k, k <= l.length -> Near (5000 + 10000 * k) (imA (im1 h s) p l k)
 | 0, _ => by simpa [imA] using hp
 | k + 1, hk => by
  rw [Zrc _ _ (by omega)]
  have := (Zrd g (hi l[k] (List.getElem_mem _)) (m := 5000 + 10000 * k) (by omega) (Zly g hp hl hi k (by omega))).1
  rw [show (5000 : Int) + 10000 * ((k + 1 : Nat) : Int) = 5000 + 10000 * k + 10000 by omega]
  exact this
theorem Yd2 {pt : PC} (h : PCOK Tryz.prog pt) : PCOK Tryz.prog (ins 137 r32 pt) := Zi (fun a res h => by unfold r32 at h; split at h <;> cases h; exact c32 _ _ _ _ _) h
noncomputable abbrev plT (h : Hal) (s : Stg) : List AV -> Option PRes := famA (fun i : Int => 0 <= i /\ i < nsur h) (fun i => [h.av, s.av, I i]) (fun i => ⟨.tup [P2 (Zl h s i).1 (Zl h s i).2, I 0], []⟩)
theorem Yd6 {h : Hal} (hk : h.ok) {s : Stg} (hs : s.few) (h0 : serr h s = 0) {pt : PC} (hp : PCOK Tryz.prog pt) : PCOK Tryz.prog (ins 136 (plT h s) pt) :=
 Ym (fun i hi => by
  have e : surE h s i = 0 := by
   unfold surE
   rw [if_pos h0, if_pos (within_iff.2 (by omega))]
  have e2 : Zhb h s i = Zl h s i := by unfold Zhb; rw [if_pos e]
  have := c54 hk hs i
  rw [e, e2] at this
  exact this) hp
theorem Ybz {h : Hal} {s : Stg} {i : Int} (hi : 0 <= i /\ i < nsur h) : plT h s [h.av, s.av, I i] = some ⟨.tup [P2 (Zl h s i).1 (Zl h s i).2, I 0], []⟩ :=
 Zv (p := fun i : Int => 0 <= i /\ i < nsur h) (g := fun i => [h.av, s.av, I i]) (r := fun i => ⟨.tup [P2 (Zl h s i).1 (Zl h s i).2, I 0], []⟩) (fun j hj => by
  simp only [List.cons.injEq, AV.int.injEq, true_and, and_true] at hj
  rw [hj]) hi
set_option maxRecDepth 100000 in
set_option maxHeartbeats 8000000 in
theorem d82 {h : Hal} (hk : h.ok) {s : Stg} (hs : s.few) (h0 : serr h s = 0) {p : Pl3} (hp : Near 5000 p) {l : List Int} (hl : l.length <= 4) (hi : ∀ n ∈ l, 0 <= n /\ n < nsur h) :
  PCall Tryz.prog 82 [.agg (stgL h s), P3 p.1 p.2.1 p.2.2, .isl 1 (nl l)] ⟨.asl 0 0 (l.length + 1), [(3, imC (im1 h s) p l l.length)]⟩ := by
 have g := Zmn hk hs h0
 have hkk := Yd6 hk hs h0 (Yd2 Zc)
 have ll := Zk l
 refine bs.pv (sx := nos) hkk Tryz.func82 (by kernel_rfl) (by kernel_rfl) rfl ?_
 refine Ya (S := Nat × Int × Nat × List (List AV)) (fun t => l.length - t.1) (fun t => [(3, .ptr 0 0 0), (7, .asl (nm2 2 3 t.1) 0 t.2.2.1), (16, .isl 1 (nl l)), (17, I (nl l).length), (18, I t.2.1)]) (fun t => [(nm2 2 3 t.1, .row 3 t.2.2.2 true true), (0, .row 11 [stgL h s] true false)]) 3 4
  (fun t => t.2.1 = t.1 /\ t.1 <= l.length /\ t.2.2.1 = t.2.2.2.length /\ t.2.2.2 = imC (im1 h s) p l t.1) (0, 0, 1, [pl3 p]) ⟨rfl, Nat.zero_le _, rfl, rfl⟩ (Nat.le_refl _) [] rfl (kps) (kps) ?_
 rintro ⟨k, i, len, els⟩ ⟨hi', hk', hlen, hels⟩
 dsimp only at hi' hk' hlen hels ⊢
 subst hi'
 refine bs.av (sx := nos) hkk ?_
 have e1 : els.length = k + 1 := by rw [hels, Zi3]
 have e2 : els[0 + (IntKind.i64.wrap ((len : Int) - 1)).toNat]? = some (pl3 (imA (im1 h s) p l k)) := by
  rw [Nat.zero_add, hlen, e1, W_eq (by omega) (by omega), show (((k + 1 : Nat) : Int) - 1).toNat = k by omega, hels, Zlx]
 have e8 : IntKind.i64.wrap ((len : Int) - 1) = k := by rw [hlen, e1, W_eq (by omega) (by omega)]; omega
 have hnr := Zly g hp hl (fun n hn => Zse (hi n hn).1 (hi n hn).2) k hk'
 by_cases hlt : k < l.length
 ·have e3 : (nl l)[((k : Nat) : Int).toNat]? = some [I l[k]] := by simp [nl, hlt]
  have hin := hi l[k] (List.getElem_mem _)
  have e4 := Ybz (s := s) hin
  have e5 := Zrd g (Zse hin.1 hin.2) (by omega) hnr
  have e6 := Zrc (im1 h s) p hlt
  have e7 := Zyw (im1 h s) p l k
  rw [<-hels, e6] at e7
  rw [<-e5.2.2] at e7
  clear e6 hels
  generalize imA (im1 h s) p l k = q at *
  generalize l[k] = n at *
  cases k with
  | zero =>
   repeat' (first | refine wk3 ?_ | (refine wk2 ?_ ?_ <;> intro _) | refine wk4 ?_ | fail); all_goals (conv => whnf)
   exact Done.mk ⟨(1, _, _, _), [(3, 20)], rfl, kps, kps, ⟨Zg (k := 0) (by omega), hlt, by exact List.length_append.symm, e7.symm⟩, by dsimp only; omega⟩
  | succ k =>
   repeat' (first | refine wk3 ?_ | (refine wk2 ?_ ?_ <;> intro _) | refine wk4 ?_ | fail); all_goals (conv => whnf)
   exact Done.mk ⟨(k + 1 + 1, _, _, _), [(3, 20)], rfl, kps, kps, ⟨Zg (k := k + 1) (by omega), hlt, by exact List.length_append.symm, e7.symm⟩, by dsimp only; omega⟩
 ·have ek : k = l.length := by omega
  subst ek
  rw [hels]
  rw [hels, Zi3] at hlen
  subst hlen
  cases l with
  | nil =>
   repeat' (first | refine wk3 ?_ | (refine wk2 ?_ ?_ <;> intro _) | refine wk4 ?_ | fail); all_goals (conv => whnf)
   exact Xf [2] rfl rfl rfl
  | cons a l =>
   repeat' (first | refine wk3 ?_ | (refine wk2 ?_ ?_ <;> intro _) | refine wk4 ?_ | fail); all_goals (conv => whnf)
   exact Xf [3] rfl rfl rfl
structure Ask where
 fx : Int
 fy : Int
 fz : Int
 tx : Int
 ty : Int
 tz : Int
 n : Int
abbrev Ask.av (a : Ask) : AV := .agg [I a.fx, I a.fy, I a.fz, I a.tx, I a.ty, I a.tz, I a.n]
def Ask.same (a : Ask) : Bool := decide (a.fx = a.tx) && (decide (a.fy = a.ty) && decide (a.fz = a.tz))
def askE (h : Hal) (s : Stg) (a : Ask) : Int := if serr h s = 0 then fstL [plaE h a.fx a.fy a.fz, plaE h a.tx a.ty a.tz, unl (!a.same) 11, unl (within a.n 0 4) 2] else serr h s
theorem Zbm {h : Hal} {s : Stg} (e : serr h s = 0) : h.err = 0 := by
 unfold serr at e
 split at e
 ·assumption
 ·rename_i q; exact absurd e q
def r80 : List AV -> Option PRes
 | [.bool b, .int .i64 e] => some ⟨I (unl b e), []⟩
 | _ => none
theorem Zm1 {pt : PC} (h : PCOK Tryz.prog pt) : PCOK Tryz.prog (ins 80 r80 pt) := Zi (fun a res h => by unfold r80 at h; split at h <;> cases h; exact d209 _ _) h
noncomputable abbrev r79 (h : Hal) : List AV -> Option PRes := famA (fun _ : Pl3 => True) (fun p => [h.av, P3 p.1 p.2.1 p.2.2]) (fun p => ⟨I (plaE h p.1 p.2.1 p.2.2), []⟩)
theorem Yd1 {h : Hal} (hk : h.ok) (he : h.err = 0) {pt : PC} (hp : PCOK Tryz.prog pt) : PCOK Tryz.prog (ins 79 (r79 h) pt) := Ym (fun p _ => d79 hk he p.1 p.2.1 p.2.2) hp
theorem Zln (h : Hal) (x y z : Int) : r79 h [h.av, P3 x y z] = some ⟨I (plaE h x y z), []⟩ :=
 Zv (p := fun _ : Pl3 => True) (g := fun p => [h.av, P3 p.1 p.2.1 p.2.2]) (r := fun p => ⟨I (plaE h p.1 p.2.1 p.2.2), []⟩) (k := (x, y, z)) (fun j hj => by
  simp only [List.cons.injEq, AV.agg.injEq, AV.int.injEq, true_and, and_true] at hj
  obtain ⟨h1, h2, h3⟩ := hj
  rw [h1, h2, h3]) trivial
theorem Yd3 {h : Hal} (hk : h.ok) (he : h.err = 0) {pt : PC} (hp : PCOK Tryz.prog pt) : PCOK Tryz.prog (ins 27 (r79 h) pt) := Ym (fun p _ => d27 hk he p.1 p.2.1 p.2.2) hp
noncomputable abbrev rFst : List AV -> Option PRes := famA (fun l : List Int => l.length < 1000) (fun l => [.isl 1 (nl l)]) (fun l => ⟨I (fstL l), []⟩)
theorem Zil {pt : PC} (hp : PCOK Tryz.prog pt) : PCOK Tryz.prog (ins 78 rFst pt) := Ym (fun l hl => d78 hl) hp
theorem Zqv {l : List Int} (h : l.length < 1000) : rFst [.isl 1 (nl l)] = some ⟨I (fstL l), []⟩ :=
 Zv (p := fun l : List Int => l.length < 1000) (g := fun l => [.isl 1 (nl l)]) (r := fun l => ⟨I (fstL l), []⟩) (fun j hj => by
  simp only [List.cons.injEq, AV.isl.injEq, true_and, and_true] at hj
  rw [Zfp hj]) h
set_option maxRecDepth 100000 in
set_option maxHeartbeats 8000000 in
theorem d24 {h : Hal} (hk : h.ok) {s : Stg} (hs : s.few) (a : Ask) : PCall Tryz.prog 24 [h.av, s.av, a.av] ⟨I (askE h s a), []⟩ := by
 have hk0 := Ze (c47 hk hs) Zc
 by_cases e : serr h s = 0
 ·have he := Zbm e
  obtain ⟨fx, fy, fz, tx, ty, tz, n⟩ := a
  unfold askE
  rw [if_pos e]
  rw [e] at hk0
  dsimp only
  have hk1 := Yd1 hk he (Zm1 (Ze (d81 n) (Zil hk0)))
  have q1 := Zln h fx fy fz
  have q2 := Zln h tx ty tz
  refine bs.pv (sx := nos) hk1 Tryz.func24 (by kernel_rfl) (by kernel_rfl) rfl ?_
  repeat' (first | refine wk3 ?_ | (refine wk2 ?_ ?_ <;> intro _) | refine wk4 ?_ | fail); all_goals (conv => whnf)
  refine wxG (Zqv (l := [_, _, _, _]) (by simp)) ?_
  conv => whnf
  repeat' (first | refine wk3 ?_ | (refine wk2 ?_ ?_ <;> intro _) | refine wk4 ?_ | fail); all_goals (conv => whnf)
  exact Za (by simp [Ask.same])
 ·rw [show askE h s a = serr h s by unfold askE; rw [if_neg e]]
  refine bs.pv (sx := nos) hk0 Tryz.func24 (by kernel_rfl) (by kernel_rfl) rfl ?_
  repeat' (first | refine wk3 ?_ | (refine wk2 ?_ ?_ <;> intro _) | refine wk4 ?_ | fail); all_goals (conv => whnf)
  all_goals first
   | exact Za rfl
   | (exfalso; simp_all; done)
theorem d82f {h : Hal} (hk : h.ok) {s : Stg} (hs : s.few) (h0 : serr h s = 0) {p : Pl3} (hp : Near 5000 p) {l : List Int} (hl : l.length <= 4) (hi : ∀ n ∈ l, 0 <= n /\ n < nsur h) :
  PCall Tryz.prog 82 [.agg (stgL h s), P3 p.1 p.2.1 p.2.2, .isl 1 (nl l)] ⟨.isl 3 (imC (im1 h s) p l l.length), []⟩ := by
 have := d82 hk hs h0 hp hl hi
 rw [show l.length + 1 = (imC (im1 h s) p l l.length).length by rw [Zi3]] at this
 exact this.freeze ⟨rfl, rfl, rfl⟩
theorem Zlg {h : Hal} {l : List Int} (e : suE h l = 0) : l.length <= 4 /\ ∀ n ∈ l, 0 <= n /\ n < nsur h := by
 unfold suE at e
 split at e
 ·cases e
 ·exact ⟨by omega, fun n hn => by have := Zzw e n hn; omega⟩
theorem Zfm {h : Hal} {x y z : Int} (e : plaE h x y z = 0) : Near 5000 (x, y, z) /\ Uz h ⟨x, y, z, 1⟩ = true := by
 unfold plaE at e
 split at e
 ·rename_i c
  simp only [plcB, Bool.and_eq_true, within_iff] at c
  refine ⟨⟨by dsimp only; omega, by dsimp only; omega, by dsimp only; omega⟩, ?_⟩
  unfold unl at e
  cases hb : Uz h ⟨x, y, z, 1⟩ with
  | true => rfl
  | false => rw [hb] at e; cases e
 ·cases e
def edgP (r : Rc) : List Wl := [⟨0, r.xl, r.yl, r.xh, r.yl⟩, ⟨0, r.xh, r.yl, r.xh, r.yh⟩, ⟨0, r.xh, r.yh, r.xl, r.yh⟩, ⟨0, r.xl, r.yh, r.xl, r.yl⟩]
def midX (p q : Pt) : Int := IntKind.i64.wrap (IntKind.i64.wrap (p.x * q.d) + IntKind.i64.wrap (q.x * p.d))
def midY (p q : Pt) : Int := IntKind.i64.wrap (IntKind.i64.wrap (p.y * q.d) + IntKind.i64.wrap (q.y * p.d))
def midD (p q : Pt) : Int := IntKind.i64.wrap (IntKind.i64.wrap (2 * p.d) * q.d)
def Zzb (r : Rc) (p q : Pt) : Bool := r.has (midX p q) (midY p q) (midD p q) || (edgP r).any (touP p q) || (r.holds p.x p.y p.d || r.holds q.x q.y q.d)
def zOff (ht : Int) (p : Pt) : Int := IntKind.i64.wrap (p.z - IntKind.i64.wrap (ht * p.d))
def atX (a b : Int) (u v : Int) : Int := IntKind.i64.wrap (IntKind.i64.wrap (a * u) + IntKind.i64.wrap (b * v))
def blkP (r : Rc) (ht : Int) (p q : Pt) : Bool :=
 if p.z = IntKind.i64.wrap (ht * p.d) /\ q.z = IntKind.i64.wrap (ht * q.d) then Zzb r p q
 else if 0 <= IntKind.i64.wrap (sgn (zOff ht p) * sgn (zOff ht q)) then false
 else r.has (atX p.x q.x (size (zOff ht q)) (size (zOff ht p))) (atX p.y q.y (size (zOff ht q)) (size (zOff ht p))) (atX p.d q.d (size (zOff ht q)) (size (zOff ht p)))
abbrev U (n : Int) : AV := .int .u64 n
abbrev wayA (p q : Pt) : AV := .agg [I p.x, I p.y, I p.z, I p.d, I q.x, I q.y, I q.z, I q.d]
theorem c204 (p q : Pt) : PCall Tryz.prog 287 [wayA p q] ⟨.tup [I (Ztq p q), I (Ztp p q)], []⟩ := by
 refine bs.pv (sx := nos) Zc Tryz.func287 (by kernel_rfl) (by kernel_rfl) rfl ?_
 repeat' (first | refine wk0 ?_ | (refine wk2 ?_ ?_ <;> intro _) | refine wk4 ?_ | fail); all_goals (conv => whnf)
 exact Zf rfl rfl
theorem c207 (fr den to oth a b : Int) : PCall Tryz.prog 288 [I fr, I den, I to, I oth, I a, I b] ⟨Bo (ovl fr den to oth a b), []⟩ := by
 refine bs.pv (sx := nos) Zc Tryz.func288 (by kernel_rfl) (by kernel_rfl) rfl ?_
 repeat' (first | refine wk0 ?_ | (refine wk2 ?_ ?_ <;> intro _) | refine wk4 ?_ | fail); all_goals (conv => whnf)
 all_goals (refine Zb ?_; simp_all [ovl] <;> (intro _; omega))
theorem c182 (p q : Pt) : PCall Tryz.prog 263 [wayA p q] ⟨.tup [I (midX p q), I (midY p q), I (midD p q)], []⟩ := by
 refine bs.pv (sx := nos) Zc Tryz.func263 (by kernel_rfl) (by kernel_rfl) rfl ?_
 repeat' (first | refine wk0 ?_ | (refine wk2 ?_ ?_ <;> intro _) | refine wk4 ?_ | fail); all_goals (conv => whnf)
 exact Zf rfl rfl
def u64 (n : Int) : Prop := 0 <= n /\ n < 18446744073709551616
theorem mkN (a : Nat) (ha : a < 18446744073709551616) : IntKind.u64.wrap (((BitVec.ofInt IntKind.u64.bits (a : Int) &&& BitVec.ofInt IntKind.u64.bits 4294967295).toNat : Nat) : Int) = ((a % 4294967296 : Nat) : Int) := by
 have h := bits_and_u64_nat a 4294967295 ha (by omega)
 have e : a &&& 4294967295 = a % 4294967296 := Nat.and_two_pow_sub_one_eq_mod a 32
 rw [e] at h
 exact h
theorem fdN (a : Nat) : (a : Int).fdiv (2 ^ min (Int.toNat 32) IntKind.u64.bits) = ((a / 4294967296 : Nat) : Int) := by
 rw [show (2 ^ min (Int.toNat 32) IntKind.u64.bits : Int) = 4294967296 from rfl, Int.fdiv_eq_ediv_of_nonneg _ (by omega)]; omega
theorem mulN (a b : Nat) : (a : Int) * (b : Int) = ((a * b : Nat) : Int) := (Int.natCast_mul a b).symm
theorem addN (a b : Nat) : (a : Int) + (b : Int) = ((a + b : Nat) : Int) := (Int.natCast_add a b).symm
theorem Zmc (a : Nat) (ha : a < 18446744073709551616) : IntKind.u64.wrap (a : Int) = (a : Int) := by rw [IntKind.wrap_u64]; omega
theorem Yfl (a : Nat) : IntKind.u64.wrap (a : Int) = ((a % 18446744073709551616 : Nat) : Int) := by rw [IntKind.wrap_u64]; omega
set_option maxRecDepth 100000 in
set_option maxHeartbeats 8000000 in
theorem Zyj (x y : Nat) (hx : x < 18446744073709551616) (hy : y < 18446744073709551616) : AV.tup [AV.int IntKind.u64 (IntKind.u64.wrap (IntKind.u64.wrap (IntKind.u64.wrap (((x : Int)).fdiv (2 ^ min (Int.toNat 32) IntKind.u64.bits) * ((y : Int)).fdiv (2 ^ min (Int.toNat 32) IntKind.u64.bits)) + ((IntKind.u64.wrap (IntKind.u64.wrap (((x : Int)).fdiv (2 ^ min (Int.toNat 32) IntKind.u64.bits) * IntKind.u64.wrap ((BitVec.ofInt IntKind.u64.bits ((y : Int)) &&& BitVec.ofInt IntKind.u64.bits 4294967295).toNat : Int)) + ((IntKind.u64.wrap ((IntKind.u64.wrap ((BitVec.ofInt IntKind.u64.bits ((x : Int)) &&& BitVec.ofInt IntKind.u64.bits 4294967295).toNat : Int)) * (IntKind.u64.wrap ((BitVec.ofInt IntKind.u64.bits ((y : Int)) &&& BitVec.ofInt IntKind.u64.bits 4294967295).toNat : Int)))).fdiv (2 ^ min (Int.toNat 32) IntKind.u64.bits)))).fdiv (2 ^ min (Int.toNat 32) IntKind.u64.bits))) + ((IntKind.u64.wrap (IntKind.u64.wrap ((BitVec.ofInt IntKind.u64.bits (IntKind.u64.wrap (IntKind.u64.wrap (((x : Int)).fdiv (2 ^ min (Int.toNat 32) IntKind.u64.bits) * IntKind.u64.wrap ((BitVec.ofInt IntKind.u64.bits ((y : Int)) &&& BitVec.ofInt IntKind.u64.bits 4294967295).toNat : Int)) + ((IntKind.u64.wrap ((IntKind.u64.wrap ((BitVec.ofInt IntKind.u64.bits ((x : Int)) &&& BitVec.ofInt IntKind.u64.bits 4294967295).toNat : Int)) * (IntKind.u64.wrap ((BitVec.ofInt IntKind.u64.bits ((y : Int)) &&& BitVec.ofInt IntKind.u64.bits 4294967295).toNat : Int)))).fdiv (2 ^ min (Int.toNat 32) IntKind.u64.bits)))) &&& BitVec.ofInt IntKind.u64.bits 4294967295).toNat : Int) + IntKind.u64.wrap (IntKind.u64.wrap ((BitVec.ofInt IntKind.u64.bits ((x : Int)) &&& BitVec.ofInt IntKind.u64.bits 4294967295).toNat : Int) * ((y : Int)).fdiv (2 ^ min (Int.toNat 32) IntKind.u64.bits)))).fdiv (2 ^ min (Int.toNat 32) IntKind.u64.bits)))), AV.int IntKind.u64 (IntKind.u64.wrap ((x : Int) * (y : Int)))] = AV.tup [U ((x : Int) * (y : Int) / 18446744073709551616), U ((x : Int) * (y : Int) % 18446744073709551616)] := by
 obtain ⟨bd, bt, bw, hhi⟩ := Go.Lib.mul64_hi x y hx hy
 have ba := Go.Lib.half_mul_le (a := x / 4294967296) (b := y / 4294967296) (by omega) (by omega)
 have bb := Go.Lib.half_mul_le (a := x / 4294967296) (b := y % 4294967296) (by omega) (by omega)
 have bc := Go.Lib.half_mul_le (a := x % 4294967296) (b := y / 4294967296) (by omega) (by omega)
 have ba' : x / 4294967296 * (y / 4294967296) < 18446744073709551616 := by omega
 have bb' : x / 4294967296 * (y % 4294967296) < 18446744073709551616 := by omega
 have bc' : x % 4294967296 * (y / 4294967296) < 18446744073709551616 := by omega
 have bh1 : x / 4294967296 * (y / 4294967296) + (x / 4294967296 * (y % 4294967296) + x % 4294967296 * (y % 4294967296) / 4294967296) / 4294967296 < 18446744073709551616 := by omega
 have bh : x / 4294967296 * (y / 4294967296) + (x / 4294967296 * (y % 4294967296) + x % 4294967296 * (y % 4294967296) / 4294967296) / 4294967296 + ((x / 4294967296 * (y % 4294967296) + x % 4294967296 * (y % 4294967296) / 4294967296) % 4294967296 + x % 4294967296 * (y / 4294967296)) / 4294967296 < 18446744073709551616 := by omega
 simp only [mkN x hx, mkN y hy, fdN, mulN, addN, Zmc _ bd, Zmc _ bb', Zmc _ bt, mkN _ bt, Zmc _ bc', Zmc _ bw, Zmc _ ba', Zmc _ bh1, Zmc _ bh, Yfl (x * y)]
 rw [hhi]
 rfl
set_option maxRecDepth 100000 in
set_option maxHeartbeats 8000000 in
theorem c216 {x y : Int} (hx : u64 x) (hy : u64 y) : PCall Tryz.prog 305 [U x, U y] ⟨.tup [U (x * y / 18446744073709551616), U (x * y % 18446744073709551616)], []⟩ := by
 refine bs.pv (sx := nos) Zc Tryz.func305 (by kernel_rfl) (by kernel_rfl) rfl ?_
 repeat' (first | refine wk1 ?_ | (refine wk2 ?_ ?_ <;> intro _) | refine wk4 ?_ | fail); all_goals (conv => whnf)
 refine Zf ?_ rfl
 obtain ⟨h0, hx⟩ := hx
 obtain ⟨h1, hy⟩ := hy
 obtain ⟨a, rfl⟩ := Int.eq_ofNat_of_zero_le h0
 obtain ⟨b, rfl⟩ := Int.eq_ofNat_of_zero_le h1
 exact Zyj a b (by omega) (by omega)
theorem Zlt {a b : Int} : sgn (a * b) = sgn a * sgn b := by
 unfold sgn
 rcases Int.lt_trichotomy a 0 with ha | ha | ha <;> rcases Int.lt_trichotomy b 0 with hb | hb | hb
 ·have := Int.mul_pos_of_neg_of_neg ha hb
  rw [if_pos this, if_neg (by omega), if_pos ha, if_neg (by omega), if_pos hb]; rfl
 ·subst hb; simp
 ·have := Int.mul_neg_of_neg_of_pos ha hb
  rw [if_neg (by omega), if_pos this, if_neg (by omega), if_pos ha, if_pos hb]; rfl
 ·subst ha; simp
 ·subst ha; simp
 ·subst ha; simp
 ·have := Int.mul_neg_of_pos_of_neg ha hb
  rw [if_neg (by omega), if_pos this, if_pos ha, if_neg (by omega), if_pos hb]; rfl
 ·subst hb; simp
 ·have := Int.mul_pos ha hb
  rw [if_pos this, if_pos ha, if_pos hb]; rfl
theorem Zhq {a : Int} (h : i64 a) : IntKind.u64.wrap (size a) = (a.natAbs : Int) /\ u64 (a.natAbs : Int) := by
 have hs := Yab h
 obtain ⟨h1, h2⟩ := h
 rw [hs]
 refine ⟨?_, ?_⟩
 ·simp only [IntKind.wrap_i64, IntKind.wrap_u64]; omega
 ·unfold u64; omega
theorem Zxf (a b : Int) : ((a.natAbs : Int) * (b.natAbs : Int)) = (a * b) \/ ((a.natAbs : Int) * (b.natAbs : Int)) = -(a * b) := by
 have := Int.natAbs_mul a b
 omega
theorem Zww {a b c d X Y : Int} (hX : (a.natAbs : Int) * (b.natAbs : Int) = X) (hY : (c.natAbs : Int) * (d.natAbs : Int) = Y) (h : sgn a * sgn b = sgn c * sgn d) :
  (X = Y -> cmpP a b c d = 0) /\ (Y < X -> cmpP a b c d = sgn a * sgn b) /\ (X < Y -> cmpP a b c d = -(sgn a * sgn b)) := by
 have h1 := Zxf a b
 have h2 := Zxf c d
 have p1 : 0 <= X := by rw [<-hX]; exact Int.mul_nonneg (by omega) (by omega)
 have p2 : 0 <= Y := by rw [<-hY]; exact Int.mul_nonneg (by omega) (by omega)
 have s1 := Zlt (a := a) (b := b)
 have s2 := Zlt (a := c) (b := d)
 unfold cmpP
 rw [hX] at h1
 rw [hY] at h2
 rw [<-s1]
 rw [<-s1, <-s2] at h
 clear s1 s2 hX hY
 generalize a * b = u at *
 generalize c * d = v at *
 unfold sgn at *
 refine ⟨fun e => ?_, fun e => ?_, fun e => ?_⟩
 ·repeat' split at h
  all_goals repeat' split
  all_goals omega
 ·repeat' split at h
  all_goals repeat' split
  all_goals omega
 ·repeat' split at h
  all_goals repeat' split
  all_goals omega
theorem Zzh {a b c d : Int} (h : sgn a * sgn b ≠ sgn c * sgn d) : cmpP a b c d = sgn (sgn a * sgn b - sgn c * sgn d) := by
 rw [<-Zlt, <-Zlt] at h ⊢
 unfold cmpP
 generalize a * b = u at *
 generalize c * d = v at *
 unfold sgn at *
 repeat' split at h
 all_goals repeat' split
 all_goals omega
instance (n : Int) : Decidable (u64 n) := by unfold u64; exact inferInstance
def r216 : List AV -> Option PRes
 | [.int .u64 x, .int .u64 y] => asr (decide (u64 x /\ u64 y)) ⟨.tup [U (x * y / 18446744073709551616), U (x * y % 18446744073709551616)], []⟩
 | _ => none
def kF1 : PC := ins 305 r216 (ins 168 r115 (ins 169 r116 pt0))
theorem Yar : PCOK Tryz.prog kF1 := by
 refine Zi (fun a res h => ?_) (Zi (fun a res h => ?_) (Zi (fun a res h => ?_) Zc))
 ·unfold r216 at h; split at h
  ·obtain ⟨h1, rfl⟩ := Ul h
   have := of_decide_eq_true h1
   exact c216 this.1 this.2
  ·cases h
 ·unfold r115 at h; split at h <;> cases h; exact c115 _
 ·unfold r116 at h; split at h <;> cases h; exact c116 _
set_option maxRecDepth 100000 in
set_option maxHeartbeats 8000000 in
theorem c215 {a b c d : Int} (ha : i64 a) (hb : i64 b) (hc : i64 c) (hd : i64 d) : PCall Tryz.prog 296 [I a, I b, I c, I d] ⟨I (cmpP a b c d), []⟩ := by
 obtain ⟨a1, a2⟩ := Zhq ha
 obtain ⟨b1, b2⟩ := Zhq hb
 obtain ⟨c1, c2⟩ := Zhq hc
 obtain ⟨d1, d2⟩ := Zhq hd
 by_cases h : sgn a * sgn b = sgn c * sgn d
 ·have hX : (a.natAbs : Int) * (b.natAbs : Int) = (a.natAbs : Int) * (b.natAbs : Int) := rfl
  have hY : (c.natAbs : Int) * (d.natAbs : Int) = (c.natAbs : Int) * (d.natAbs : Int) := rfl
  obtain ⟨k1, k2, k3⟩ := Zww hX hY h
  have t1 : asr (decide (u64 (IntKind.u64.wrap (size a)) /\ u64 (IntKind.u64.wrap (size b)))) ⟨.tup [U (IntKind.u64.wrap (size a) * IntKind.u64.wrap (size b) / 18446744073709551616), U (IntKind.u64.wrap (size a) * IntKind.u64.wrap (size b) % 18446744073709551616)], []⟩ = some ⟨.tup [U ((a.natAbs : Int) * (b.natAbs : Int) / 18446744073709551616), U ((a.natAbs : Int) * (b.natAbs : Int) % 18446744073709551616)], []⟩ := by
   rw [a1, b1, Zby ⟨a2, b2⟩]
  have t2 : asr (decide (u64 (IntKind.u64.wrap (size c)) /\ u64 (IntKind.u64.wrap (size d)))) ⟨.tup [U (IntKind.u64.wrap (size c) * IntKind.u64.wrap (size d) / 18446744073709551616), U (IntKind.u64.wrap (size c) * IntKind.u64.wrap (size d) % 18446744073709551616)], []⟩ = some ⟨.tup [U ((c.natAbs : Int) * (d.natAbs : Int) / 18446744073709551616), U ((c.natAbs : Int) * (d.natAbs : Int) % 18446744073709551616)], []⟩ := by
   rw [c1, d1, Zby ⟨c2, d2⟩]
  have w1 : IntKind.i64.wrap (sgn a * sgn b) = IntKind.i64.wrap (sgn c * sgn d) := by rw [h]
  have w2 := Zma a b
  have hr : -1 <= sgn a * sgn b /\ sgn a * sgn b <= 1 := by
   have := Uo (A := 1) (B := 1) (Zg7 a) (Zg7 b); omega
  have w3 : IntKind.i64.wrap (0 - IntKind.i64.wrap (sgn a * sgn b)) = -(sgn a * sgn b) := by rw [w2, W_eq (by omega) (by omega)]; omega
  generalize (a.natAbs : Int) * (b.natAbs : Int) = X at *
  generalize (c.natAbs : Int) * (d.natAbs : Int) = Y at *
  generalize cmpP a b c d = r at *
  refine bs.pv (sx := nos) Yar Tryz.func296 (by kernel_rfl) (by kernel_rfl) rfl ?_
  rcases Int.lt_trichotomy X Y with hxy | hxy | hxy
  ·rw [k3 hxy, <-w3]
   repeat' (first | refine wk1 ?_ | (refine wk2 ?_ ?_ <;> intro _) | refine wk4 ?_ | fail); all_goals (conv => whnf)
   all_goals first
    | exact Za rfl
    | (exfalso; simp_all; done)
    | (exfalso; simp_all; omega)
  ·rw [k1 hxy]
   subst hxy
   repeat' (first | refine wk1 ?_ | (refine wk2 ?_ ?_ <;> intro _) | refine wk4 ?_ | fail); all_goals (conv => whnf)
   all_goals first
    | exact Za rfl
    | (exfalso; simp_all; done)
    | (exfalso; simp_all; omega)
  ·rw [k2 hxy, <-w2]
   repeat' (first | refine wk1 ?_ | (refine wk2 ?_ ?_ <;> intro _) | refine wk4 ?_ | fail); all_goals (conv => whnf)
   all_goals first
    | exact Za rfl
    | (exfalso; simp_all; done)
    | (exfalso; simp_all; omega)
 ·have hr1 := Uo (A := 1) (B := 1) (Zg7 a) (Zg7 b)
  have hr2 := Uo (A := 1) (B := 1) (Zg7 c) (Zg7 d)
  have w : sgn (IntKind.i64.wrap (IntKind.i64.wrap (sgn a * sgn b) - IntKind.i64.wrap (sgn c * sgn d))) = cmpP a b c d := by
   rw [Zzh h, Zma, Zma, W_eq (by omega) (by omega)]
  have w2 : ¬ IntKind.i64.wrap (sgn a * sgn b) = IntKind.i64.wrap (sgn c * sgn d) := by rw [Zma, Zma]; exact h
  refine bs.pv (sx := nos) Yar Tryz.func296 (by kernel_rfl) (by kernel_rfl) rfl ?_
  rw [<-w]
  repeat' (first | refine wk1 ?_ | (refine wk2 ?_ ?_ <;> intro _) | refine wk4 ?_ | fail); all_goals (conv => whnf)
  exact Za rfl
def r204 : List AV -> Option PRes
 | [.agg [.int .i64 a, .int .i64 b, .int .i64 c, .int .i64 d, .int .i64 x, .int .i64 y, .int .i64 z, .int .i64 w]] => some ⟨.tup [I (Ztq ⟨a, b, c, d⟩ ⟨x, y, z, w⟩), I (Ztp ⟨a, b, c, d⟩ ⟨x, y, z, w⟩)], []⟩
 | _ => none
def r207 : List AV -> Option PRes
 | [.int .i64 fr, .int .i64 den, .int .i64 to, .int .i64 oth, .int .i64 a, .int .i64 b] => some ⟨Bo (ovl fr den to oth a b), []⟩
 | _ => none
def r182 : List AV -> Option PRes
 | [.agg [.int .i64 a, .int .i64 b, .int .i64 c, .int .i64 d, .int .i64 x, .int .i64 y, .int .i64 z, .int .i64 w]] => some ⟨.tup [I (midX ⟨a, b, c, d⟩ ⟨x, y, z, w⟩), I (midY ⟨a, b, c, d⟩ ⟨x, y, z, w⟩), I (midD ⟨a, b, c, d⟩ ⟨x, y, z, w⟩)], []⟩
 | _ => none
def kF2 : PC := ins 287 r204 (ins 288 r207 (ins 263 r182 kG3))
theorem Yaq : PCOK Tryz.prog kF2 := by
 refine Zi (fun a res h => ?_) (Zi (fun a res h => ?_) (Zi (fun a res h => ?_) Vd))
 ·unfold r204 at h; split at h <;> cases h; exact c204 ⟨_, _, _, _⟩ ⟨_, _, _, _⟩
 ·unfold r207 at h; split at h <;> cases h; exact c207 _ _ _ _ _ _
 ·unfold r182 at h; split at h <;> cases h; exact c182 ⟨_, _, _, _⟩ ⟨_, _, _, _⟩
set_option maxHeartbeats 4000000 in
theorem c208 (p q : Pt) (x y : Int) : PCall Tryz.prog 289 [wayA p q, P2 x y] ⟨I (Zlb p q x y), []⟩ := by
 have hk := Ze (c215 (a := Ztq p q) (b := IntKind.i64.wrap (IntKind.i64.wrap (y * p.d) - p.y)) (c := Ztp p q) (d := IntKind.i64.wrap (IntKind.i64.wrap (x * p.d) - p.x)) (Zs1 _) (Zs1 _) (Zs1 _) (Zs1 _)) Yaq
 refine bs.pv (sx := nos) hk Tryz.func289 (by kernel_rfl) (by kernel_rfl) rfl ?_
 repeat' (first | refine wk0 ?_ | (refine wk2 ?_ ?_ <;> intro _) | refine wk4 ?_ | fail); all_goals (conv => whnf)
 exact Za rfl
def r208 : List AV -> Option PRes
 | [.agg [.int .i64 a, .int .i64 b, .int .i64 c, .int .i64 d, .int .i64 x, .int .i64 y, .int .i64 z, .int .i64 w], .agg [.int .i64 u, .int .i64 v]] => some ⟨I (Zlb ⟨a, b, c, d⟩ ⟨x, y, z, w⟩ u v), []⟩
 | _ => none
def kF3 : PC := ins 289 r208 kF2
theorem Yep : PCOK Tryz.prog kF3 := by
 refine Zi (fun a res h => ?_) Yaq
 unfold r208 at h; split at h <;> cases h; exact c208 ⟨_, _, _, _⟩ ⟨_, _, _, _⟩ _ _
set_option maxRecDepth 100000 in
set_option maxHeartbeats 8000000 in
theorem c181 (p q : Pt) (w : Wl) : PCall Tryz.prog 262 [wayA p q, w.av] ⟨Bo (touP p q w), []⟩ := by
 obtain ⟨pa, pb, pc, pd⟩ := p
 obtain ⟨qa, qb, qc, qd⟩ := q
 obtain ⟨wn, wa, wb, wc, wd⟩ := w
 refine bs.pv (sx := nos) Yep Tryz.func262 (by kernel_rfl) (by kernel_rfl) rfl ?_
 repeat' (first | refine wk0 ?_ | (refine wk2 ?_ ?_ <;> intro _) | refine wk4 ?_ | fail); all_goals (conv => whnf)
 all_goals exact Zb (by simp_all [touP] <;> omega)
def r181 : List AV -> Option PRes
 | [.agg [.int .i64 a, .int .i64 b, .int .i64 c, .int .i64 d, .int .i64 x, .int .i64 y, .int .i64 z, .int .i64 w], .agg [.int .i64 n, .int .i64 fx, .int .i64 fy, .int .i64 tx, .int .i64 ty]] => some ⟨Bo (touP ⟨a, b, c, d⟩ ⟨x, y, z, w⟩ ⟨n, fx, fy, tx, ty⟩), []⟩
 | _ => none
def Yds : List AV -> Option PRes
 | [.agg [.int .i64 a, .int .i64 b, .int .i64 c, .int .i64 d], .int .i64 x, .int .i64 y, .int .i64 z] => some ⟨Bo (Rc.has ⟨a, b, c, d⟩ x y z), []⟩
 | _ => none
def Ydt : List AV -> Option PRes
 | [.agg [.int .i64 a, .int .i64 b, .int .i64 c, .int .i64 d], .int .i64 x, .int .i64 y, .int .i64 z] => some ⟨Bo (Rc.holds ⟨a, b, c, d⟩ x y z), []⟩
 | _ => none
def kF4 : PC := ins 262 r181 (ins 292 Yds (ins 259 Ydt (ins 263 r182 (ins 258 r170 kG3))))
theorem Zra : PCOK Tryz.prog kF4 := by
 refine Zi (fun a res h => ?_) (Zi (fun a res h => ?_) (Zi (fun a res h => ?_) (Zi (fun a res h => ?_) (Zi (fun a res h => ?_) Vd))))
 ·unfold r181 at h; split at h <;> cases h; exact c181 ⟨_, _, _, _⟩ ⟨_, _, _, _⟩ ⟨_, _, _, _, _⟩
 ·unfold Yds at h; split at h <;> cases h; exact c211 ⟨_, _, _, _⟩ _ _ _
 ·unfold Ydt at h; split at h <;> cases h; exact c193 ⟨_, _, _, _⟩ _ _ _
 ·unfold r182 at h; split at h <;> cases h; exact c182 ⟨_, _, _, _⟩ ⟨_, _, _, _⟩
 ·unfold r170 at h; split at h <;> cases h; exact c170 _ _ _ _ _ _ _
set_option maxRecDepth 100000 in
set_option maxHeartbeats 8000000 in
theorem c209 (r : Rc) (p q : Pt) : PCall Tryz.prog 290 [r.av, wayA p q] ⟨Bo (Zzb r p q), []⟩ := by
 obtain ⟨ra, rb, rc, rd⟩ := r
 obtain ⟨pa, pb, pc, pd⟩ := p
 obtain ⟨qa, qb, qc, qd⟩ := q
 refine bs.pv (sx := nos) Zra Tryz.func290 (by kernel_rfl) (by kernel_rfl) rfl ?_
 repeat' (first | refine wk0 ?_ | (refine wk2 ?_ ?_ <;> intro _) | refine wk4 ?_ | fail); all_goals (conv => whnf)
 all_goals try (refine LpM.start 5 ?_)
 iterate 5
  all_goals try (refine LpM.succ (bs.av (sx := nos) Zra ?_))
  repeat' (first | refine wk0 ?_ | (refine wk2 ?_ ?_ <;> intro _) | refine wk4 ?_ | fail); all_goals (conv => whnf)
 all_goals exact Zb (by simp_all [Zzb, edgP])
def atP (ht : Int) (p q : Pt) : Int × Int × Int × Bool := if 0 <= IntKind.i64.wrap (sgn (zOff ht p) * sgn (zOff ht q)) then (0, 0, 0, false) else (atX p.x q.x (size (zOff ht q)) (size (zOff ht p)), atX p.y q.y (size (zOff ht q)) (size (zOff ht p)), atX p.d q.d (size (zOff ht q)) (size (zOff ht p)), true)
set_option maxRecDepth 100000 in
set_option maxHeartbeats 8000000 in
theorem c210 (ht : Int) (p q : Pt) : PCall Tryz.prog 291 [wayA p q, I ht] ⟨.tup [I (atP ht p q).1, I (atP ht p q).2.1, I (atP ht p q).2.2.1, Bo (atP ht p q).2.2.2], []⟩ := by
 refine bs.pv (sx := nos) Vd Tryz.func291 (by kernel_rfl) (by kernel_rfl) rfl ?_
 unfold atP
 by_cases hc : 0 <= IntKind.i64.wrap (sgn (zOff ht p) * sgn (zOff ht q))
 ·rw [if_pos hc]
  unfold zOff at hc
  repeat' (first | refine wk3 ?_ | (refine wk2 ?_ ?_ <;> intro _) | refine wk4 ?_ | fail); all_goals (conv => whnf)
  exact Zf rfl rfl
 ·rw [if_neg hc]
  unfold zOff at hc
  repeat' (first | refine wk3 ?_ | (refine wk2 ?_ ?_ <;> intro _) | refine wk4 ?_ | fail); all_goals (conv => whnf)
  exact Zf rfl rfl
def r210 : List AV -> Option PRes
 | [.agg [.int .i64 a, .int .i64 b, .int .i64 c, .int .i64 d, .int .i64 x, .int .i64 y, .int .i64 z, .int .i64 w], .int .i64 ht] => some ⟨.tup [I (atP ht ⟨a, b, c, d⟩ ⟨x, y, z, w⟩).1, I (atP ht ⟨a, b, c, d⟩ ⟨x, y, z, w⟩).2.1, I (atP ht ⟨a, b, c, d⟩ ⟨x, y, z, w⟩).2.2.1, Bo (atP ht ⟨a, b, c, d⟩ ⟨x, y, z, w⟩).2.2.2], []⟩
 | _ => none
def r209 : List AV -> Option PRes
 | [.agg [.int .i64 e, .int .i64 f, .int .i64 g, .int .i64 h], .agg [.int .i64 a, .int .i64 b, .int .i64 c, .int .i64 d, .int .i64 x, .int .i64 y, .int .i64 z, .int .i64 w]] => some ⟨Bo (Zzb ⟨e, f, g, h⟩ ⟨a, b, c, d⟩ ⟨x, y, z, w⟩), []⟩
 | _ => none
def kF5 : PC := ins 290 r209 (ins 291 r210 kF4)
theorem Yeo : PCOK Tryz.prog kF5 := by
 refine Zi (fun a res h => ?_) (Zi (fun a res h => ?_) Zra)
 ·unfold r209 at h; split at h <;> cases h; exact c209 ⟨_, _, _, _⟩ ⟨_, _, _, _⟩ ⟨_, _, _, _⟩
 ·unfold r210 at h; split at h <;> cases h; exact c210 _ ⟨_, _, _, _⟩ ⟨_, _, _, _⟩
set_option maxRecDepth 100000 in
set_option maxHeartbeats 8000000 in
theorem c184 {h : Hal} {s : Stg} (g : Sit h s) {j : Nat} (hj : j < h.ks.length) (p q : Pt) : PCall Tryz.prog 264 [.agg (stgL h s), I j, wayA p q] ⟨Bo (blkP h.ks[j].rc (Zdj h s j) p q), []⟩ := by
 have hk := Ze (c192 g hj) Yeo
 have e5 := Zdo hj
 have l2 := Xc h.ks
 generalize Zdj h s j = ht at *
 generalize h.ks[j] = c at *
 unfold blkP
 by_cases hc : p.z = IntKind.i64.wrap (ht * p.d) /\ q.z = IntKind.i64.wrap (ht * q.d)
 ·rw [if_pos hc]
  obtain ⟨h1, h2⟩ := hc
  refine bs.pv (sx := nos) hk Tryz.func264 (by kernel_rfl) (by kernel_rfl) rfl ?_
  repeat' (first | refine wk3 ?_ | (refine wk2 ?_ ?_ <;> intro _) | refine wk4 ?_ | fail); all_goals (conv => whnf)
  exact Zb rfl
 ·rw [if_neg hc]
  have hat : atP ht p q = if 0 <= IntKind.i64.wrap (sgn (zOff ht p) * sgn (zOff ht q)) then (0, 0, 0, false) else (atX p.x q.x (size (zOff ht q)) (size (zOff ht p)), atX p.y q.y (size (zOff ht q)) (size (zOff ht p)), atX p.d q.d (size (zOff ht q)) (size (zOff ht p)), true) := rfl
  have hk2 := Ze (c210 ht p q) hk
  rw [hat] at hk2
  clear hk hat
  have hc2 : ¬ p.z = IntKind.i64.wrap (ht * p.d) \/ (p.z = IntKind.i64.wrap (ht * p.d) /\ ¬ q.z = IntKind.i64.wrap (ht * q.d)) := by
   by_cases h1 : p.z = IntKind.i64.wrap (ht * p.d)
   ·exact .inr ⟨h1, fun h2 => hc ⟨h1, h2⟩⟩
   ·exact .inl h1
  clear hc
  by_cases hs : 0 <= IntKind.i64.wrap (sgn (zOff ht p) * sgn (zOff ht q))
  ·rw [if_pos hs] at hk2 ⊢
   clear hs
   rcases hc2 with h1 | ⟨h1, h2⟩
   all_goals
    refine bs.pv (sx := nos) hk2 Tryz.func264 (by kernel_rfl) (by kernel_rfl) rfl ?_
    repeat' (first | refine wk3 ?_ | (refine wk2 ?_ ?_ <;> intro _) | refine wk4 ?_ | fail); all_goals (conv => whnf)
    exact Zb rfl
  ·rw [if_neg hs] at hk2 ⊢
   clear hs
   rcases hc2 with h1 | ⟨h1, h2⟩
   all_goals
    refine bs.pv (sx := nos) hk2 Tryz.func264 (by kernel_rfl) (by kernel_rfl) rfl ?_
    repeat' (first | refine wk3 ?_ | (refine wk2 ?_ ?_ <;> intro _) | refine wk4 ?_ | fail); all_goals (conv => whnf)
    exact Zb rfl
def zBad (h : Hal) (p q : Pt) : Bool := (decide (p.z = 0) && decide (q.z = 0)) || (decide (p.z = IntKind.i64.wrap (h.ht * p.d)) && decide (q.z = IntKind.i64.wrap (h.ht * q.d))) || decide (p.z < 0) || decide (q.z < 0) || decide (IntKind.i64.wrap (h.ht * p.d) < p.z) || decide (IntKind.i64.wrap (h.ht * q.d) < q.z)
def blkA (h : Hal) (s : Stg) (p q : Pt) : Nat -> List Can -> Bool
 | _, [] => false
 | j, c :: l => blkP c.rc (Zdj h s j) p q || blkA h s p q (j + 1) l
def Ze7 (h : Hal) (s : Stg) (p q : Pt) : Bool := !zBad h p q && (!(wls h.cs).any (touP p q) && (Ye h (midX p q) (midY p q) (midD p q) && !blkA h s p q 0 h.ks))
noncomputable abbrev blks (h : Hal) (s : Stg) (p q : Pt) : List AV -> Option PRes := famA (fun j : Nat => j < h.ks.length) (fun j => [.agg (stgL h s), I j, wayA p q]) (fun j => ⟨Bo (blkP ((h.ks[j]?).getD ⟨⟨#[]⟩, ⟨#[]⟩, 0, 0, 0, 0, []⟩).rc (Zdj h s j) p q), []⟩)
theorem Zzm {h : Hal} {s : Stg} {p q : Pt} {j : Nat} (hj : j < h.ks.length) : blks h s p q [.agg (stgL h s), I j, wayA p q] = some ⟨Bo (blkP h.ks[j].rc (Zdj h s j) p q), []⟩ := by
 have := Zv (p := fun j : Nat => j < h.ks.length) (g := fun j : Nat => [.agg (stgL h s), I j, wayA p q]) (r := fun j => ⟨Bo (blkP ((h.ks[j]?).getD ⟨⟨#[]⟩, ⟨#[]⟩, 0, 0, 0, 0, []⟩).rc (Zdj h s j) p q), []⟩) (k := j) (fun i hi => by
  simp only [List.cons.injEq, AV.int.injEq, true_and, and_true] at hi
  have : i = j := by omega
  subst this; rfl) hj
 refine this.trans ?_
 rw [List.getElem?_eq_getElem hj]; rfl
noncomputable def kF6 (h : Hal) (s : Stg) (p q : Pt) : PC := ins 264 (blks h s p q) (ins 260 (one [h.av, I (midX p q), I (midY p q), I (midD p q)] ⟨Bo (Ye h (midX p q) (midY p q) (midD p q)), []⟩) kF4)
theorem Yen {h : Hal} {s : Stg} (g : Sit h s) (p q : Pt) : PCOK Tryz.prog (kF6 h s p q) := Ym (fun j hj => by rw [List.getElem?_eq_getElem hj]; exact c184 g hj p q) (Ze (c183 g.ok.f _ _ _) Zra)
set_option maxRecDepth 100000 in
set_option maxHeartbeats 16000000 in
theorem c103 {h : Hal} {s : Stg} (g : Sit h s) (p q : Pt) : PCall Tryz.prog 176 [.agg (stgL h s), wayA p q] ⟨Bo (Ze7 h s p q), []⟩ := by
 have hk := Yen g p q
 refine bs.pv (sx := nos) hk Tryz.func176 (by kernel_rfl) (by kernel_rfl) rfl ?_
 cases hz : zBad h p q with
 | true =>
  unfold Ze7
  rw [hz]
  repeat' (first | refine wk3 ?_ | (refine wk2 ?_ ?_ <;> intro _) | refine wk4 ?_ | fail); all_goals (conv => whnf)
  all_goals first
   | exact Zb rfl
   | (exfalso; clear hk; simp_all [zBad]; done)
   | (exfalso; clear hk; simp_all [zBad]; omega)
 | false =>
  have e : Ze7 h s p q = (!(wls h.cs).any (touP p q) && (Ye h (midX p q) (midY p q) (midD p q) && !blkA h s p q 0 h.ks)) := by unfold Ze7; rw [hz]; rfl
  rw [e]
  clear e
  unfold zBad at hz
  simp only [Bool.or_eq_false_iff, Bool.and_eq_false_iff, decide_eq_false_iff_not] at hz
  obtain ⟨⟨⟨⟨⟨z1, z2⟩, z3⟩, z4⟩, z5⟩, z6⟩ := hz
  repeat' (first | refine wk3 ?_ | (refine wk2 ?_ ?_ <;> intro _) | refine wk4 ?_ | fail); all_goals (conv => whnf)
  all_goals try (exfalso; clear hk; simp_all; done)
  all_goals
   refine Rg.ren (env2 := [(2, .ptr 0 0 0), (4, .ptr 2 0 0), (9, .ptr 43 0 0), (92, .func 261 [h.av] [])]) (σ2 := ⟨[(43, .row 8 [[I p.x, I p.y, I p.z, I p.d, I q.x, I q.y, I q.z, I q.d]] true false), (2, .row 1 [[Bo false]] true false), (0, .row 11 [stgL h s] true false)], 44⟩) (Ren.of [] rfl (kps) (kps)) ?_
   clear z1 z2 z3 z4 z5 z6
   refine rngV (itW g.ok.f) rfl rfl rfl rfl (Zex (S := Unit) (fun _ => [(43, .row 8 [[I p.x, I p.y, I p.z, I p.d, I q.x, I q.y, I q.z, I q.d]] true false), (2, .row 1 [[Bo false]] true false), (0, .row 11 [stgL h s] true false)]) 44 44 (fun xs _ => ∃ l : List Wl, xs = l.map (fun w => [w.av]) /\ (!l.any (touP p q) && (Ye h (midX p q) (midY p q) (midD p q) && !blkA h s p q 0 h.ks)) = (!(wls h.cs).any (touP p q) && (Ye h (midX p q) (midY p q) (midD p q) && !blkA h s p q 0 h.ks))) ?_ ?_ _ () ⟨_, rfl, rfl⟩)
   ·rintro u us _ ⟨l, h1, h2⟩
    cases l with
    | nil => simp at h1
    | cons w l =>
     simp only [List.map_cons, List.cons.injEq] at h1
     obtain ⟨rfl, rfl⟩ := h1
     obtain ⟨wn, wa, wb, wc, wd⟩ := w
     rw [List.any_cons] at h2
     refine ⟨rfl, bs.av (sx := nos) hk ?_⟩
     repeat' (first | refine wk3 ?_ | (refine wk2 ?_ ?_ <;> intro _) | refine wk4 ?_ | fail); all_goals (conv => whnf)
     refine Bd.mk (bs.av (sx := nos) hk ?_)
     repeat' (first | refine wk3 ?_ | (refine wk2 ?_ ?_ <;> intro _) | refine wk4 ?_ | fail); all_goals (conv => whnf)
     ·rename_i hx
      rw [<-h2, hx]
      exact Zb rfl
     ·rename_i hx
      rw [hx, Bool.false_or] at h2
      exact Done.mk ⟨(), [], rfl, kps, l, rfl, h2⟩
   ·rintro _ ⟨l, h1, h2⟩
    cases l with
    | cons w l => simp at h1
    | nil =>
     rw [<-h2]
     clear h1 h2
     rw [List.any_nil]
     repeat' (first | refine wk3 ?_ | (refine wk2 ?_ ?_ <;> intro _) | refine wk4 ?_ | fail); all_goals (conv => whnf)
     ·rename_i hx
      have hx : Ye h (midX p q) (midY p q) (midD p q) = false := by simpa using hx
      rw [hx]
      exact Zb rfl
     ·rename_i hx
      have hx : Ye h (midX p q) (midY p q) (midD p q) = true := by simpa using hx
      rw [hx]
      have l4 := Xc h.ks
      have f4 := g.ok.f.2.2.2.1
      refine Ya (S := Nat × Int) (fun t => h.ks.length - t.1) (fun t => [(2, .ptr 0 0 0), (4, .ptr 2 0 0), (9, .ptr 43 0 0), (114, I (h.ks.map Can.av).length), (115, I t.2)]) (fun _ => [(43, .row 8 [[I p.x, I p.y, I p.z, I p.d, I q.x, I q.y, I q.z, I q.d]] true false), (2, .row 1 [[Bo false]] true false), (0, .row 11 [stgL h s] true false)]) 60 60 (fun t => t.2 = t.1 /\ t.1 <= h.ks.length /\ blkA h s p q t.1 (h.ks.drop t.1) = blkA h s p q 0 h.ks) (0, 0) ⟨rfl, Nat.zero_le _, rfl⟩ (Nat.le_of_ble_eq_true rfl) [] rfl (kps) (kps) ?_
      rintro ⟨k, i⟩ ⟨hi, hkk, hh⟩
      dsimp only at hi hkk hh ⊢
      subst hi
      refine bs.av (sx := nos) hk ?_
      by_cases hlt : k < h.ks.length
      ·rw [List.drop_eq_getElem_cons hlt, blkA] at hh
       have hb := Zzm (p := p) (q := q) (s := s) hlt
       generalize blkP h.ks[k].rc (Zdj h s k) p q = b at *
       cases b with
       | true =>
        rw [<-hh]
        repeat' (first | refine wk3 ?_ | (refine wk2 ?_ ?_ <;> intro _) | refine wk4 ?_ | fail); all_goals (conv => whnf)
        exact Zb rfl
       | false =>
        rw [Bool.false_or] at hh
        repeat' (first | refine wk3 ?_ | (refine wk2 ?_ ?_ <;> intro _) | refine wk4 ?_ | fail); all_goals (conv => whnf)
        exact Done.mk ⟨(k + 1, _), [], rfl, kps, kps, ⟨Zg (by omega), hlt, hh⟩, by dsimp only; omega⟩
      ·rw [List.drop_of_length_le (by omega), blkA] at hh
       rw [<-hh]
       repeat' (first | refine wk3 ?_ | (refine wk2 ?_ ?_ <;> intro _) | refine wk4 ?_ | fail); all_goals (conv => whnf)
       exact Zb rfl
def ptEq (p q : Pt) : Bool := decide (p.x = q.x) && decide (p.y = q.y) && decide (p.z = q.z) && decide (p.d = q.d)
def wayE (h : Hal) (s : Stg) (p q : Pt) : Int := if serr h s = 0 then (if Xn p = 0 then (if Xn q = 0 then (if ptEq p q then 11 else 0) else Xn q) else Xn p) else serr h s
abbrev sxF : FuncId -> Bool := fun f => Nat.beq f 159 || Nat.beq f 173 || Nat.beq f 174 || Nat.beq f 175
noncomputable abbrev ptEs : List AV -> Option PRes := famA (fun p : Pt => p.wf) (fun p => [p.av]) (fun p => ⟨I (Xn p), []⟩)
theorem Zqx {p : Pt} (h : p.wf) : ptEs [p.av] = some ⟨I (Xn p), []⟩ :=
 Zv (p := fun p : Pt => p.wf) (g := fun p => [p.av]) (r := fun p => ⟨I (Xn p), []⟩) (fun j hj => by
  obtain ⟨a, b, c, d⟩ := j
  obtain ⟨a', b', c', d'⟩ := p
  simp only [List.cons.injEq, AV.agg.injEq, AV.int.injEq, true_and, and_true] at hj
  obtain ⟨rfl, rfl, rfl, rfl⟩ := hj
  rfl) h
set_option maxRecDepth 100000 in
set_option maxHeartbeats 16000000 in
theorem c37 {h : Hal} (hk : h.ok) {s : Stg} (hs : s.few) {p q : Pt} (hp : p.wf) (hq : q.wf) : PCall Tryz.prog 125 [h.av, s.av, wayA p q] ⟨.tup [Bo (decide (wayE h s p q = 0) && Ze7 h s p q), I (wayE h s p q)], []⟩ := by
 have hk0 : PCOK Tryz.prog (ins 164 ptEs (ins 172 (one [h.av, s.av] ⟨.tup [.agg (stgL h s), I (serr h s)], []⟩) kG4)) := Ym (fun p hp => c99 hp) (Ze (c83 hk hs) Uq)
 have t1 := Zqx hp
 have t2 := Zqx hq
 unfold wayE
 by_cases h0 : serr h s = 0
 ·have g := Zmn hk hs h0
  rw [h0] at hk0
  rw [if_pos h0]
  have hk1 := Ze (c103 g p q) hk0
  clear hk0 h0
  generalize Ze7 h s p q = fr at *
  generalize Xn p = e1 at *
  generalize Xn q = e2 at *
  by_cases h1 : e1 = 0
  ·rw [if_pos h1]
   subst h1
   by_cases h2 : e2 = 0
   ·rw [if_pos h2]
    subst h2
    have hx : (true ^^ (decide (p.x = q.x) && (decide (p.y = q.y) && (decide (p.z = q.z) && (decide (p.d = q.d) && true))))) = !ptEq p q := by
     unfold ptEq
     cases decide (p.x = q.x) <;> cases decide (p.y = q.y) <;> cases decide (p.z = q.z) <;> cases decide (p.d = q.d) <;> rfl
    cases hq : ptEq p q with
    | true =>
     rw [hq] at hx
     have hu : unl (true ^^ (decide (p.x = q.x) && (decide (p.y = q.y) && (decide (p.z = q.z) && (decide (p.d = q.d) && true))))) 11 = 11 := by rw [hx]; rfl
     clear hx hq
     refine bs.pv (sx := sxF) hk1 Tryz.func125 (by kernel_rfl) (by kernel_rfl) rfl ?_
     repeat' (first | refine wk3 ?_ | (refine wk2 ?_ ?_ <;> intro _) | refine wk4 ?_ | fail); all_goals (conv => whnf)
     refine bs.sv (sx := sxF) hk1 Tryz.func159 (by kernel_rfl) (by kernel_rfl) ?_
     refine LpM.start 4 ?_
     refine LpM.succ (bs.av (sx := sxF) hk1 ?_)
     repeat' (first | refine wk3 ?_ | (refine wk2 ?_ ?_ <;> intro _) | refine wk4 ?_ | fail); all_goals (conv => whnf)
     refine bs.sv (sx := sxF) hk1 Tryz.func173 (by kernel_rfl) (by kernel_rfl) ?_
     repeat' (first | refine wk3 ?_ | (refine wk2 ?_ ?_ <;> intro _) | refine wk4 ?_ | fail); all_goals (conv => whnf)
     refine LpM.succ (bs.av (sx := sxF) hk1 ?_)
     repeat' (first | refine wk3 ?_ | (refine wk2 ?_ ?_ <;> intro _) | refine wk4 ?_ | fail); all_goals (conv => whnf)
     refine bs.sv (sx := sxF) hk1 Tryz.func174 (by kernel_rfl) (by kernel_rfl) ?_
     repeat' (first | refine wk3 ?_ | (refine wk2 ?_ ?_ <;> intro _) | refine wk4 ?_ | fail); all_goals (conv => whnf)
     refine LpM.succ (bs.av (sx := sxF) hk1 ?_)
     repeat' (first | refine wk3 ?_ | (refine wk2 ?_ ?_ <;> intro _) | refine wk4 ?_ | fail); all_goals (conv => whnf)
     refine bs.sv (sx := sxF) hk1 Tryz.func175 (by kernel_rfl) (by kernel_rfl) ?_
     repeat' (first | refine wk3 ?_ | (refine wk2 ?_ ?_ <;> intro _) | refine wk4 ?_ | fail); all_goals (conv => whnf)
     exact Zf (by rw [hu]; rfl) rfl
    | false =>
     rw [hq] at hx
     have hu : unl (true ^^ (decide (p.x = q.x) && (decide (p.y = q.y) && (decide (p.z = q.z) && (decide (p.d = q.d) && true))))) 11 = 0 := by rw [hx]; rfl
     clear hx hq
     refine bs.pv (sx := sxF) hk1 Tryz.func125 (by kernel_rfl) (by kernel_rfl) rfl ?_
     repeat' (first | refine wk3 ?_ | (refine wk2 ?_ ?_ <;> intro _) | refine wk4 ?_ | fail); all_goals (conv => whnf)
     refine bs.sv (sx := sxF) hk1 Tryz.func159 (by kernel_rfl) (by kernel_rfl) ?_
     refine LpM.start 4 ?_
     refine LpM.succ (bs.av (sx := sxF) hk1 ?_)
     repeat' (first | refine wk3 ?_ | (refine wk2 ?_ ?_ <;> intro _) | refine wk4 ?_ | fail); all_goals (conv => whnf)
     refine bs.sv (sx := sxF) hk1 Tryz.func173 (by kernel_rfl) (by kernel_rfl) ?_
     repeat' (first | refine wk3 ?_ | (refine wk2 ?_ ?_ <;> intro _) | refine wk4 ?_ | fail); all_goals (conv => whnf)
     refine LpM.succ (bs.av (sx := sxF) hk1 ?_)
     repeat' (first | refine wk3 ?_ | (refine wk2 ?_ ?_ <;> intro _) | refine wk4 ?_ | fail); all_goals (conv => whnf)
     refine bs.sv (sx := sxF) hk1 Tryz.func174 (by kernel_rfl) (by kernel_rfl) ?_
     repeat' (first | refine wk3 ?_ | (refine wk2 ?_ ?_ <;> intro _) | refine wk4 ?_ | fail); all_goals (conv => whnf)
     refine LpM.succ (bs.av (sx := sxF) hk1 ?_)
     repeat' (first | refine wk3 ?_ | (refine wk2 ?_ ?_ <;> intro _) | refine wk4 ?_ | fail); all_goals (conv => whnf)
     refine bs.sv (sx := sxF) hk1 Tryz.func175 (by kernel_rfl) (by kernel_rfl) ?_
     repeat' (first | refine wk3 ?_ | (refine wk2 ?_ ?_ <;> intro _) | refine wk4 ?_ | fail); all_goals (conv => whnf)
     refine LpM.succ (bs.av (sx := sxF) hk1 ?_)
     repeat' (first | refine wk3 ?_ | (refine wk2 ?_ ?_ <;> intro _) | refine wk4 ?_ | fail); all_goals (conv => whnf)
     exact Zf (by cases fr <;> rfl) rfl
   ·rw [if_neg h2]
    refine bs.pv (sx := sxF) hk1 Tryz.func125 (by kernel_rfl) (by kernel_rfl) rfl ?_
    repeat' (first | refine wk3 ?_ | (refine wk2 ?_ ?_ <;> intro _) | refine wk4 ?_ | fail); all_goals (conv => whnf)
    refine bs.sv (sx := sxF) hk1 Tryz.func159 (by kernel_rfl) (by kernel_rfl) ?_
    refine LpM.start 4 ?_
    refine LpM.succ (bs.av (sx := sxF) hk1 ?_)
    repeat' (first | refine wk3 ?_ | (refine wk2 ?_ ?_ <;> intro _) | refine wk4 ?_ | fail); all_goals (conv => whnf)
    refine bs.sv (sx := sxF) hk1 Tryz.func173 (by kernel_rfl) (by kernel_rfl) ?_
    repeat' (first | refine wk3 ?_ | (refine wk2 ?_ ?_ <;> intro _) | refine wk4 ?_ | fail); all_goals (conv => whnf)
    refine LpM.succ (bs.av (sx := sxF) hk1 ?_)
    repeat' (first | refine wk3 ?_ | (refine wk2 ?_ ?_ <;> intro _) | refine wk4 ?_ | fail); all_goals (conv => whnf)
    refine bs.sv (sx := sxF) hk1 Tryz.func174 (by kernel_rfl) (by kernel_rfl) ?_
    repeat' (first | refine wk3 ?_ | (refine wk2 ?_ ?_ <;> intro _) | refine wk4 ?_ | fail); all_goals (conv => whnf)
    exact Zf (by rw [decide_eq_false h2]; rfl) rfl
  ·rw [if_neg h1]
   refine bs.pv (sx := sxF) hk1 Tryz.func125 (by kernel_rfl) (by kernel_rfl) rfl ?_
   repeat' (first | refine wk3 ?_ | (refine wk2 ?_ ?_ <;> intro _) | refine wk4 ?_ | fail); all_goals (conv => whnf)
   refine bs.sv (sx := sxF) hk1 Tryz.func159 (by kernel_rfl) (by kernel_rfl) ?_
   refine LpM.start 4 ?_
   refine LpM.succ (bs.av (sx := sxF) hk1 ?_)
   repeat' (first | refine wk3 ?_ | (refine wk2 ?_ ?_ <;> intro _) | refine wk4 ?_ | fail); all_goals (conv => whnf)
   refine bs.sv (sx := sxF) hk1 Tryz.func173 (by kernel_rfl) (by kernel_rfl) ?_
   repeat' (first | refine wk3 ?_ | (refine wk2 ?_ ?_ <;> intro _) | refine wk4 ?_ | fail); all_goals (conv => whnf)
   exact Zf (by rw [decide_eq_false h1]; rfl) rfl
 ·rw [if_neg h0]
  generalize Ze7 h s p q = fr at *
  refine bs.pv (sx := sxF) hk0 Tryz.func125 (by kernel_rfl) (by kernel_rfl) rfl ?_
  repeat' (first | refine wk3 ?_ | (refine wk2 ?_ ?_ <;> intro _) | refine wk4 ?_ | fail); all_goals (conv => whnf)
  exact Zf (by rw [decide_eq_false h0]; rfl) rfl
noncomputable abbrev crsT (h : Hal) (s : Stg) : List AV -> Option PRes := famA (fun c : Crs => c.to.wf) (fun c => [h.av, s.av, c.av]) (fun c => ⟨crAV (crsA h s c), []⟩)
theorem Zrr {h : Hal} {s : Stg} {c : Crs} (hw : c.to.wf) : crsT h s [h.av, s.av, c.av] = some ⟨crAV (crsA h s c), []⟩ :=
 Zv (p := fun c : Crs => c.to.wf) (g := fun c => [h.av, s.av, c.av]) (r := fun c => ⟨crAV (crsA h s c), []⟩) (fun j hj => by
  obtain ⟨a, b, d, e, x, y, z, w⟩ := j
  obtain ⟨a', b', d', e', x', y', z', w'⟩ := c
  simp only [List.cons.injEq, AV.agg.injEq, AV.int.injEq, true_and, and_true] at hj
  obtain ⟨rfl, rfl, rfl, rfl, rfl, rfl, rfl, rfl⟩ := hj
  rfl) hw
theorem Zwp {h : Hal} (hk : h.ok) {s : Stg} (hs : s.few) {pt : PC} (hp : PCOK Tryz.prog pt) : PCOK Tryz.prog (ins 124 (crsT h s) pt) := Ym (fun c hc => c40 hk hs hc) hp
noncomputable abbrev wayT (h : Hal) (s : Stg) : List AV -> Option PRes := famA (fun p : Pt × Pt => p.1.wf /\ p.2.wf) (fun p => [h.av, s.av, wayA p.1 p.2]) (fun p => ⟨.tup [Bo (decide (wayE h s p.1 p.2 = 0) && Ze7 h s p.1 p.2), I (wayE h s p.1 p.2)], []⟩)
theorem Zqg {h : Hal} {s : Stg} {p q : Pt} (hp : p.wf) (hq : q.wf) : wayT h s [h.av, s.av, wayA p q] = some ⟨.tup [Bo (decide (wayE h s p q = 0) && Ze7 h s p q), I (wayE h s p q)], []⟩ :=
 Zv (p := fun p : Pt × Pt => p.1.wf /\ p.2.wf) (g := fun p => [h.av, s.av, wayA p.1 p.2]) (r := fun p => ⟨.tup [Bo (decide (wayE h s p.1 p.2 = 0) && Ze7 h s p.1 p.2), I (wayE h s p.1 p.2)], []⟩) (k := (p, q)) (fun j hj => by
  obtain ⟨⟨a, b, c, d⟩, ⟨a2, b2, c2, d2⟩⟩ := j
  obtain ⟨x, y, z, w⟩ := p
  obtain ⟨x2, y2, z2, w2⟩ := q
  simp only [List.cons.injEq, AV.agg.injEq, AV.int.injEq, true_and, and_true] at hj
  obtain ⟨rfl, rfl, rfl, rfl, rfl, rfl, rfl, rfl⟩ := hj
  rfl) ⟨hp, hq⟩
theorem Zto {h : Hal} (hk : h.ok) {s : Stg} (hs : s.few) {pt : PC} (hp : PCOK Tryz.prog pt) : PCOK Tryz.prog (ins 125 (wayT h s) pt) := Ym (fun p hw => c37 hk hs hw.1 hw.2) hp
def r123 : List AV -> Option PRes
 | [.agg [.int .i64 x, .int .i64 y, .int .i64 z]] => some ⟨P4 x y z 1, []⟩
 | _ => none
theorem Zun {pt : PC} (h : PCOK Tryz.prog pt) : PCOK Tryz.prog (ins 123 r123 pt) := Zi (fun a res h => by unfold r123 at h; split at h <;> cases h; exact d123 _ _ _) h
def sqV (a b c x y z : Int) : Int := IntKind.i64.wrap (IntKind.i64.wrap (IntKind.i64.wrap (IntKind.i64.wrap (a - x) * IntKind.i64.wrap (a - x)) + IntKind.i64.wrap (IntKind.i64.wrap (b - y) * IntKind.i64.wrap (b - y))) + IntKind.i64.wrap (IntKind.i64.wrap (c - z) * IntKind.i64.wrap (c - z)))
theorem d126 (a b c x y z : Int) : PCall Tryz.prog 126 [P3 a b c, P3 x y z] ⟨I (sqV a b c x y z), []⟩ := by
 refine bs.pv (sx := nos) Zc Tryz.func126 (by kernel_rfl) (by kernel_rfl) rfl ?_
 repeat' (first | refine wk3 ?_ | (refine wk2 ?_ ?_ <;> intro _) | refine wk4 ?_ | fail); all_goals (conv => whnf)
 exact Za rfl
def r126 : List AV -> Option PRes
 | [.agg [.int .i64 a, .int .i64 b, .int .i64 c], .agg [.int .i64 x, .int .i64 y, .int .i64 z]] => some ⟨I (sqV a b c x y z), []⟩
 | _ => none
theorem Zum {pt : PC} (h : PCOK Tryz.prog pt) : PCOK Tryz.prog (ins 126 r126 pt) := Zi (fun a res h => by unfold r126 at h; split at h <;> cases h; exact d126 _ _ _ _ _ _) h
theorem Yf5 {ns : List Int} (hl : ns.length < 100000) : PCall Tryz.prog 103 [.isl 1 (nl ns)] ⟨.isl 1 (nl ns), []⟩ := by
 cases ns with
 | nil => exact Yf6
 | cons n ns => exact (d103 (by simp) hl).freeze ⟨rfl, rfl, rfl⟩
theorem Yf3 {ps : List (Int × Int × Int × Int)} (hl : ps.length < 100000) : PCall Tryz.prog 104 [.isl 4 (ps.map hp4)] ⟨.isl 4 (ps.map hp4), []⟩ := by
 cases ps with
 | nil => exact Yf4
 | cons n ns => exact (d104 (by simp) hl).freeze ⟨rfl, rfl, rfl⟩
noncomputable abbrev clT : List AV -> Option PRes := famA (fun ps : List (Int × Int × Int × Int) => ps.length < 100000) (fun ps => [.isl 4 (ps.map hp4)]) (fun ps => ⟨.isl 4 (ps.map hp4), []⟩)
theorem Ye9 {pt : PC} (hp : PCOK Tryz.prog pt) : PCOK Tryz.prog (ins 104 clT pt) := Ym (fun ps hl => Yf3 hl) hp
theorem Yc8 {ps : List (Int × Int × Int × Int)} (h : ps.length < 100000) : clT [.isl 4 (ps.map hp4)] = some ⟨.isl 4 (ps.map hp4), []⟩ :=
 Zv (p := fun ps : List (Int × Int × Int × Int) => ps.length < 100000) (g := fun ps => [.isl 4 (ps.map hp4)]) (r := fun ps => ⟨.isl 4 (ps.map hp4), []⟩) (fun j hj => by
  simp only [List.cons.injEq, AV.isl.injEq, true_and, and_true] at hj
  rw [hj]) h
def goP (f : Int -> Pl3 -> Pt -> Pt × Int) : List (Int × Pl3) -> Pt -> List Pt -> Option (List Pt)
 | [], _, P => some P
 | (a, q) :: r, to, P => if (f a q to).2 = 0 then goP f r (f a q to).1 ((f a q to).1 :: P) else none
def chkW (w : Pt -> Pt -> Bool) : List Pt -> Bool
 | p :: q :: r => w p q && chkW w (q :: r)
 | _ => true
def pnt (q : Pl3) : Pt := ⟨q.1, q.2.1, q.2.2, 1⟩
def tup4 (p : Pt) : Int × Int × Int × Int := (p.x, p.y, p.z, p.d)
def fP (h : Hal) (s : Stg) (a : Int) (q : Pl3) (to : Pt) : Pt × Int := crsA h s ⟨a, q.1, q.2.1, q.2.2, to⟩
def wP (h : Hal) (s : Stg) (p q : Pt) : Bool := decide (wayE h s p q = 0) && Ze7 h s p q
def pthQ (h : Hal) (s : Stg) (q0 q1 : Pl3) (l : List (Int × Pl3)) : Option Pth :=
 match goP (fP h s) l.reverse (pnt q1) [] with
 | none => none
 | some P => if chkW (wP h s) (pnt q0 :: P ++ [pnt q1]) then some ⟨l.map (·.1), P.map tup4, sqV (l.getLastD (0, q0)).2.1 (l.getLastD (0, q0)).2.2.1 (l.getLastD (0, q0)).2.2.2 q1.1 q1.2.1 q1.2.2⟩ else none
def ansP : Option Pth -> AV
 | none => .tup [.agg [.isl 1 [], .isl 4 [], I 0], Bo false]
 | some p => .tup [p.av, Bo true]
theorem Zkk : Pt.wf ptZ := ⟨⟨by decide, by decide⟩, ⟨by decide, by decide⟩, ⟨by decide, by decide⟩, ⟨by decide, by decide⟩⟩
theorem Zwq {h : Hal} {s : Stg} (c : Crs) (hk : h.ok) (hs : s.few) : (crsA h s c).1.wf := by
 unfold crsA
 split
 ·rename_i e
  obtain ⟨g, hi, ho, _⟩ := Zws hk hs e
  unfold Za4
  split
  ·exact Zkk
  ·rename_i hsn
   split
   ·split
    ·exact Zkk
    ·exact (Zdu (Zdm ho hsn)).2.2.1.wf
   ·exact Zkk
 ·exact Zkk
theorem Zqy {q : Pl3} (h : Near 5000 q) : (pnt q).wf := by
 obtain ⟨h1, h2, h3⟩ := h
 unfold pnt
 exact ⟨⟨by dsimp only; omega, by dsimp only; omega⟩, ⟨by dsimp only; omega, by dsimp only; omega⟩, ⟨by dsimp only; omega, by dsimp only; omega⟩, ⟨by dsimp only; omega, by dsimp only; omega⟩⟩
def rawP : Option Pth -> AV
 | none => .tup [.agg [.nils, .nils, I 0], Bo false]
 | some p => .tup [p.av, Bo true]
theorem Zx7 (o : Option Pth) : Frz [] (rawP o) (ansP o) := by
 cases o with
 | none => exact ⟨⟨rfl, rfl, ⟨rfl, rfl⟩, trivial⟩, ⟨rfl, rfl⟩, trivial⟩
 | some p => exact ⟨⟨⟨rfl, rfl⟩, ⟨rfl, rfl⟩, ⟨rfl, rfl⟩, trivial⟩, ⟨rfl, rfl⟩, trivial⟩
theorem Zx6 (o : Option Pth) : Ve 0 (rawP o) = true := by cases o <;> rfl
noncomputable abbrev oneA (a : List AV) (r : PRes) : List AV -> Option PRes := famA (fun _ : Unit => True) (fun _ => a) (fun _ => r)
theorem Yb {f : FuncId} {a : List AV} {r : PRes} (h : PCall Tryz.prog f a r) {pt : PC} (hp : PCOK Tryz.prog pt) : PCOK Tryz.prog (ins f (oneA a r) pt) := Ym (fun _ _ => h) hp
theorem Yk (a : List AV) (r : PRes) : oneA a r a = some r := Zv (p := fun _ : Unit => True) (g := fun _ => a) (r := fun _ => r) (k := ()) (fun _ _ => rfl) trivial
def lkG (f : Int -> Pl3 -> Pl3) : Pl3 -> List Int -> List (Int × Pl3)
 | _, [] => []
 | q, n :: r => (n, f n q) :: lkG f (f n q) r
theorem Zyx (f : Int -> Pl3 -> Pl3) (q : Pl3) (n : Int) (r : List Int) (k : Nat) : imA f q (n :: r) (k + 1) = imA f (f n q) r k := rfl
theorem Zaf (f : Int -> Pl3 -> Pl3) : ∀ (q : Pl3) (ns : List Int), (lkG f q ns).length = ns.length
 | _, [] => rfl
 | q, n :: r => by rw [lkG, List.length_cons, Zaf f _ r, List.length_cons]
theorem Zu6 (f : Int -> Pl3 -> Pl3) : ∀ (q : Pl3) (ns : List Int) (k : Nat) (hk : k < ns.length), (lkG f q ns)[k]? = some (ns[k], imA f q ns (k + 1))
 | q, n :: r, 0, hk => rfl
 | q, n :: r, k + 1, hk => by
  rw [lkG, List.getElem?_cons_succ, Zu6 f _ r k (by simpa using hk), Zyx]
  rfl
theorem Zu5 (f : Int -> Pl3 -> Pl3) : ∀ (q : Pl3) (ns : List Int), (lkG f q ns).map (·.1) = ns
 | _, [] => rfl
 | q, n :: r => by rw [lkG, List.map_cons, Zu5 f _ r]
theorem Zq4 (f : Int -> Pl3 -> Pl3) : ∀ (q : Pl3) (ns : List Int) (x : Int), ((lkG f q ns).getLastD (x, q)).2 = imA f q ns ns.length
 | _, [], _ => rfl
 | q, n :: r, x => by
  rw [lkG, List.getLastD_cons, Zq4 f _ r n]
  rfl
theorem Zlw {f : Int -> Pl3 -> Pl3} {q : Pl3} {ns : List Int} {k : Nat} (hk : k < ns.length) : ((lkG f q ns).take (k + 1)).reverse = (ns[k], imA f q ns (k + 1)) :: ((lkG f q ns).take k).reverse := by
 have hk2 : k < (lkG f q ns).length := by rw [Zaf]; exact hk
 have e := Zu6 f q ns k hk
 rw [List.getElem?_eq_getElem hk2, Option.some.injEq] at e
 rw [List.take_succ_eq_append_getElem hk2, List.reverse_append, e]
 rfl
def Xl (h : Hal) (s : Stg) (q0 q1 : Pl3) (ns : List Int) : Option Pth := pthQ h s q0 q1 (lkG (im1 h s) q0 ns)
theorem Zdx (h : Hal) (s : Stg) (q0 q1 : Pl3) (ns : List Int) : Xl h s q0 q1 ns = match goP (fP h s) (lkG (im1 h s) q0 ns).reverse (pnt q1) [] with
  | none => none
  | some P => if chkW (wP h s) (pnt q0 :: P ++ [pnt q1]) then some ⟨ns, P.map tup4, sqV (imA (im1 h s) q0 ns ns.length).1 (imA (im1 h s) q0 ns ns.length).2.1 (imA (im1 h s) q0 ns ns.length).2.2 q1.1 q1.2.1 q1.2.2⟩ else none := by
 unfold Xl pthQ
 rw [Zu5, Zq4]
 all_goals (cases goP (fP h s) (lkG (im1 h s) q0 ns).reverse (pnt q1) [] <;> rfl)
abbrev ptc (p : Pt) : List AV := [I p.x, I p.y, I p.z, I p.d]
theorem Zgm {l : List Pt} {k : Nat} (hk : k < l.length) : (l.map ptc)[k]? = some (ptc l[k]) := by simp [hk]
theorem Zmr (l : List Pt) (i : Nat) (p : Pt) : Zhl (l.map ptc) i (ptc p) = (l.set i p).map ptc := by rw [Zba, List.map_set]
theorem Zch {l : List Pt} {k : Nat} (hk : k < l.length) (p : Pt) : (l.set k p).drop k = p :: l.drop (k + 1) := by
 rw [List.drop_eq_getElem_cons (by rw [List.length_set]; exact hk), List.getElem_set_self, List.drop_set, if_pos (by omega)]
theorem Zon {w : Pt -> Pt -> Bool} {l : List Pt} {k : Nat} (hk : k + 1 < l.length) : chkW w (l.drop k) = (w l[k] l[k + 1] && chkW w (l.drop (k + 1))) := by
 rw [List.drop_eq_getElem_cons (show k < l.length by omega), List.drop_eq_getElem_cons hk, chkW]
theorem Zoo {w : Pt -> Pt -> Bool} {l : List Pt} {k : Nat} (hk : k + 1 = l.length) : chkW w (l.drop k) = true := by
 rw [List.drop_eq_getElem_cons (show k < l.length by omega), List.drop_of_length_le (by omega)]; rfl
end Go.Proofs.YtdaliaafmcjikaaGreat
