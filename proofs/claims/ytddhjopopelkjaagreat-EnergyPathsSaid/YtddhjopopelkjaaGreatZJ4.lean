/- A part of the proof: lemmas. -/
import Derived.Test.YtddhjopopelkjaaGreatZJ3
import Derived.Test.YtddhjopopelkjaaGreatZH9
set_option linter.unusedVariables false
set_option linter.unusedSimpArgs false
namespace Go.Proofs.YtddhjopopelkjaaGreat
open Go Go.Sx
/-! ### The energy of a path -/
structure EB (e : Int × Int) : Prop where
  a : 0 ≤ e.1 ∧ e.1 ≤ 1000000000000
  b : 0 ≤ e.2 ∧ e.2 ≤ 1000000000000
def shr (s p : Int) (e : Int × Int) : Int × Int := (e.1 * s / p, (e.2 * s + p - 1) / p)
theorem shr_ok {s p : Int} {e : Int × Int} (hp : 1 ≤ p ∧ p ≤ 1000000) (hs : 0 ≤ s ∧ s ≤ p) (he : EB e) :
    EB (shr s p e) ∧ (IntKind.i64.wrap ((IntKind.i64.wrap (e.1 * s)).tdiv p) = (shr s p e).1 ∧ abvU (IntKind.i64.wrap (e.2 * s)) p = (shr s p e).2) ∧ (IntKind.i64.wrap (e.1 * s) / p = (shr s p e).1 ∧ -((-(IntKind.i64.wrap (e.2 * s))) / p) = (shr s p e).2) ∧ (0 ≤ IntKind.i64.wrap (e.1 * s) ∧ IntKind.i64.wrap (e.1 * s) ≤ 1000000000000000000) ∧ 0 ≤ IntKind.i64.wrap (e.2 * s) ∧ IntKind.i64.wrap (e.2 * s) ≤ 1000000000000000000 := by
  obtain ⟨⟨a1, a2⟩, b1, b2⟩ := he
  have m1 : 0 ≤ e.1 * s := Int.mul_nonneg a1 hs.1
  have m2 : 0 ≤ e.2 * s := Int.mul_nonneg b1 hs.1
  have m3 : e.1 * s ≤ 1000000000000 * p := Int.mul_le_mul a2 hs.2 hs.1 (by omega)
  have m4 : e.2 * s ≤ 1000000000000 * p := Int.mul_le_mul b2 hs.2 hs.1 (by omega)
  have w1 : IntKind.i64.wrap (e.1 * s) = e.1 * s := W_eq (by omega) (by omega)
  have w2 : IntKind.i64.wrap (e.2 * s) = e.2 * s := W_eq (by omega) (by omega)
  rw [w1, w2]
  unfold shr
  dsimp only
  refine ⟨⟨⟨Int.ediv_nonneg m1 (by omega), En.div_le (by omega) m3⟩, Int.ediv_nonneg (by omega) (by omega), En.up_le (by omega) m4⟩, ⟨dv_eq m1 (by omega) hp.1, abvU_eq m2 (by omega) hp.1 (by omega)⟩, ⟨rfl, ceil_up m2 (by omega)⟩, ⟨m1, by omega⟩, m2, by omega⟩
theorem d171 {p : Int} (hp : 0 < p) (a b s : Int) : PCall Tryz.prog 171 [P2 a b, I s, I p] ⟨P2 (IntKind.i64.wrap ((IntKind.i64.wrap (a * s)).tdiv p)) (abvU (IntKind.i64.wrap (b * s)) p), []⟩ := by
  have hd : ¬ p = 0 := by omega
  have ha : rAbU [I (IntKind.i64.wrap (b * s)), I p] = some ⟨I (abvU (IntKind.i64.wrap (b * s)) p), []⟩ := asr_of hp
  have hk : PCOK Tryz.prog (ins 168 r168 (ins 135 rAbU pt0)) := by
    refine ins_ok (fun a res h => ?_) rAb_ok
    unfold r168 at h; split at h <;> cases h; exact d168 _ _
  refine bs.pv (sx := nos) hk Tryz.func171 (by kernel_rfl) (by kernel_rfl) rfl ?_
  repeat' (first | refine wk3 ?_ | (refine wk2 ?_ ?_ <;> intro _) | refine wk4 ?_ | fail); all_goals (conv => whnf)
  all_goals exact ret_of rfl rfl
def r171 : List AV → Option PRes
  | [.agg [.int .i64 a, .int .i64 b], .int .i64 s, .int .i64 p] => asr (decide (0 < p)) ⟨P2 (IntKind.i64.wrap ((IntKind.i64.wrap (a * s)).tdiv p)) (abvU (IntKind.i64.wrap (b * s)) p), []⟩
  | _ => none
theorem hit171 {p : Int} (hp : 0 < p) (a b s : Int) : r171 [P2 a b, I s, I p] = some ⟨P2 (IntKind.i64.wrap ((IntKind.i64.wrap (a * s)).tdiv p)) (abvU (IntKind.i64.wrap (b * s)) p), []⟩ := asr_of hp
theorem d98 {a b s p : Int} (h1 : 0 < p ∧ -9223372036854775807 ≤ IntKind.i64.wrap (a * s) ∧ IntKind.i64.wrap (a * s) ≤ 9223372036854775807) (h2 : 0 < p ∧ -9223372036854775807 ≤ IntKind.i64.wrap (b * s) ∧ IntKind.i64.wrap (b * s) ≤ 9223372036854775807) : PCall Tryz.prog 98 [P2 a b, I s, I p] ⟨P2 (IntKind.i64.wrap (a * s) / p) (-((-(IntKind.i64.wrap (b * s))) / p)), []⟩ := by
  have t1 := fq_hit h1
  have t2 := cq_hit h2
  refine bs.pv (sx := nos) (fc_ok pt0_ok) Tryz.func98 (by kernel_rfl) (by kernel_rfl) rfl ?_
  repeat' (first | refine wk3 ?_ | (refine wk2 ?_ ?_ <;> intro _) | refine wk4 ?_ | fail); all_goals (conv => whnf)
  all_goals exact ret_of rfl rfl
def r98 : List AV → Option PRes
  | [.agg [.int .i64 a, .int .i64 b], .int .i64 s, .int .i64 p] => asr (decide ((0 < p ∧ -9223372036854775807 ≤ IntKind.i64.wrap (a * s) ∧ IntKind.i64.wrap (a * s) ≤ 9223372036854775807) ∧ (0 < p ∧ -9223372036854775807 ≤ IntKind.i64.wrap (b * s) ∧ IntKind.i64.wrap (b * s) ≤ 9223372036854775807))) ⟨P2 (IntKind.i64.wrap (a * s) / p) (-((-(IntKind.i64.wrap (b * s))) / p)), []⟩
  | _ => none
theorem hit98 {a b s p : Int} (h1 : 0 < p ∧ -9223372036854775807 ≤ IntKind.i64.wrap (a * s) ∧ IntKind.i64.wrap (a * s) ≤ 9223372036854775807) (h2 : 0 < p ∧ -9223372036854775807 ≤ IntKind.i64.wrap (b * s) ∧ IntKind.i64.wrap (b * s) ≤ 9223372036854775807) : r98 [P2 a b, I s, I p] = some ⟨P2 (IntKind.i64.wrap (a * s) / p) (-((-(IntKind.i64.wrap (b * s))) / p)), []⟩ := asr_of ⟨h1, h2⟩
/-- What a surface leaves. -/
def lft (m : Mat) (b : Int) (e : Int × Int) : Int × Int := shr (1000 - m.sc) 1000 (shr (1000 - absB m b) 1000 e)
def enL (h : Hal) (s : Stg) (b : Int) : List Int → Int × Int → Int × Int
  | [], e => e
  | n :: l, e => enL h s b l (lft (matS h s n) b e)
def itN (f : Int → Int) : Nat → Int → Int
  | 0, x => x
  | n + 1, x => itN f n (f x)
def enA (sq : Int) : Int × Int := (1000000000000 / sq, (1000000000000 + sq - 1) / sq)
noncomputable def farN (sq : Int) : Nat := (((lenV sq).2 + 1000000 - 1) / 1000000).toNat
noncomputable def nearN (sq : Int) : Nat := ((lenV sq).1 / 1000000).toNat
noncomputable def enZ (sq a : Int) (e : Int × Int) : Int × Int := (itN (fun x => x * (1000000 - a) / 1000000) (farN sq) e.1, itN (fun x => (x * (1000000 - a) + 1000000 - 1) / 1000000) (nearN sq) e.2)
noncomputable def enV (h : Hal) (s : Stg) (p : Pth) (b a : Int) : Int × Int := enZ p.sq a (enL h s b p.ss (enA p.sq))
theorem enA_ok {sq : Int} (h0 : 1 ≤ sq) (h1 : sq ≤ 24300000000) : EB (enA sq) := by
  unfold enA
  exact ⟨⟨Int.ediv_nonneg (by omega) (by omega), Int.ediv_le_self _ (by omega)⟩, Int.ediv_nonneg (by omega) (by omega), En.up_le (by omega) (by omega)⟩
theorem mat_sc {h : Hal} (g : h.fine) {m : Mat} (hm : m ∈ h.ms) : 0 ≤ m.sc ∧ m.sc ≤ 1000 := by
  have := g.mats m hm
  unfold matErr at this
  split at this
  · rename_i hx
    simp only [Bool.and_eq_true] at hx
    exact within_iff.1 hx.2
  · cases this
theorem lft_ok {h : Hal} {s : Stg} (g : Sit h s) {i b : Int} (hi : SK h i) {e : Int × Int} (he : EB e) : EB (lft (matS h s i) b e) := by
  have h1 := (absK_bd g (b := b) hi).1
  have h2 := mat_sc g.fine (matS_mem g hi)
  exact (shr_ok ⟨by omega, by omega⟩ ⟨by omega, by omega⟩ (shr_ok ⟨by omega, by omega⟩ ⟨by omega, by omega⟩ he).1).1
noncomputable abbrev cAbs (h : Hal) (s : Stg) : List AV → Option PRes := famA (fun _ : Int => True) (fun i => [h.av, s.av, I i]) (fun i => ⟨.tup [abs4 (matA h s i), I (surE h s i)], []⟩)
noncomputable abbrev cSca (h : Hal) (s : Stg) : List AV → Option PRes := famA (fun _ : Int => True) (fun i => [h.av, s.av, I i]) (fun i => ⟨.tup [I (matA h s i).sc, I (surE h s i)], []⟩)
theorem int_hit {h : Hal} {s : Stg} (r : Int → PRes) (i : Int) : famA (fun _ : Int => True) (fun i => [h.av, s.av, I i]) r [h.av, s.av, I i] = some (r i) :=
  famA_hit (p := fun _ : Int => True) (g := fun i => [h.av, s.av, I i]) (r := r) (k := i) (fun j hj => by
    simp only [List.cons.injEq, AV.int.injEq, true_and, and_true] at hj
    rw [hj]) trivial
noncomputable def kEn (h : Hal) (s : Stg) (p : Pth) : PC := ins 169 (cAbs h s) (ins 170 (cSca h s) (ins 171 r171 (ins 168 r168 (ins 85 (one [p.av] ⟨.tup [P2 (lenP p).1 (lenP p).2, I (pthE p)], []⟩) (ins 135 rAbU pt0)))))
theorem kEn_ok {h : Hal} {s : Stg} (g : Sit h s) (p : Pth) : PCOK Tryz.prog (kEn h s p) := by
  refine famA_ok (fun i _ => c60 g.ok g.sf i) (famA_ok (fun i _ => c61 g.ok g.sf i) (ins_ok (fun a res h => ?_) (ins_ok (fun a res h => ?_) (one_ok (d85 p) rAb_ok))))
  · unfold r171 at h; split at h
    · obtain ⟨h1, h2⟩ := asr_some h; subst h2; exact d171 (of_decide_eq_true h1) _ _ _
    · cases h
  · unfold r168 at h; split at h <;> cases h; exact d168 _ _
theorem far_eq {sq : Int} (h0 : 1 ≤ sq) (h1 : sq ≤ 24300000000) : abvU (lenV sq).2 1000000 = ((farN sq : Nat) : Int) ∧ IntKind.i64.wrap ((lenV sq).1.tdiv 1000000) = ((nearN sq : Nat) : Int) ∧ nearN sq ≤ farN sq ∧ farN sq ≤ 3000 := by
  have b := lenV_bd h0 h1
  unfold farN nearN
  rw [abvU_eq (by omega) (by omega) (by omega) (by omega), dv_eq (by omega) (by omega) (by omega)]
  omega
theorem lft_raw {h : Hal} {s : Stg} (g : Sit h s) {i b : Int} (hi : SK h i) {lo hi' : Int} (he : EB (lo, hi')) (c : Int) (hc : absB (matS h s i) b = c) :
    (IntKind.i64.wrap ((IntKind.i64.wrap (IntKind.i64.wrap ((IntKind.i64.wrap (lo * IntKind.i64.wrap (1000 - c))).tdiv 1000) * IntKind.i64.wrap (1000 - (matS h s i).sc))).tdiv 1000), abvU (IntKind.i64.wrap (abvU (IntKind.i64.wrap (hi' * IntKind.i64.wrap (1000 - c))) 1000 * IntKind.i64.wrap (1000 - (matS h s i).sc))) 1000) = lft (matS h s i) b (lo, hi') := by
  have h1 := (absK_bd g (b := b) hi).1
  have h2 := mat_sc g.fine (matS_mem g hi)
  rw [hc] at h1
  obtain ⟨k1, ⟨k2, k3⟩, _⟩ := shr_ok (s := 1000 - c) (p := 1000) ⟨by omega, by omega⟩ ⟨by omega, by omega⟩ he
  obtain ⟨j1, ⟨j2, j3⟩, _⟩ := shr_ok (s := 1000 - (matS h s i).sc) (p := 1000) ⟨by omega, by omega⟩ ⟨by omega, by omega⟩ k1
  unfold lft
  rw [hc, W_eq (n := 1000 - c) (by omega) (by omega), W_eq (n := 1000 - (matS h s i).sc) (by omega) (by omega)]
  dsimp only at k2 k3
  rw [k2, k3, j2, j3]
theorem shrA {a lo hi : Int} (ha : 0 ≤ a ∧ a ≤ 100000) (he : EB (lo, hi)) : (IntKind.i64.wrap ((IntKind.i64.wrap (lo * IntKind.i64.wrap (1000000 - a))).tdiv 1000000) = lo * (1000000 - a) / 1000000 ∧ abvU (IntKind.i64.wrap (hi * IntKind.i64.wrap (1000000 - a))) 1000000 = (hi * (1000000 - a) + 1000000 - 1) / 1000000) ∧ EB (lo * (1000000 - a) / 1000000, (hi * (1000000 - a) + 1000000 - 1) / 1000000) := by
  obtain ⟨k1, ⟨k2, k3⟩, _⟩ := shr_ok (s := 1000000 - a) (p := 1000000) ⟨by omega, by omega⟩ ⟨by omega, by omega⟩ he
  rw [W_eq (n := 1000000 - a) (by omega) (by omega)]
  exact ⟨⟨k2, k3⟩, k1⟩
set_option maxRecDepth 100000 in
set_option maxHeartbeats 16000000 in
theorem d89 {h : Hal} {s : Stg} {p : Pth} {b a v : Int} (g : Sit h s) (z : serr h s = 0) (hp : pthE p = 0) (hw : suE h p.ss = 0) (hair : airE b a v = 0) : PCall Tryz.prog 89 [.agg (stgL h s), p.av, P3 b a v] ⟨P2 (enV h s p b a).1 (enV h s p b a).2, []⟩ := by
  have hk := kEn_ok g p
  obtain ⟨⟨l4, _⟩, s1, s2⟩ := pthE_zero hp
  obtain ⟨hb, ⟨a1, a2⟩, _⟩ := air_iff hair
  have hb4 : b = 0 ∨ b = 1 ∨ b = 2 ∨ b = 3 := by have := within_iff.1 hb; omega
  have l2 := nl_length p.ss
  have hsq : ¬ p.sq = 0 := by omega
  have e0 : (IntKind.i64.wrap ((1000000000000 : Int).tdiv p.sq), abvU 1000000000000 p.sq) = enA p.sq := by
    unfold enA
    rw [dv_eq (by omega) (by omega) s1, abvU_eq (by omega) (by omega) s1 (by omega)]
  have t0 : rAbU [I 1000000000000, I p.sq] = some ⟨I (abvU 1000000000000 p.sq), []⟩ := asr_of (by omega)
  have hw : wkG (nsur h - 1) none p.ss = 0 := by unfold suE at hw; rwa [if_neg (by omega)] at hw
  have hin := wkG_in hw
  have hL : lenP p = lenV p.sq := by unfold lenP; rw [if_pos hp]
  unfold kEn at hk
  rw [hL, hp] at hk
  obtain ⟨f1, f2, f3, f4⟩ := far_eq s1 s2
  have t5 : rAbU [I (lenV p.sq).2, I 1000000] = some ⟨I (abvU (lenV p.sq).2 1000000), []⟩ := asr_of (p := (0 : Int) < 1000000) (by omega)
  unfold enV enZ
  generalize farN p.sq = FN at *
  generalize nearN p.sq = NN at *
  generalize lenV p.sq = L at *
  refine bs.pv (sx := nos) hk Tryz.func89 (by kernel_rfl) (by kernel_rfl) rfl ?_
  repeat' (first | refine wk3 ?_ | (refine wk2 ?_ ?_ <;> intro _) | refine wk4 ?_ | fail); all_goals (conv => whnf)
  refine loopV (S := Nat × Int × Int × Int) (fun t => p.ss.length - t.1) (fun t => [(3, .ptr 0 0 0), (4, .ptr 1 0 0), (5, .ptr 2 0 0), (6, .ptr 3 0 0), (7, .ptr 11 0 0), (28, .isl 1 (nl p.ss)), (29, I (nl p.ss).length), (30, I t.2.1)])
    (fun t => [(11, .row 2 [[I t.2.2.1, I t.2.2.2]] true false), (3, .row 2 [[I 0, I 0]] true false), (2, .row 3 [[I b, I a, I v]] true false), (1, .row 3 [[.isl 1 (nl p.ss), .isl 4 (p.ps.map hp4), I p.sq]] true false), (0, .row 11 [stgL h s] true false)]) 13 13
    (fun t => t.2.1 = t.1 ∧ t.1 ≤ p.ss.length ∧ EB t.2.2 ∧ enL h s b (p.ss.drop t.1) t.2.2 = enL h s b p.ss (enA p.sq)) (0, 0, IntKind.i64.wrap ((1000000000000 : Int).tdiv p.sq), abvU 1000000000000 p.sq) ⟨rfl, Nat.zero_le _, by show EB (IntKind.i64.wrap ((1000000000000 : Int).tdiv p.sq), abvU 1000000000000 p.sq); rw [e0]; exact enA_ok s1 s2, by show enL h s b p.ss (IntKind.i64.wrap ((1000000000000 : Int).tdiv p.sq), abvU 1000000000000 p.sq) = _; rw [e0]⟩ (Nat.le_refl _) [] rfl (kps) (kps) ?_
  rintro ⟨k, i, lo, hi⟩ ⟨hi1, hk1, he, hS⟩
  dsimp only at hi1 hk1 he hS ⊢
  subst hi1
  clear e0 t0
  generalize enL h s b p.ss (enA p.sq) = R at *
  by_cases hlt : k < p.ss.length
  · have e1 := nl_get hlt
    have hx := hin _ (List.getElem_mem hlt)
    rw [List.drop_eq_getElem_cons hlt, enL] at hS
    generalize p.ss[k] = x at *
    have hsk : SK h x := sk_of hx.1 (by omega)
    have hsu : surE h s x = 0 := surE_ok z hx.1 (by omega)
    have hmA : matA h s x = matS h s x := by unfold matA; rw [if_pos hsu]
    have g1 : cAbs h s [h.av, s.av, I x] = some ⟨.tup [abs4 (matS h s x), I 0], []⟩ := (int_hit _ x).trans (by rw [hmA, hsu])
    have g2 : cSca h s [h.av, s.av, I x] = some ⟨.tup [I (matS h s x).sc, I 0], []⟩ := (int_hit _ x).trans (by rw [hmA, hsu])
    have hf := lft_raw g (b := b) hsk he
    have hE := lft_ok g (b := b) hsk he
    generalize matS h s x = m at *
    have go : ∀ c, absB m b = c → EB (IntKind.i64.wrap ((IntKind.i64.wrap (IntKind.i64.wrap ((IntKind.i64.wrap (lo * IntKind.i64.wrap (1000 - c))).tdiv 1000) * IntKind.i64.wrap (1000 - m.sc))).tdiv 1000), abvU (IntKind.i64.wrap (abvU (IntKind.i64.wrap (hi * IntKind.i64.wrap (1000 - c))) 1000 * IntKind.i64.wrap (1000 - m.sc))) 1000) ∧ enL h s b (p.ss.drop (k + 1)) (IntKind.i64.wrap ((IntKind.i64.wrap (IntKind.i64.wrap ((IntKind.i64.wrap (lo * IntKind.i64.wrap (1000 - c))).tdiv 1000) * IntKind.i64.wrap (1000 - m.sc))).tdiv 1000), abvU (IntKind.i64.wrap (abvU (IntKind.i64.wrap (hi * IntKind.i64.wrap (1000 - c))) 1000 * IntKind.i64.wrap (1000 - m.sc))) 1000) = R := fun c hc => by
      rw [hf c hc]; exact ⟨hE, hS⟩
    have uu : ∀ c, r171 [P2 lo hi, I (IntKind.i64.wrap (1000 - c)), I 1000] = some ⟨P2 (IntKind.i64.wrap ((IntKind.i64.wrap (lo * IntKind.i64.wrap (1000 - c))).tdiv 1000)) (abvU (IntKind.i64.wrap (hi * IntKind.i64.wrap (1000 - c))) 1000), []⟩ ∧ r171 [P2 (IntKind.i64.wrap ((IntKind.i64.wrap (lo * IntKind.i64.wrap (1000 - c))).tdiv 1000)) (abvU (IntKind.i64.wrap (hi * IntKind.i64.wrap (1000 - c))) 1000), I (IntKind.i64.wrap (1000 - m.sc)), I 1000] = some ⟨P2 (IntKind.i64.wrap ((IntKind.i64.wrap (IntKind.i64.wrap ((IntKind.i64.wrap (lo * IntKind.i64.wrap (1000 - c))).tdiv 1000) * IntKind.i64.wrap (1000 - m.sc))).tdiv 1000)) (abvU (IntKind.i64.wrap (abvU (IntKind.i64.wrap (hi * IntKind.i64.wrap (1000 - c))) 1000 * IntKind.i64.wrap (1000 - m.sc))) 1000), []⟩ := fun c => ⟨hit171 (by omega) _ _ _, hit171 (by omega) _ _ _⟩
    clear hf hE hS he hmA hsu hsk hin
    rcases hb4 with rfl | rfl | rfl | rfl
    · obtain ⟨u1, u2⟩ := uu m.a
      obtain ⟨q1, q2⟩ := go m.a rfl
      clear uu go
      refine bs.av (sx := nos) hk ?_
      repeat' (first | refine wk3 ?_ | (refine wk2 ?_ ?_ <;> intro _) | refine wk4 ?_ | fail); all_goals (conv => whnf)
      exact Done.mk ⟨(k + 1, _, _, _), [], rfl, kps, kps, ⟨W_succ (by omega), hlt, q1, q2⟩, by dsimp only; omega⟩
    · obtain ⟨u1, u2⟩ := uu m.b
      obtain ⟨q1, q2⟩ := go m.b rfl
      clear uu go
      refine bs.av (sx := nos) hk ?_
      repeat' (first | refine wk3 ?_ | (refine wk2 ?_ ?_ <;> intro _) | refine wk4 ?_ | fail); all_goals (conv => whnf)
      exact Done.mk ⟨(k + 1, _, _, _), [], rfl, kps, kps, ⟨W_succ (by omega), hlt, q1, q2⟩, by dsimp only; omega⟩
    · obtain ⟨u1, u2⟩ := uu m.c
      obtain ⟨q1, q2⟩ := go m.c rfl
      clear uu go
      refine bs.av (sx := nos) hk ?_
      repeat' (first | refine wk3 ?_ | (refine wk2 ?_ ?_ <;> intro _) | refine wk4 ?_ | fail); all_goals (conv => whnf)
      exact Done.mk ⟨(k + 1, _, _, _), [], rfl, kps, kps, ⟨W_succ (by omega), hlt, q1, q2⟩, by dsimp only; omega⟩
    · obtain ⟨u1, u2⟩ := uu m.d
      obtain ⟨q1, q2⟩ := go m.d rfl
      clear uu go
      refine bs.av (sx := nos) hk ?_
      repeat' (first | refine wk3 ?_ | (refine wk2 ?_ ?_ <;> intro _) | refine wk4 ?_ | fail); all_goals (conv => whnf)
      exact Done.mk ⟨(k + 1, _, _, _), [], rfl, kps, kps, ⟨W_succ (by omega), hlt, q1, q2⟩, by dsimp only; omega⟩
  rw [List.drop_of_length_le (by omega), enL] at hS
  subst hS
  refine bs.av (sx := nos) hk ?_
  repeat' (first | refine wk3 ?_ | (refine wk2 ?_ ?_ <;> intro _) | refine wk4 ?_ | fail); all_goals (conv => whnf)
  clear hk1 hlt
  refine loopV (S := Nat × Int × Int × Int) (fun t => FN - t.1) (fun t => [(5, .ptr 2 0 0), (6, .ptr 3 0 0), (7, .ptr 11 0 0), (17, I (IntKind.i64.wrap (L.1.tdiv 1000000))), (75, I (abvU L.2 1000000)), (76, I t.2.1)])
    (fun t => [(11, .row 2 [[I t.2.2.1, I t.2.2.2]] true false), (3, .row 2 [[I 0, I 0]] true false), (2, .row 3 [[I b, I a, I v]] true false)]) 22 22
    (fun t => t.2.1 = t.1 ∧ t.1 ≤ FN ∧ EB t.2.2 ∧ itN (fun x => x * (1000000 - a) / 1000000) (FN - t.1) t.2.2.1 = itN (fun x => x * (1000000 - a) / 1000000) FN lo ∧ itN (fun x => (x * (1000000 - a) + 1000000 - 1) / 1000000) (NN - t.1) t.2.2.2 = itN (fun x => (x * (1000000 - a) + 1000000 - 1) / 1000000) NN hi) (0, 0, lo, hi) ⟨rfl, Nat.zero_le _, he, rfl, rfl⟩ (Nat.le_refl _) [] rfl (kps) (kps) ?_
  clear he
  rintro ⟨k, i, lo2, hi2⟩ ⟨hi1, hk1, he, hA, hB⟩
  dsimp only at hi1 hk1 he hA hB ⊢
  subst hi1
  generalize itN (fun x => x * (1000000 - a) / 1000000) FN lo = R1 at *
  generalize itN (fun x => (x * (1000000 - a) + 1000000 - 1) / 1000000) NN hi = R2 at *
  refine bs.av (sx := nos) hk ?_
  by_cases hlt : k < FN
  · obtain ⟨⟨q1, q2⟩, q3⟩ := shrA ⟨a1, a2⟩ he
    have u1 := hit171 (p := 1000000) (by omega) lo2 hi2 (IntKind.i64.wrap (1000000 - a))
    rw [show FN - k = (FN - (k + 1)) + 1 by omega, itN, ← q1] at hA
    by_cases hn : NN ≤ k
    · rw [show NN - k = NN - (k + 1) by omega] at hB
      have e2 : EB (IntKind.i64.wrap ((IntKind.i64.wrap (lo2 * IntKind.i64.wrap (1000000 - a))).tdiv 1000000), hi2) := ⟨by rw [q1]; exact q3.a, he.b⟩
      clear q1 q2 q3 he
      repeat' (first | refine wk3 ?_ | (refine wk2 ?_ ?_ <;> intro _) | refine wk4 ?_ | fail); all_goals (conv => whnf)
      exact Done.mk ⟨(k + 1, _, _, _), [], rfl, kps, kps, ⟨W_succ (by omega), hlt, e2, hA, hB⟩, by dsimp only; omega⟩
    · rw [show NN - k = (NN - (k + 1)) + 1 by omega, itN, ← q2] at hB
      have e2 : EB (IntKind.i64.wrap ((IntKind.i64.wrap (lo2 * IntKind.i64.wrap (1000000 - a))).tdiv 1000000), abvU (IntKind.i64.wrap (hi2 * IntKind.i64.wrap (1000000 - a))) 1000000) := by rw [q1, q2]; exact q3
      clear q1 q2 q3 he
      repeat' (first | refine wk3 ?_ | (refine wk2 ?_ ?_ <;> intro _) | refine wk4 ?_ | fail); all_goals (conv => whnf)
      exact Done.mk ⟨(k + 1, _, _, _), [], rfl, kps, kps, ⟨W_succ (by omega), hlt, e2, hA, hB⟩, by dsimp only; omega⟩
  · rw [show FN - k = 0 by omega, itN] at hA
    rw [show NN - k = 0 by omega, itN] at hB
    subst hA hB
    repeat' (first | refine wk3 ?_ | (refine wk2 ?_ ?_ <;> intro _) | refine wk4 ?_ | fail); all_goals (conv => whnf)
    exact ret_of rfl rfl
end Go.Proofs.YtddhjopopelkjaaGreat
