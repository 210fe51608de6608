/- A part of the proof: lemmas. -/
import Derived.Test.YtddhjopopelkjaaGreatZK1
import Derived.Test.YtddhjopopelkjaaGreatSxCut
import Derived.Test.YtddhjopopelkjaaGreatSxFzK
import Derived.Test.YtddhjopopelkjaaGreatSxFroz
import Derived.Test.YtddhjopopelkjaaGreatN7
import Derived.Test.YtddhjopopelkjaaGreatZT7a
set_option linter.unusedVariables false
set_option linter.unusedSimpArgs false
namespace Go.Proofs.YtddhjopopelkjaaGreat
open Go Go.Sx
/-! ### Copies whose materials may be changed -/
abbrev cpyM (h : Hal) : AV := .agg [.str h.nm, I h.ht, .str h.fl, .str h.ce, .asl 0 0 (h.ms.map Mat.av).length, .isl 2 (h.cs.map pt), .isl 3 (h.ws.map Wal.av), .isl 7 (h.ks.map Can.av), .isl 4 (h.ss.map Sea.av)]
theorem c22m {h : Hal} (hf : h.few) : PCall Tryz.prog 19 [h.av] ⟨cpyM h, [(6, h.ms.map Mat.av)]⟩ := by
  have hc := c22 hf
  unfold cpyV cpyB at hc
  cases hq : h.ks with
  | nil =>
    rw [hq] at hc
    refine PCall.freezeK (p0 := (6, h.ms.map Mat.av)) hc ?_
    exact ⟨⟨rfl, rfl⟩, ⟨rfl, rfl⟩, ⟨rfl, rfl⟩, ⟨rfl, rfl⟩, ⟨rfl, rfl, rfl, rfl⟩, ⟨⟨rfl, by decide⟩, rfl, rfl⟩, ⟨⟨rfl, by decide⟩, rfl, rfl⟩, by rw [hq]; rfl, ⟨⟨rfl, by decide⟩, rfl, rfl⟩, trivial⟩
  | cons c l =>
    rw [hq] at hc
    refine PCall.freezeK (p0 := (6, h.ms.map Mat.av)) hc ?_
    exact ⟨⟨rfl, rfl⟩, ⟨rfl, rfl⟩, ⟨rfl, rfl⟩, ⟨rfl, rfl⟩, ⟨rfl, rfl, rfl, rfl⟩, ⟨⟨rfl, by decide⟩, rfl, rfl⟩, ⟨⟨rfl, by decide⟩, rfl, rfl⟩, ⟨⟨by rw [hq]; rfl, by decide⟩, rfl, by rw [hq]⟩, ⟨⟨rfl, by decide⟩, rfl, rfl⟩, trivial⟩
theorem mav_inj {a b : Mat} (h : a.av = b.av) : a = b := by
  simp only [List.cons.injEq, AV.str.injEq, AV.int.injEq, true_and, and_true] at h
  obtain ⟨h1, h2, h3, h4, h5, h6⟩ := h
  cases a; cases b; simp_all
theorem wav_inj {a b : Wal} (h : a.av = b.av) : a = b := by
  simp only [List.cons.injEq, AV.str.injEq, and_true] at h
  obtain ⟨h1, h2, h3⟩ := h
  cases a; cases b; simp_all
theorem cav_inj {a b : Can} (h : a.av = b.av) : a = b := by
  simp only [List.cons.injEq, AV.str.injEq, AV.int.injEq, AV.isl.injEq, true_and, and_true] at h
  obtain ⟨h1, h2, h3, h4, h5, h6, h7⟩ := h
  have h7 := nl_inj h7
  cases a; cases b; simp_all
theorem sav_inj {a b : Sea} (h : a.av = b.av) : a = b := by
  simp only [List.cons.injEq, AV.str.injEq, AV.int.injEq, true_and, and_true] at h
  obtain ⟨h1, h2, h3, h4⟩ := h
  cases a; cases b; simp_all
theorem pt_inj {a b : Int × Int} (h : pt a = pt b) : a = b := by
  unfold pt at h
  simp only [List.cons.injEq, AV.int.injEq, true_and, and_true] at h
  exact Prod.ext h.1 h.2
theorem hal_inj {a b : Hal} (h : a.av = b.av) : a = b := by
  simp only [AV.agg.injEq, List.cons.injEq, AV.str.injEq, AV.int.injEq, AV.isl.injEq, true_and, and_true] at h
  obtain ⟨h1, h2, h3, h4, h5, h6, h7, h8, h9⟩ := h
  have h5 := List.map_inj_right (fun x y e => mav_inj e) |>.1 h5
  have h6 := List.map_inj_right (fun x y e => pt_inj e) |>.1 h6
  have h7 := List.map_inj_right (fun x y e => wav_inj e) |>.1 h7
  have h8 := List.map_inj_right (fun x y e => cav_inj e) |>.1 h8
  have h9 := List.map_inj_right (fun x y e => sav_inj e) |>.1 h9
  cases a; cases b; simp_all
/-! ### Answers with their errors -/
noncomputable def sabY (h : Hal) (s : Stg) (b a v : Int) : Int × Int := if abE h s b a v = 0 then sabX h s b v else (0, 0)
noncomputable def hitY (h : Hal) (s : Stg) (b a v : Int) : (Int × Int) × Int := if abE h s b a v = 0 then hitX h s b else ((0, 0), abE h s b a v)
noncomputable def eyrZ (h : Hal) (s : Stg) (b a v : Int) : (Int × Int) × Int := if abE h s b a v = 0 then (eyrY h s b v, (hitX h s b).2) else ((0, 0), abE h s b a v)
noncomputable abbrev R67 (s : Stg) (b a v : Int) (h : Hal) : PRes := ⟨.tup [P2 (sabY h s b a v).1 (sabY h s b a v).2, I (abE h s b a v)], []⟩
noncomputable abbrev R68 (s : Stg) (b a v : Int) (h : Hal) : PRes := ⟨.tup [P2 (hitY h s b a v).1.1 (hitY h s b a v).1.2, I (hitY h s b a v).2], []⟩
noncomputable abbrev R69 (s : Stg) (b a v : Int) (h : Hal) : PRes := ⟨.tup [P2 (eyrZ h s b a v).1.1 (eyrZ h s b a v).1.2, I (eyrZ h s b a v).2], []⟩
theorem d67a {h : Hal} (hk : h.ok) {s : Stg} (hs : s.few) (b a v : Int) : PCall Tryz.prog 67 [h.av, s.av, P3 b a v] (R67 s b a v h) := by
  unfold R67 sabY
  by_cases e : abE h s b a v = 0
  · rw [if_pos e, e]; exact d67 (rg_of hk hs e)
  · rw [if_neg e]; exact d67e hk hs e
theorem d68a {h : Hal} (hk : h.ok) {s : Stg} (hs : s.few) (b a v : Int) : PCall Tryz.prog 68 [h.av, s.av, P3 b a v] (R68 s b a v h) := by
  unfold R68 hitY
  by_cases e : abE h s b a v = 0
  · rw [if_pos e]; exact d68 (rg_of hk hs e)
  · rw [if_neg e]; exact d68e hk hs e
theorem d69a {h : Hal} (hk : h.ok) {s : Stg} (hs : s.few) (b a v : Int) : PCall Tryz.prog 69 [h.av, s.av, P3 b a v] (R69 s b a v h) := by
  unfold R69 eyrZ
  by_cases e : abE h s b a v = 0
  · rw [if_pos e]; exact d69 (rg_of hk hs e)
  · rw [if_neg e]; exact d69e hk hs e
/-- What is known of the answers in both halls. -/
inductive CuF (R S : Int × Int) (e f : Int) (N K T U : (Int × Int) × Int) : Prop
  | no (h1 : e = 11) (h2 : N = ((0, 0), 11)) (h3 : T = ((0, 0), 11))
  | big (h1 : e = 0) (h2 : f = 0) (h3 : S.1 ≤ R.1) (h4 : S.2 ≤ R.2) (h5 : R.1 ≤ R.2) (h6 : N.2 = 8) (h7 : T.2 = 8)
  | all (h1 : e = 0) (h2 : f = 0) (h3 : S.1 ≤ R.1) (h4 : S.2 ≤ R.2) (h5 : R.1 ≤ R.2) (h6 : N.2 = 0) (h7 : T.2 = 0) (h8 : K.2 = 0) (h9 : U.2 = 0)
      (h10 : 1 ≤ K.1.1) (h11 : K.1.1 ≤ N.1.1) (h12 : K.1.2 ≤ N.1.2) (h13 : N.1.1 ≤ N.1.2) (h14 : U.1.1 ≤ T.1.1) (h15 : U.1.2 ≤ T.1.2) (h16 : T.1.1 ≤ T.1.2)
theorem hitsV_err (S A : Int × Int) : (En.hitsV S A).2 = 0 ∨ (En.hitsV S A).2 = 8 := by
  unfold En.hitsV
  split
  · exact .inr rfl
  · split
    · exact .inr rfl
    · exact .inl rfl
theorem cuF_of {h : Hal} (hk : h.ok) {s : Stg} (hs : s.few) {b a v : Int} (z : serr h s = 0) (y : airE b a v = 0) {k : List Mat} (hm : moreL b h.ms k) :
    CuF (sabY h s b a v) (sabY (h.put k) s b a v) (abE h s b a v) (abE (h.put k) s b a v) (hitY h s b a v) (hitY (h.put k) s b a v) (eyrZ h s b a v) (eyrZ (h.put k) s b a v) := by
  by_cases e : abE h s b a v = 0
  rotate_left
  · have e1 : abE h s b a v = 11 := by
      have e2 : abE h s b a v = unl (decide (0 < (absA h s b).1)) 11 := by unfold abE; rw [if_neg (fun c => c z), if_neg (fun c => c y)]
      rw [e2] at e ⊢
      cases hd : decide (0 < (absA h s b).1)
      · rfl
      · rw [hd] at e; exact absurd rfl e
    refine .no e1 ?_ ?_
    · unfold hitY; rw [if_neg e, e1]
    · unfold eyrZ; rw [if_neg e, e1]
  have r := rg_of hk hs e
  have r' := rg_put hm r
  have f := (ab_of r').2
  have ha := absV_put hm r.g
  have rv := rv_of r.g b
  have rv' := rv_of r'.g b
  rw [srV_put] at rv'
  have hpos := r.pos
  obtain ⟨_, _, v1, v2⟩ := air_iff y
  obtain ⟨_, V1, V2⟩ := vol_bd r.g.fine
  obtain ⟨q1, q2, q3⟩ := En.sab_more (v := v) (V := vol2 h) (A := absV h s b) (B := absV (h.put k) s b) (by omega) (by omega) (by omega) rv.a2 rv'.a2 ha.1 ha.2
  unfold sabY hitY eyrZ
  rw [if_pos e, if_pos f, if_pos e, if_pos f, if_pos e, if_pos f]
  rcases hitsV_err (srV h) (absV h s b) with h0 | h8
  · obtain ⟨m1, ⟨m2, m3⟩, m4, m5⟩ := En.hits_more rv rv' ha.1 ha.2 h0
    have hx : hitX (h.put k) s b = En.hitsV (srV h) (absV (h.put k) s b) := by unfold hitX; rw [srV_put]
    obtain ⟨p1, p2, p3⟩ := En.eyr_more (V := vol2 h) (v := v) (S := srV h) (n := (hitX h s b).1) (m := (hitX (h.put k) s b).1) (by omega) (by omega) rv.s1 rv.s2 (by unfold hitX; omega) m5 (by rw [hx]; exact m3) (by rw [hx]; exact m4)
    have y1 : eyrY h s b v = eyrX h s b v := by unfold eyrY; rw [if_pos h0]
    have y2 : eyrY (h.put k) s b v = eyrX (h.put k) s b v := by unfold eyrY; rw [if_pos (by rw [hx]; exact m1)]
    have y3 : eyrX (h.put k) s b v = En.eyrV (vol2 h) v (srV h) (hitX (h.put k) s b).1 := by unfold eyrX; rw [srV_put]; rfl
    rw [y1, y2, y3, hx]
    rw [hx] at p1 p2
    exact .all e f q1 q2 q3 h0 h0 m1 m1 m2 m3 m4 m5 p1 p2 p3
  · exact .big e f q1 q2 q3 h8 h8
end Go.Proofs.YtddhjopopelkjaaGreat
