/- A part of the proof: lemmas. -/
import Derived.Test.YtddhjopopelkjaaGreatZK2
set_option linter.unusedVariables false
set_option linter.unusedSimpArgs false
namespace Go.Proofs.YtddhjopopelkjaaGreat
open Go Go.Sx
/-! ### The law of the curtains: behind the change -/
noncomputable def code15 : Code := match Tryz.f15.body with
  | some c => c
  | none => .skip
abbrev hvA (nm fl ce : ByteArray) (ht : Int) (CS WS KS SS : List (List AV)) (m : AV) : AV := .agg [.str nm, I ht, .str fl, .str ce, m, .isl 2 CS, .isl 3 WS, .isl 7 KS, .isl 4 SS]
abbrev svA (HS DR : List (List AV)) : AV := .agg [.isl 1 HS, .isl 1 DR]
/-- What is known of the answers. -/
inductive CuG (R1 R2 S1 S2 e f N1 N2 Ne K1 K2 Ke T1 T2 Te U1 U2 Ue : Int) : Prop
  | no (h1 : e = 11) (h2 : Ne = 11) (h3 : Te = 11)
  | big (h1 : e = 0) (h2 : f = 0) (h3 : S1 ≤ R1) (h4 : S2 ≤ R2) (h5 : R1 ≤ R2) (h6 : Ne = 8) (h7 : Te = 8)
  | all (h1 : e = 0) (h2 : f = 0) (h3 : S1 ≤ R1) (h4 : S2 ≤ R2) (h5 : R1 ≤ R2) (h6 : Ne = 0) (h7 : Te = 0) (h8 : Ke = 0) (h9 : Ue = 0)
      (h10 : 1 ≤ K1) (h11 : K1 ≤ N1) (h12 : K2 ≤ N2) (h13 : N1 ≤ N2) (h14 : U1 ≤ T1) (h15 : U2 ≤ T2) (h16 : T1 ≤ T2)
set_option maxRecDepth 100000 in
set_option maxHeartbeats 16000000 in
theorem tail15 {nm fl ce : ByteArray} {ht : Int} {CS WS KS SS HS DR M0 M : List (List AV)} {b a v R1 R2 S1 S2 e f N1 N2 Ne K1 K2 Ke T1 T2 Te U1 U2 Ue : Int} {T19 T67 T68 T69 : List AV → Option PRes}
    (hk : PCOK Tryz.prog (ins 19 T19 (ins 67 T67 (ins 68 T68 (ins 69 T69 (ins 38 rWu (ins 20 (one [svA HS DR] ⟨svA HS DR, []⟩) pt0)))))))
    (c1 : T19 [hvA nm fl ce ht CS WS KS SS (.isl 6 M0)] = some ⟨hvA nm fl ce ht CS WS KS SS (.asl 0 0 M0.length), [(6, M0)]⟩)
    (c2 : T19 [hvA nm fl ce ht CS WS KS SS (.isl 6 ((M.drop 0).take M0.length))] = some ⟨hvA nm fl ce ht CS WS KS SS (.asl 0 0 M.length), [(6, M)]⟩)
    (c3 : T67 [hvA nm fl ce ht CS WS KS SS (.isl 6 ((M0.drop 0).take M0.length)), svA HS DR, P3 b a v] = some ⟨.tup [P2 R1 R2, I e], []⟩)
    (c4 : T67 [hvA nm fl ce ht CS WS KS SS (.isl 6 ((M.drop 0).take M.length)), svA HS DR, P3 b a v] = some ⟨.tup [P2 S1 S2, I f], []⟩)
    (c5 : T68 [hvA nm fl ce ht CS WS KS SS (.isl 6 ((M0.drop 0).take M0.length)), svA HS DR, P3 b a v] = some ⟨.tup [P2 N1 N2, I Ne], []⟩)
    (c6 : T68 [hvA nm fl ce ht CS WS KS SS (.isl 6 ((M.drop 0).take M.length)), svA HS DR, P3 b a v] = some ⟨.tup [P2 K1 K2, I Ke], []⟩)
    (c7 : T69 [hvA nm fl ce ht CS WS KS SS (.isl 6 ((M0.drop 0).take M0.length)), svA HS DR, P3 b a v] = some ⟨.tup [P2 T1 T2, I Te], []⟩)
    (c8 : T69 [hvA nm fl ce ht CS WS KS SS (.isl 6 ((M.drop 0).take M.length)), svA HS DR, P3 b a v] = some ⟨.tup [P2 U1 U2, I Ue], []⟩)
    (hF : CuG R1 R2 S1 S2 e f N1 N2 Ne K1 K2 Ke T1 T2 Te U1 U2 Ue) :
    Awp Tryz.prog Tryz.f15.ntmps (dropS 6 code15) [(3, .ptr 0 0 0), (4, .ptr 1 0 0), (7, .ptr 4 0 0)]
      ⟨[(4, .row 9 [[.str nm, I ht, .str fl, .str ce, .asl 3 0 M0.length, .isl 2 CS, .isl 3 WS, .isl 7 KS, .isl 4 SS]] true false), (3, .row 6 M true true), (1, .row 3 [[I b, I a, I v]] true false),
        (0, .row 11 [[.str nm, I ht, .str fl, .str ce, .isl 6 M0, .isl 2 CS, .isl 3 WS, .isl 7 KS, .isl 4 SS, .isl 1 HS, .isl 1 DR]] true false)], 34⟩ (retQ (tget tbl) Tryz.f15.results.toList fun v σ => fA v fun v => Ret ⟨Bo true, []⟩ v σ) := by
  refine Awp.froz [3] rfl (bs.cut 1 (sx := nos) hk ?_)
  repeat' (first | refine wk3 ?_ | (refine wk2 ?_ ?_ <;> intro _) | refine wk4 ?_ | fail); all_goals (conv => whnf)
  refine Cut.go (bs.cut 1 (sx := nos) hk ?_)
  repeat' (first | refine wk3 ?_ | (refine wk2 ?_ ?_ <;> intro _) | refine wk4 ?_ | fail); all_goals (conv => whnf)
  refine Cut.go (bs.cut 1 (sx := nos) hk ?_)
  repeat' (first | refine wk3 ?_ | (refine wk2 ?_ ?_ <;> intro _) | refine wk4 ?_ | fail); all_goals (conv => whnf)
  refine Cut.of (env2 := [(3, .ptr 0 0 0), (4, .ptr 1 0 0), (7, .ptr 4 0 0), (9, .ptr 46 0 0), (10, I e), (11, .ptr 60 0 0), (12, I f), (13, .ptr 75 0 0), (14, I Ne)]) (σ2 := ⟨[(75, .row 2 [[I N1, I N2]] true false), (60, .row 2 [[I S1, I S2]] true false), (46, .row 2 [[I R1, I R2]] true false),
    (4, .row 9 [[.str nm, I ht, .str fl, .str ce, .asl 3 0 M0.length, .isl 2 CS, .isl 3 WS, .isl 7 KS, .isl 4 SS]] true false), (3, .row 6 M false true), (1, .row 3 [[I b, I a, I v]] true false),
    (0, .row 11 [[.str nm, I ht, .str fl, .str ce, .isl 6 M0, .isl 2 CS, .isl 3 WS, .isl 7 KS, .isl 4 SS, .isl 1 HS, .isl 1 DR]] true false)], 78⟩) (Ren.of [] rfl (kps) (kps)) ?_
  refine bs.cut 1 (sx := nos) hk ?_
  repeat' (first | refine wk3 ?_ | (refine wk2 ?_ ?_ <;> intro _) | refine wk4 ?_ | fail); all_goals (conv => whnf)
  refine Cut.go (bs.cut 1 (sx := nos) hk ?_)
  repeat' (first | refine wk3 ?_ | (refine wk2 ?_ ?_ <;> intro _) | refine wk4 ?_ | fail); all_goals (conv => whnf)
  refine Cut.go (bs.cut 1 (sx := nos) hk ?_)
  repeat' (first | refine wk3 ?_ | (refine wk2 ?_ ?_ <;> intro _) | refine wk4 ?_ | fail); all_goals (conv => whnf)
  refine Cut.of (env2 := [(9, .ptr 46 0 0), (10, I e), (11, .ptr 60 0 0), (12, I f), (13, .ptr 75 0 0), (14, I Ne), (15, .ptr 89 0 0), (16, I Ke), (17, .ptr 104 0 0), (18, I Te), (19, .ptr 118 0 0), (20, I Ue)]) (σ2 := ⟨[(118, .row 2 [[I U1, I U2]] true false), (104, .row 2 [[I T1, I T2]] true false), (89, .row 2 [[I K1, I K2]] true false),
    (75, .row 2 [[I N1, I N2]] true false), (60, .row 2 [[I S1, I S2]] true false), (46, .row 2 [[I R1, I R2]] true false)], 121⟩) (Ren.of [] rfl (kps) (kps)) ?_
  clear c1 c2 c3 c4 c5 c6 c7 c8
  cases hF with
  | no p1 p2 p3 =>
    subst p1 p2 p3
    refine bs.av (sx := nos) hk ?_
    repeat' (first | refine wk3 ?_ | (refine wk2 ?_ ?_ <;> intro _) | refine wk4 ?_ | fail); all_goals (conv => whnf)
    all_goals exact ret_bool rfl
  | big p1 p2 p3 p4 p5 p6 p7 =>
    subst p1 p2 p6 p7
    refine bs.av (sx := nos) hk ?_
    repeat' (first | refine wk3 ?_ | (refine wk2 ?_ ?_ <;> intro _) | refine wk4 ?_ | fail); all_goals (conv => whnf)
    all_goals exact ret_bool rfl
  | all p1 p2 p3 p4 p5 p6 p7 p8 p9 p10 p11 p12 p13 p14 p15 p16 =>
    subst p1 p2 p6 p7 p8 p9
    have hw : within K1 1 N1 = true := within_iff.2 ⟨p10, p11⟩
    refine bs.av (sx := nos) hk ?_
    repeat' (first | refine wk3 ?_ | (refine wk2 ?_ ?_ <;> intro _) | refine wk4 ?_ | fail); all_goals (conv => whnf)
    all_goals first
      | exact ret_bool rfl
      | (refine ret_bool ?_; simp_all; done)
      | (exfalso; simp_all; done)
      | (refine ret_bool ?_; simp_all; omega)
      | (exfalso; simp_all; omega)
end Go.Proofs.YtddhjopopelkjaaGreat
