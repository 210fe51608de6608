/- A part of the proof: lemmas. -/
import Derived.Test.YtdaliaafmcjikaaGreatZw8
set_option linter.unusedVariables false
set_option linter.unusedSimpArgs false
namespace Go.Proofs.YtdaliaafmcjikaaGreat
open Go Go.Sx

/-! ### Contracts: the reference's plane geometry -/
/-- A line: where it begins, and the way along it. -/
structure Ln where
  x : Int
  y : Int
  dx : Int
  dy : Int
abbrev Ln.av (l : Ln) : AV := .agg [I l.x, I l.y, I l.dx, I l.dy]
/-- A point. -/
structure Pt where
  x : Int
  y : Int
  z : Int
  d : Int
abbrev Pt.av (p : Pt) : AV := .agg [I p.x, I p.y, I p.z, I p.d]
def Ln.n (l : Ln) : Int := imax (size l.dx) (size l.dy)
def Ln.sx (l : Ln) : Int := IntKind.i64.wrap (Int.tdiv l.dx l.n)
def Ln.sy (l : Ln) : Int := IntKind.i64.wrap (Int.tdiv l.dy l.n)
theorem c125 (n : Int) : PCall Tryz.prog 140 [I n] ⟨I (size n), []⟩ := by
  refine bs.pv (sx := nos) pt0_ok Tryz.func140 (by kernel_rfl) (by kernel_rfl) rfl ?_
  repeat' (first | refine wk0 ?_ | (refine wk2 ?_ ?_ <;> intro _) | refine wk4 ?_ | fail); all_goals (conv => whnf)
  exact ret_int rfl
theorem c119 (n : Int) : PCall Tryz.prog 128 [I n] ⟨I (sgn n), []⟩ := by
  refine bs.pv (sx := nos) pt0_ok Tryz.func128 (by kernel_rfl) (by kernel_rfl) rfl ?_
  repeat' (first | refine wk0 ?_ | (refine wk2 ?_ ?_ <;> intro _) | refine wk4 ?_ | fail); all_goals (conv => whnf)
  all_goals exact ret_int (by simp_all [sgn] <;> omega)
theorem c163 (n : Int) : PCall Tryz.prog 180 [I n] ⟨Bo (within n (-5000) 5000), []⟩ := by
  refine bs.pv (sx := nos) k93_ok Tryz.func180 (by kernel_rfl) (by kernel_rfl) rfl ?_
  repeat' (first | refine wk0 ?_ | (refine wk2 ?_ ?_ <;> intro _) | refine wk4 ?_ | fail); all_goals (conv => whnf)
  exact ret_bool rfl
theorem c162 (a b c : Int) : PCall Tryz.prog 178 [I a, I b, I c] ⟨.tup [P2 a b, I c], []⟩ := by
  refine bs.pv (sx := nos) k93_ok Tryz.func178 (by kernel_rfl) (by kernel_rfl) rfl ?_
  repeat' (first | refine wk0 ?_ | (refine wk2 ?_ ?_ <;> intro _) | refine wk4 ?_ | fail); all_goals (conv => whnf)
  exact ret_of rfl rfl
theorem c201 (x y : Int) : PCall Tryz.prog 268 [P2 x y] ⟨P4 x y 0 1, []⟩ := by
  refine bs.pv (sx := nos) k93_ok Tryz.func268 (by kernel_rfl) (by kernel_rfl) rfl ?_
  repeat' (first | refine wk0 ?_ | (refine wk2 ?_ ?_ <;> intro _) | refine wk4 ?_ | fail); all_goals (conv => whnf)
  exact ret_of rfl rfl
def rS1 : List AV → Option PRes
  | [.int .i64 n] => some ⟨I (size n), []⟩
  | _ => none
def rS2 : List AV → Option PRes
  | [.int .i64 n] => some ⟨I (sgn n), []⟩
  | _ => none
def r163 : List AV → Option PRes
  | [.int .i64 n] => some ⟨Bo (within n (-5000) 5000), []⟩
  | _ => none
def r162 : List AV → Option PRes
  | [.int .i64 a, .int .i64 b, .int .i64 c] => some ⟨.tup [P2 a b, I c], []⟩
  | _ => none
def r201 : List AV → Option PRes
  | [.agg [.int .i64 x, .int .i64 y]] => some ⟨P4 x y 0 1, []⟩
  | _ => none
def r36R : List AV → Option PRes
  | [.agg [.int .i64 x, .int .i64 y, .int .i64 z]] => some ⟨P4 x y z 1, []⟩
  | _ => none
def kR1 : PC := ins 140 rS1 (ins 128 rS2 (ins 180 r163 (ins 178 r162 (ins 268 r201 (ins 70 r36R k93)))))
theorem kR1_ok : PCOK Tryz.prog kR1 := by
  refine ins_ok (fun a res h => ?_) (ins_ok (fun a res h => ?_) (ins_ok (fun a res h => ?_) (ins_ok (fun a res h => ?_) (ins_ok (fun a res h => ?_) (ins_ok (fun a res h => ?_) k93_ok)))))
  · unfold rS1 at h; split at h <;> cases h; exact c125 _
  · unfold rS2 at h; split at h <;> cases h; exact c119 _
  · unfold r163 at h; split at h <;> cases h; exact c163 _
  · unfold r162 at h; split at h <;> cases h; exact c162 _ _ _
  · unfold r201 at h; split at h <;> cases h; exact c201 _ _
  · unfold r36R at h; split at h <;> cases h; exact c36 _ _ _

set_option maxRecDepth 100000 in
theorem c212 (l : Ln) (hn : l.n ≠ 0) : PCall Tryz.prog 269 [l.av] ⟨.tup [I l.n, I l.sx, I l.sy], []⟩ := by
  have hn' : ¬ imax (size l.dx) (size l.dy) = 0 := hn
  refine bs.pv (sx := nos) kR1_ok Tryz.func269 (by kernel_rfl) (by kernel_rfl) rfl ?_
  repeat' (first | refine wk1 ?_ | (refine wk2 ?_ ?_ <;> intro _) | refine wk4 ?_ | fail); all_goals (conv => whnf)
  exact ret_of rfl rfl
def lnAt (x y dx dy : Int) : Ln := ⟨x, y, dx, dy⟩
def r212 : List AV → Option PRes
  | [.agg [.int .i64 x, .int .i64 y, .int .i64 dx, .int .i64 dy]] => asr (decide ((Ln.mk x y dx dy).n ≠ 0)) ⟨.tup [I (Ln.mk x y dx dy).n, I (Ln.mk x y dx dy).sx, I (Ln.mk x y dx dy).sy], []⟩
  | _ => none
def kR2 : PC := ins 269 r212 kR1
theorem kR2_ok : PCOK Tryz.prog kR2 := by
  refine ins_ok (fun a res h => ?_) kR1_ok
  unfold r212 at h; split at h
  · obtain ⟨h1, rfl⟩ := asr_some h; exact c212 ⟨_, _, _, _⟩ (of_decide_eq_true h1)
  · cases h
def Ln.beside (l : Ln) (p : Pt) : Int := IntKind.i64.wrap (IntKind.i64.wrap (l.sx * IntKind.i64.wrap (p.y - IntKind.i64.wrap (l.y * p.d))) - IntKind.i64.wrap (l.sy * IntKind.i64.wrap (p.x - IntKind.i64.wrap (l.x * p.d))))
def Ln.along (l : Ln) (p : Pt) : Int := IntKind.i64.wrap (IntKind.i64.wrap (l.sx * IntKind.i64.wrap (p.x - IntKind.i64.wrap (l.x * p.d))) + IntKind.i64.wrap (l.sy * IntKind.i64.wrap (p.y - IntKind.i64.wrap (l.y * p.d))))
def Ln.full (l : Ln) : Int := IntKind.i64.wrap (l.n * IntKind.i64.wrap (IntKind.i64.wrap (l.sx * l.sx) + IntKind.i64.wrap (l.sy * l.sy)))
set_option maxRecDepth 100000 in
theorem c185 (l : Ln) (p : Pt) (hn : l.n ≠ 0) : PCall Tryz.prog 189 [l.av, p.av] ⟨I (l.beside p), []⟩ := by
  obtain ⟨x, y, dx, dy⟩ := l
  have ha := asr_of (res := ⟨.tup [I (Ln.mk x y dx dy).n, I (Ln.mk x y dx dy).sx, I (Ln.mk x y dx dy).sy], []⟩) hn
  refine bs.pv (sx := nos) kR2_ok Tryz.func189 (by kernel_rfl) (by kernel_rfl) rfl ?_
  repeat' (first | refine wk0 ?_ | (refine wk2 ?_ ?_ <;> intro _) | refine wk4 ?_ | fail); all_goals (conv => whnf)
  exact ret_int rfl
set_option maxRecDepth 100000 in
theorem c186 (l : Ln) (p : Pt) (hn : l.n ≠ 0) : PCall Tryz.prog 187 [l.av, p.av] ⟨I (l.along p), []⟩ := by
  obtain ⟨x, y, dx, dy⟩ := l
  have ha := asr_of (res := ⟨.tup [I (Ln.mk x y dx dy).n, I (Ln.mk x y dx dy).sx, I (Ln.mk x y dx dy).sy], []⟩) hn
  refine bs.pv (sx := nos) kR2_ok Tryz.func187 (by kernel_rfl) (by kernel_rfl) rfl ?_
  repeat' (first | refine wk0 ?_ | (refine wk2 ?_ ?_ <;> intro _) | refine wk4 ?_ | fail); all_goals (conv => whnf)
  exact ret_int rfl
set_option maxRecDepth 100000 in
theorem c188 (l : Ln) (hn : l.n ≠ 0) : PCall Tryz.prog 188 [l.av] ⟨I l.full, []⟩ := by
  obtain ⟨x, y, dx, dy⟩ := l
  have ha := asr_of (res := ⟨.tup [I (Ln.mk x y dx dy).n, I (Ln.mk x y dx dy).sx, I (Ln.mk x y dx dy).sy], []⟩) hn
  refine bs.pv (sx := nos) kR2_ok Tryz.func188 (by kernel_rfl) (by kernel_rfl) rfl ?_
  repeat' (first | refine wk0 ?_ | (refine wk2 ?_ ?_ <;> intro _) | refine wk4 ?_ | fail); all_goals (conv => whnf)
  exact ret_int rfl
def r185 : List AV → Option PRes
  | [.agg [.int .i64 x, .int .i64 y, .int .i64 dx, .int .i64 dy], .agg [.int .i64 a, .int .i64 b, .int .i64 c, .int .i64 d]] => asr (decide ((Ln.mk x y dx dy).n ≠ 0)) ⟨I ((Ln.mk x y dx dy).beside ⟨a, b, c, d⟩), []⟩
  | _ => none
def r186 : List AV → Option PRes
  | [.agg [.int .i64 x, .int .i64 y, .int .i64 dx, .int .i64 dy], .agg [.int .i64 a, .int .i64 b, .int .i64 c, .int .i64 d]] => asr (decide ((Ln.mk x y dx dy).n ≠ 0)) ⟨I ((Ln.mk x y dx dy).along ⟨a, b, c, d⟩), []⟩
  | _ => none
def r188 : List AV → Option PRes
  | [.agg [.int .i64 x, .int .i64 y, .int .i64 dx, .int .i64 dy]] => asr (decide ((Ln.mk x y dx dy).n ≠ 0)) ⟨I (Ln.mk x y dx dy).full, []⟩
  | _ => none
def kR3 : PC := ins 189 r185 (ins 187 r186 (ins 188 r188 kR2))
theorem kR3_ok : PCOK Tryz.prog kR3 := by
  refine ins_ok (fun a res h => ?_) (ins_ok (fun a res h => ?_) (ins_ok (fun a res h => ?_) kR2_ok))
  · unfold r185 at h; split at h
    · obtain ⟨h1, rfl⟩ := asr_some h; exact c185 ⟨_, _, _, _⟩ ⟨_, _, _, _⟩ (of_decide_eq_true h1)
    · cases h
  · unfold r186 at h; split at h
    · obtain ⟨h1, rfl⟩ := asr_some h; exact c186 ⟨_, _, _, _⟩ ⟨_, _, _, _⟩ (of_decide_eq_true h1)
    · cases h
  · unfold r188 at h; split at h
    · obtain ⟨h1, rfl⟩ := asr_some h; exact c188 ⟨_, _, _, _⟩ (of_decide_eq_true h1)
    · cases h

def Ln.has (l : Ln) (p : Pt) : Bool := decide (l.beside p = 0) && within (l.along p) 0 (IntKind.i64.wrap (l.full * p.d))
set_option maxRecDepth 100000 in
set_option maxHeartbeats 1000000 in
theorem c189 (l : Ln) (p : Pt) (hn : l.n ≠ 0) : PCall Tryz.prog 191 [l.av, p.av] ⟨Bo (l.has p), []⟩ := by
  obtain ⟨x, y, dx, dy⟩ := l
  obtain ⟨a, b, c, d⟩ := p
  refine bs.pv (sx := nos) kR3_ok Tryz.func191 (by kernel_rfl) (by kernel_rfl) rfl ?_
  repeat' (first | refine wk0 ?_ | (refine wk2 ?_ ?_ <;> intro _) | refine wk4 ?_ | fail); all_goals (conv => whnf)
  all_goals exact ret_bool (by clear hn; simp_all [Ln.has])
def Ln.a (l : Ln) : Pt := ⟨l.x, l.y, 0, 1⟩
def Ln.b (l : Ln) : Pt := ⟨IntKind.i64.wrap (l.x + l.dx), IntKind.i64.wrap (l.y + l.dy), 0, 1⟩
set_option maxRecDepth 100000 in
theorem c199 (l : Ln) : PCall Tryz.prog 266 [l.av] ⟨.tup [l.a.av, l.b.av], []⟩ := by
  refine bs.pv (sx := nos) kR3_ok Tryz.func266 (by kernel_rfl) (by kernel_rfl) rfl ?_
  repeat' (first | refine wk0 ?_ | (refine wk2 ?_ ?_ <;> intro _) | refine wk4 ?_ | fail); all_goals (conv => whnf)
  exact ret_of rfl rfl
def r189 : List AV → Option PRes
  | [.agg [.int .i64 x, .int .i64 y, .int .i64 dx, .int .i64 dy], .agg [.int .i64 a, .int .i64 b, .int .i64 c, .int .i64 d]] => asr (decide ((Ln.mk x y dx dy).n ≠ 0)) ⟨Bo ((Ln.mk x y dx dy).has ⟨a, b, c, d⟩), []⟩
  | _ => none
def r199 : List AV → Option PRes
  | [.agg [.int .i64 x, .int .i64 y, .int .i64 dx, .int .i64 dy]] => some ⟨.tup [P4 x y 0 1, P4 (IntKind.i64.wrap (x + dx)) (IntKind.i64.wrap (y + dy)) 0 1], []⟩
  | _ => none
def kR4 : PC := ins 191 r189 (ins 266 r199 kR3)
theorem kR4_ok : PCOK Tryz.prog kR4 := by
  refine ins_ok (fun a res h => ?_) (ins_ok (fun a res h => ?_) kR3_ok)
  · unfold r189 at h; split at h
    · obtain ⟨h1, rfl⟩ := asr_some h; exact c189 ⟨_, _, _, _⟩ ⟨_, _, _, _⟩ (of_decide_eq_true h1)
    · cases h
  · unfold r199 at h; split at h <;> cases h; exact c199 ⟨_, _, _, _⟩
def Ln.touch (l m : Ln) : Bool :=
  (l.has m.a || l.has m.b || m.has l.a || m.has l.b) || (decide (IntKind.i64.wrap (sgn (l.beside m.a) * sgn (l.beside m.b)) < 0) && decide (IntKind.i64.wrap (sgn (m.beside l.a) * sgn (m.beside l.b)) < 0))
set_option maxRecDepth 100000 in
set_option maxHeartbeats 4000000 in
theorem c198 (l m : Ln) (hn : l.n ≠ 0) (hm : m.n ≠ 0) : PCall Tryz.prog 265 [l.av, m.av] ⟨Bo (l.touch m), []⟩ := by
  obtain ⟨x, y, dx, dy⟩ := l
  obtain ⟨u, v, du, dv⟩ := m
  refine bs.pv (sx := nos) kR4_ok Tryz.func265 (by kernel_rfl) (by kernel_rfl) rfl ?_
  repeat' (first | refine wk0 ?_ | (refine wk2 ?_ ?_ <;> intro _) | refine wk4 ?_ | fail); all_goals (conv => whnf)
  all_goals exact ret_bool (by clear hn hm; simp_all [Ln.touch, Ln.a, Ln.b] <;> first | rfl | (intro hx; exact absurd (of_decide_eq_true hx) (by omega)))
def edge1 (c : Can) : Ln := ⟨c.fx, c.fy, IntKind.i64.wrap (c.tx - c.fx), 0⟩
def edge2 (c : Can) : Ln := ⟨c.tx, c.fy, 0, IntKind.i64.wrap (c.ty - c.fy)⟩
def edge3 (c : Can) : Ln := ⟨c.tx, c.ty, IntKind.i64.wrap (0 - IntKind.i64.wrap (c.tx - c.fx)), 0⟩
def edge4 (c : Can) : Ln := ⟨c.fx, c.ty, 0, IntKind.i64.wrap (0 - IntKind.i64.wrap (c.ty - c.fy))⟩
set_option maxRecDepth 100000 in
set_option maxHeartbeats 4000000 in
theorem c200 (c : Can) : PCall Tryz.prog 267 [.agg c.av] ⟨.agg [I (edge1 c).x, I (edge1 c).y, I (edge1 c).dx, I (edge1 c).dy, I (edge2 c).x, I (edge2 c).y, I (edge2 c).dx, I (edge2 c).dy, I (edge3 c).x, I (edge3 c).y, I (edge3 c).dx, I (edge3 c).dy, I (edge4 c).x, I (edge4 c).y, I (edge4 c).dx, I (edge4 c).dy], []⟩ := by
  refine bs.pv (sx := nos) kR4_ok Tryz.func267 (by kernel_rfl) (by kernel_rfl) rfl ?_
  repeat' (first | refine wk0 ?_ | (refine wk2 ?_ ?_ <;> intro _) | refine wk4 ?_ | fail); all_goals (conv => whnf)
  exact ret_of rfl rfl
def inBnd (c : Can) (p : Pt) : Bool := within p.x (IntKind.i64.wrap (imin c.fx c.tx * p.d)) (IntKind.i64.wrap (imax c.fx c.tx * p.d)) && within p.y (IntKind.i64.wrap (imin c.fy c.ty * p.d)) (IntKind.i64.wrap (imax c.fy c.ty * p.d))
set_option maxRecDepth 100000 in
set_option maxHeartbeats 4000000 in
theorem c191 (c : Can) (p : Pt) : PCall Tryz.prog 193 [.agg c.av, p.av] ⟨Bo (inBnd c p), []⟩ := by
  refine bs.pv (sx := nos) kR4_ok Tryz.func193 (by kernel_rfl) (by kernel_rfl) rfl ?_
  repeat' (first | refine wk0 ?_ | (refine wk2 ?_ ?_ <;> intro _) | refine wk4 ?_ | fail); all_goals (conv => whnf)
  all_goals exact ret_bool (by simp_all [inBnd])
/-- The line of a wall. -/
def lnOf (cs : List (Int × Int)) (i : Nat) : Ln := ⟨(cor cs i).1, (cor cs i).2, IntKind.i64.wrap ((cor cs ((i + 1) % cs.length)).1 - (cor cs i).1), IntKind.i64.wrap ((cor cs ((i + 1) % cs.length)).2 - (cor cs i).2)⟩
set_option maxRecDepth 100000 in
set_option maxHeartbeats 4000000 in
theorem c105 {h : Hal} (hf : h.few) {k : Nat} (hk : k < h.cs.length) : PCall Tryz.prog 76 [h.av, I k] ⟨(lnOf h.cs k).av, []⟩ := by
  have e1 := es_get hk
  have e2 := es_get (ps := h.cs) (i := (k + 1) % h.cs.length) (Nat.mod_lt _ (by omega))
  have e3 : (h.cs.map pt).length = h.cs.length := by simp
  have hl := hf.2.1
  have hw : IntKind.i64.wrap ((k : Int) + 1) = ((k + 1 : Nat) : Int) := IntWalk.i64_in _ ⟨by omega, by omega⟩
  have hm : (IntKind.i64.wrap ((k : Int) + 1)).tmod ((h.cs.map pt).length : Int) = (((k + 1) % h.cs.length : Nat) : Int) := by rw [hw, e3]; rfl
  have e4 : (h.cs.map pt)[((k : Nat) : Int).toNat]? = some [I (cor h.cs k).1, I (cor h.cs k).2] := by simpa using e1
  have e5 : (h.cs.map pt)[((IntKind.i64.wrap ((k : Int) + 1)).tmod ((h.cs.map pt).length : Int)).toNat]? = some [I (cor h.cs ((k + 1) % h.cs.length)).1, I (cor h.cs ((k + 1) % h.cs.length)).2] := by rw [hm, Int.toNat_natCast]; exact e2
  refine bs.pv (sx := nos) kR4_ok Tryz.func76 (by kernel_rfl) (by kernel_rfl) rfl ?_
  repeat' (first | refine wk1 ?_ | (refine wk2 ?_ ?_ <;> intro _) | refine wk4 ?_ | fail); all_goals (conv => whnf)
  exact ret_of rfl rfl
end Go.Proofs.YtdaliaafmcjikaaGreat
namespace Go.Proofs.YtdaliaafmcjikaaGreat
open Go Go.Sx

theorem beq_ba (a b : ByteArray) : (a == b) = decide (a = b) := by
  rw [Bool.eq_iff_iff]
  obtain ⟨a⟩ := a
  obtain ⟨b⟩ := b
  have : ((⟨a⟩ : ByteArray) == ⟨b⟩) = (a == b) := rfl
  rw [this]
  simp

/-! ### The reference: names, materials -/
def matIx (s : ByteArray) : Nat → List Mat → Int
  | _, [] => -1
  | i, m :: l => if m.nm == s then i else matIx s (i + 1) l
set_option maxRecDepth 100000 in
theorem c128 {h : Hal} (hf : h.few) (s : ByteArray) : PCall Tryz.prog 179 [h.av, .str s] ⟨I (matIx s 0 h.ms), []⟩ := by
  refine bs.pv (sx := nos) kR4_ok Tryz.func179 (by kernel_rfl) (by kernel_rfl) rfl ?_
  refine loopV (S := Nat × Int) (fun t => h.ms.length - t.1) (fun t => [(2, .ptr 0 0 0), (1, .str s), (5, I t.2)]) (fun _ => [(0, .row 9 [h.cells] true false)]) 1 1 (fun t => t.2 = t.1 ∧ t.1 ≤ h.ms.length ∧ matIx s t.1 (h.ms.drop t.1) = matIx s 0 h.ms) (0, 0) ⟨rfl, Nat.zero_le _, rfl⟩ (Nat.le_refl _) [] rfl (kps) (kps) ?_
  rintro ⟨k, i⟩ ⟨hi, hk, hh⟩
  dsimp only at hi hk hh ⊢
  subst hi
  refine bs.av (sx := nos) kR4_ok ?_
  have e3 := mt_length h.ms
  by_cases hlt : k < h.ms.length
  · have e1 := mt_get hlt
    rw [List.drop_eq_getElem_cons hlt, matIx] at hh
    cases hb : (h.ms[k].nm == s) with
    | true =>
      rw [hb, if_pos rfl] at hh
      repeat' (first | refine wk1 ?_ | (refine wk2 ?_ ?_ <;> intro _) | refine wk4 ?_ | fail); all_goals (conv => whnf)
      · exact ret_int hh
      · rename_i hx; rw [hb] at hx; cases hx
    | false =>
      rw [hb, if_neg (by simp)] at hh
      repeat' (first | refine wk1 ?_ | (refine wk2 ?_ ?_ <;> intro _) | refine wk4 ?_ | fail); all_goals (conv => whnf)
      · rename_i hx; rw [hb] at hx; cases hx
      · exact Done.mk ⟨(k + 1, _), [], rfl, kps, kps, ⟨W_succ (by have := hf.1; omega), hlt, hh⟩, by dsimp only; omega⟩
  · rw [List.drop_of_length_le (by omega)] at hh
    repeat' (first | refine wk1 ?_ | (refine wk2 ?_ ?_ <;> intro _) | refine wk4 ?_ | fail); all_goals (conv => whnf)
    exact ret_int hh

def isNameR (s : ByteArray) : Bool := decide (1 ≤ (s.size : Int)) && (decide ((s.size : Int) ≤ 12) && nameGo true s.data.toList)
set_option maxRecDepth 100000 in
set_option maxHeartbeats 4000000 in
theorem c161 {s : ByteArray} (hs : s.data.toList.length < 100000) : PCall Tryz.prog 177 [.str s] ⟨Bo (isNameR s), []⟩ := by
  have hz : s.size = s.data.toList.length := by simp
  refine bs.pv (sx := nos) pt0_ok Tryz.func177 (by kernel_rfl) (by kernel_rfl) rfl ?_
  repeat' (first | refine wk0 ?_ | (refine wk2 ?_ ?_ <;> intro _) | refine wk4 ?_ | fail); all_goals (conv => whnf)
  · rename_i hx
    have hx := of_decide_eq_true hx
    exact ret_bool (by rw [isNameR, decide_eq_false (by omega)]; rfl)
  · exact ret_bool (by clear hz hs; simp_all [isNameR] <;> omega)
  · rename_i hb1 hb2
    have hb : isNameR s = nameGo true s.data.toList := by clear hz; simp_all [isNameR]
    rw [hb]
    refine loopV (S := Nat × Int) (fun t => s.data.toList.length - t.1) (fun t => [(0, .str s), (3, I t.2)]) (fun _ => []) 0 0 (fun t => t.2 = t.1 ∧ t.1 ≤ s.data.toList.length ∧ nameGo (decide (t.1 = 0)) (s.data.toList.drop t.1) = nameGo true s.data.toList) (0, 0) ⟨rfl, Nat.zero_le _, rfl⟩ (Nat.le_refl _) [] rfl (kps) (kps) ?_
    rintro ⟨k, i⟩ ⟨hi, hk, hh⟩
    dsimp only at hi hk hh ⊢
    subst hi
    clear hb1 hb2 hb
    have hk9 : k < 9000000000 := by omega
    refine bs.av (sx := nos) pt0_ok ?_
    by_cases hlt : k < s.data.toList.length
    · have e1 : s.data.toList[((k : Nat) : Int).toNat]? = some s.data.toList[k] := by simp only [Int.toNat_natCast]; exact List.getElem?_eq_getElem hlt
      rw [List.drop_eq_getElem_cons hlt, nameGo_cons] at hh
      generalize s.data.toList[k] = c0 at *
      repeat' (first | refine wk1 ?_ | (refine wk2 ?_ ?_ <;> intro _) | refine wk4 ?_ | fail); all_goals (conv => whnf)
      all_goals (clear e1)
      all_goals (generalize c0.toNat = c at *)
      all_goals (clear hz hs)
      all_goals first
        | exact ret_bool (by
            have hg : goodB (decide (k = 0)) c = false := by clear hh; simp_all [goodB, letterB] <;> omega
            rw [hg, Bool.false_and] at hh
            exact hh)
        | exact Done.mk ⟨(k + 1, _), [], rfl, kps, trivial, ⟨W_succ hk9, hlt, by
            have hg : goodB (decide (k = 0)) c = true := by clear hh; simp_all [goodB, letterB] <;> omega
            rw [hg, Bool.true_and] at hh
            exact hh⟩, by dsimp only; omega⟩
    · rw [List.drop_of_length_le (by omega)] at hh
      repeat' (first | refine wk1 ?_ | (refine wk2 ?_ ?_ <;> intro _) | refine wk4 ?_ | fail); all_goals (conv => whnf)
      exact ret_bool hh
theorem isNameR_eq (s : ByteArray) : isNameR s = isName s := by
  unfold isNameR isName
  have h1 : (s == ⟨#[]⟩) = decide (s.size = 0) := by
    rw [beq_ba, Bool.eq_iff_iff]
    simp only [decide_eq_true_eq]
    constructor
    · rintro rfl; rfl
    · intro h0
      obtain ⟨d⟩ := s
      have : d = #[] := by simpa [ByteArray.size] using h0
      rw [this]
  rw [h1]
  have h2 : decide (1 ≤ (s.size : Int)) = !decide (s.size = 0) := by
    rw [Bool.eq_iff_iff]; simp only [decide_eq_true_eq, Bool.not_eq_true', decide_eq_false_iff_not]; omega
  rw [h2]
  cases nameGo true s.data.toList <;> cases decide (s.size = 0) <;> simp
end Go.Proofs.YtdaliaafmcjikaaGreat
namespace Go.Proofs.YtdaliaafmcjikaaGreat
open Go Go.Sx

/-! ### A family of contracts -/
noncomputable def fam (g : Nat → List AV) (r : Nat → PRes) (n : Nat) (a : List AV) : Option PRes := by
  classical exact if hx : ∃ k, k < n ∧ a = g k then some (r (Classical.choose hx)) else none
theorem fam_hit {g : Nat → List AV} {r : Nat → PRes} {n k : Nat} (hi : ∀ j, g j = g k → r j = r k) (hk : k < n) : fam g r n (g k) = some (r k) := by
  classical
  unfold fam
  have hx : ∃ j, j < n ∧ g k = g j := ⟨k, hk, rfl⟩
  rw [dif_pos hx, hi _ (Classical.choose_spec hx).2.symm]
theorem fam_ok {f0 : FuncId} {g : Nat → List AV} {r : Nat → PRes} {n : Nat} {pt : PC} (h0 : ∀ k, k < n → PCall Tryz.prog f0 (g k) (r k)) (h : PCOK Tryz.prog pt) : PCOK Tryz.prog (ins f0 (fam g r n) pt) := by
  classical
  refine ins_ok (fun a res hr => ?_) h
  unfold fam at hr
  split at hr
  · rename_i hx
    obtain ⟨h1, h2⟩ := Classical.choose_spec hx
    cases hr
    have := h0 _ h1
    rw [← h2] at this
    exact this
  · cases hr
noncomputable abbrev lines (h : Hal) : List AV → Option PRes := fam (fun k => [h.av, I (k : Int)]) (fun k => ⟨(lnOf h.cs k).av, []⟩) h.cs.length
theorem lines_hit {h : Hal} {k : Nat} (hk : k < h.cs.length) : lines h [h.av, I (k : Int)] = some ⟨(lnOf h.cs k).av, []⟩ :=
  fam_hit (g := fun k => [h.av, I (k : Int)]) (r := fun k => ⟨(lnOf h.cs k).av, []⟩) (fun j hj => by
    simp only [List.cons.injEq, AV.int.injEq, Int.natCast_inj, true_and, and_true] at hj
    rw [hj]) hk
noncomputable def kR5 (h : Hal) : PC := ins 76 (lines h) kR4
theorem kR5_ok {h : Hal} (hf : h.few) : PCOK Tryz.prog (kR5 h) := fam_ok (fun k hk => c105 hf hk) kR4_ok

/-! ### The reference: area, inside -/
def area2R (n : Int) (w : Wl) : Int := IntKind.i64.wrap (IntKind.i64.wrap (n + IntKind.i64.wrap (w.fx * w.ty)) - IntKind.i64.wrap (w.tx * w.fy))
def twAreaR (cs : List (Int × Int)) : Int := (wls cs).foldl area2R 0
theorem wls_length (cs : List (Int × Int)) : (wls cs).length = cs.length := by simp [wls]
theorem wls_get {cs : List (Int × Int)} {k : Nat} (h : k < cs.length) : (wls cs)[k]'(by rw [wls_length]; exact h) = wlOf cs k := by simp [wls]
theorem wls_drop {cs : List (Int × Int)} {k : Nat} (h : k < cs.length) : (wls cs).drop k = wlOf cs k :: (wls cs).drop (k + 1) := by
  rw [List.drop_eq_getElem_cons (by rw [wls_length]; exact h), wls_get h]
set_option maxRecDepth 100000 in
set_option maxHeartbeats 4000000 in
theorem c46 {h : Hal} (hf : h.few) : PCall Tryz.prog 183 [h.av] ⟨I (twAreaR h.cs), []⟩ := by
  refine bs.pv (sx := nos) kR4_ok Tryz.func183 (by kernel_rfl) (by kernel_rfl) rfl ?_
  refine loopV (S := Nat × Int × Int) (fun t => h.cs.length - t.1) (fun t => [(1, .ptr 0 0 0), (3, I t.2.2), (4, I t.2.1)]) (fun _ => [(0, .row 9 [h.cells] true false)]) 1 1 (fun t => t.2.1 = t.1 ∧ t.1 ≤ h.cs.length ∧ ((wls h.cs).drop t.1).foldl area2R t.2.2 = twAreaR h.cs) (0, 0, 0) ⟨rfl, Nat.zero_le _, rfl⟩ (Nat.le_refl _) [] rfl (kps) (kps) ?_
  rintro ⟨k, i, n⟩ ⟨hi, hk, hh⟩
  dsimp only at hi hk hh ⊢
  subst hi
  refine bs.av (sx := nos) kR4_ok ?_
  have e3 := co_length h.cs
  have hl := hf.2.1
  by_cases hlt : k < h.cs.length
  · rw [wls_drop hlt, List.foldl_cons] at hh
    have e1 := es_get hlt
    have e2 := es_get (ps := h.cs) (i := (k + 1) % h.cs.length) (Nat.mod_lt _ (by omega))
    have hw : IntKind.i64.wrap ((k : Int) + 1) = ((k + 1 : Nat) : Int) := IntWalk.i64_in _ ⟨by omega, by omega⟩
    have hm : (IntKind.i64.wrap ((k : Int) + 1)).tmod ((h.cs.map pt).length : Int) = (((k + 1) % h.cs.length : Nat) : Int) := by rw [hw, e3]; rfl
    have e4 : (h.cs.map pt)[((k : Nat) : Int).toNat]? = some [I (cor h.cs k).1, I (cor h.cs k).2] := by simpa using e1
    have e5 : (h.cs.map pt)[((IntKind.i64.wrap ((k : Int) + 1)).tmod ((h.cs.map pt).length : Int)).toNat]? = some [I (cor h.cs ((k + 1) % h.cs.length)).1, I (cor h.cs ((k + 1) % h.cs.length)).2] := by rw [hm, Int.toNat_natCast]; exact e2
    repeat' (first | refine wk1 ?_ | (refine wk2 ?_ ?_ <;> intro _) | refine wk4 ?_ | fail); all_goals (conv => whnf)
    exact Done.mk ⟨(k + 1, _, _), [], rfl, kps, kps, ⟨W_succ (by omega), hlt, hh⟩, by dsimp only; omega⟩
  · rw [List.drop_of_length_le (by rw [wls_length]; omega)] at hh
    repeat' (first | refine wk1 ?_ | (refine wk2 ?_ ?_ <;> intro _) | refine wk4 ?_ | fail); all_goals (conv => whnf)
    exact ret_int hh

/-- All walls have a length. -/
def Hal.nz (h : Hal) : Prop := ∀ k, k < h.cs.length → (lnOf h.cs k).n ≠ 0
def flipsR (p : Pt) (l : Ln) : Bool :=
  ((decide (IntKind.i64.wrap (l.y * p.d) ≤ p.y) && !decide (IntKind.i64.wrap (IntKind.i64.wrap (l.y + l.dy) * p.d) ≤ p.y)) && decide (0 < l.beside p)) || ((!decide (IntKind.i64.wrap (l.y * p.d) ≤ p.y) && decide (IntKind.i64.wrap (IntKind.i64.wrap (l.y + l.dy) * p.d) ≤ p.y)) && decide (l.beside p < 0))
def inPlR (p : Pt) : Bool → List Ln → Bool
  | b, [] => b
  | b, l :: r => if l.has p then false else inPlR p (b ^^ flipsR p l) r
def lns (cs : List (Int × Int)) : List Ln := (List.range cs.length).map (lnOf cs)
theorem lns_length (cs : List (Int × Int)) : (lns cs).length = cs.length := by simp [lns]
theorem lns_drop {cs : List (Int × Int)} {k : Nat} (h : k < cs.length) : (lns cs).drop k = lnOf cs k :: (lns cs).drop (k + 1) := by
  rw [List.drop_eq_getElem_cons (by rw [lns_length]; exact h)]; simp [lns]
def inPlanR (h : Hal) (p : Pt) : Bool := inPlR p false (lns h.cs)
theorem inPlR_cons {p : Pt} {b : Bool} {l : Ln} {r : List Ln} (h : l.has p = false) : inPlR p b (l :: r) = inPlR p (b ^^ flipsR p l) r := by rw [inPlR, if_neg (by simp [h])]
theorem inPlR_has {p : Pt} {b : Bool} {l : Ln} {r : List Ln} (h : l.has p = true) : inPlR p b (l :: r) = false := by rw [inPlR, if_pos h]
set_option maxRecDepth 100000 in
set_option maxHeartbeats 8000000 in
theorem c106 {h : Hal} (hf : h.few) (hwc : h.ws.length = h.cs.length) (hz : h.nz) (p : Pt) : PCall Tryz.prog 131 [h.av, p.av] ⟨Bo (inPlanR h p), []⟩ := by
  obtain ⟨px, py, pz, pd⟩ := p
  refine bs.pv (sx := nos) (kR5_ok hf) Tryz.func131 (by kernel_rfl) (by kernel_rfl) rfl ?_
  refine loopV (S := Nat × Int × Bool) (fun t => h.ws.length - t.1) (fun t => [(2, .ptr 0 0 0), (3, .ptr 1 0 0), (5, Bo t.2.2), (6, I t.2.1)]) (fun _ => [(1, .row 4 [[I px, I py, I pz, I pd]] true false), (0, .row 9 [h.cells] true false)]) 2 2 (fun t => t.2.1 = t.1 ∧ t.1 ≤ h.ws.length ∧ inPlR ⟨px, py, pz, pd⟩ t.2.2 ((lns h.cs).drop t.1) = inPlanR h ⟨px, py, pz, pd⟩) (0, 0, false) ⟨rfl, Nat.zero_le _, rfl⟩ (Nat.le_refl _) [] rfl (kps) (kps) ?_
  rintro ⟨k, i, b⟩ ⟨hi, hk, hh⟩
  dsimp only at hi hk hh ⊢
  subst hi
  refine bs.av (sx := nos) (kR5_ok hf) ?_
  have e3 := wa_length h.ws
  have hl := hf.2.1
  by_cases hlt : k < h.ws.length
  · have e1 := lines_hit (h := h) (k := k) (by omega)
    have hn := hz k (by omega)
    rw [lns_drop (by omega)] at hh
    generalize lnOf h.cs k = L at *
    obtain ⟨lx, ly, ldx, ldy⟩ := L
    cases hb : (Ln.mk lx ly ldx ldy).has ⟨px, py, pz, pd⟩ with
    | true =>
      rw [inPlR_has hb] at hh
      repeat' (first | refine wk1 ?_ | (refine wk2 ?_ ?_ <;> intro _) | refine wk4 ?_ | fail); all_goals (conv => whnf)
      · exact ret_bool hh
      all_goals (exfalso; clear hh e1 hz hn; simp_all; done)
    | false =>
      rw [inPlR_cons hb] at hh
      repeat' (first | refine wk1 ?_ | (refine wk2 ?_ ?_ <;> intro _) | refine wk4 ?_ | fail); all_goals (conv => whnf)
      · exfalso; clear hh e1 hz hn; simp_all; done
      all_goals (clear e1 hz hn e3)
      all_goals exact Done.mk ⟨(k + 1, _, _), [], rfl, kps, kps, ⟨W_succ (by omega), hlt, by rw [← hh]; congr 1; clear hh hl hlt hk; cases b <;> simp_all [flipsR] <;> omega⟩, by dsimp only; omega⟩
  · rw [List.drop_of_length_le (by rw [lns_length]; omega)] at hh
    repeat' (first | refine wk1 ?_ | (refine wk2 ?_ ?_ <;> intro _) | refine wk4 ?_ | fail); all_goals (conv => whnf)
    exact ret_bool hh
end Go.Proofs.YtdaliaafmcjikaaGreat
namespace Go.Proofs.YtdaliaafmcjikaaGreat
open Go Go.Sx

/-! ### The reference: the plan is simple -/
def okPairR (cs : List (Int × Int)) (n : Int) (i k : Nat) : Bool :=
  !((!decide ((k : Int) = IntKind.i64.wrap ((i : Int) + 1)) && !(decide ((i : Int) = 0) && decide ((k : Int) = IntKind.i64.wrap (n - 1)))) && (lnOf cs i).touch (lnOf cs k)) &&
  !((decide ((k : Int) = IntKind.i64.wrap ((i : Int) + 1)) && ((lnOf cs k).has (lnOf cs i).a || (lnOf cs i).has (lnOf cs k).b)) || ((decide ((i : Int) = 0) && decide ((k : Int) = IntKind.i64.wrap (n - 1))) && ((lnOf cs k).has (lnOf cs i).b || (lnOf cs i).has (lnOf cs k).a)))
def innerR (cs : List (Int × Int)) (n i k : Nat) : Bool := (List.range' k (n - k)).all fun k => okPairR cs n i k
def outerR (cs : List (Int × Int)) (n i : Nat) : Bool := (List.range' i (n - i)).all fun i => innerR cs n i (i + 1)
def simpleR (cs : List (Int × Int)) : Bool := outerR cs cs.length 0
theorem innerR_step {cs : List (Int × Int)} {n i k : Nat} (h : k < n) : innerR cs n i k = (okPairR cs n i k && innerR cs n i (k + 1)) := by
  unfold innerR
  rw [show n - k = (n - (k + 1)) + 1 by omega, List.range'_succ]; rfl
theorem innerR_end {cs : List (Int × Int)} {n i k : Nat} (h : n ≤ k) : innerR cs n i k = true := by
  unfold innerR; rw [show n - k = 0 by omega]; rfl
theorem outerR_step {cs : List (Int × Int)} {n i : Nat} (h : i < n) : outerR cs n i = (innerR cs n i (i + 1) && outerR cs n (i + 1)) := by
  unfold outerR
  rw [show n - i = (n - (i + 1)) + 1 by omega, List.range'_succ]; rfl
theorem outerR_end {cs : List (Int × Int)} {n i : Nat} (h : n ≤ i) : outerR cs n i = true := by
  unfold outerR; rw [show n - i = 0 by omega]; rfl
def r198 : List AV → Option PRes
  | [.agg [.int .i64 x, .int .i64 y, .int .i64 dx, .int .i64 dy], .agg [.int .i64 u, .int .i64 v, .int .i64 du, .int .i64 dv]] => asr (decide ((Ln.mk x y dx dy).n ≠ 0 ∧ (Ln.mk u v du dv).n ≠ 0)) ⟨Bo ((Ln.mk x y dx dy).touch ⟨u, v, du, dv⟩), []⟩
  | _ => none
noncomputable def kR6 (h : Hal) : PC := ins 265 r198 (kR5 h)
theorem kR6_ok {h : Hal} (hf : h.few) : PCOK Tryz.prog (kR6 h) := by
  refine ins_ok (fun a res h => ?_) (kR5_ok hf)
  unfold r198 at h; split at h
  · obtain ⟨h1, rfl⟩ := asr_some h; exact c198 ⟨_, _, _, _⟩ ⟨_, _, _, _⟩ (of_decide_eq_true h1).1 (of_decide_eq_true h1).2
  · cases h
set_option maxRecDepth 100000 in
set_option maxHeartbeats 16000000 in
theorem c165 {h : Hal} (hf : h.few) (hwc : h.ws.length = h.cs.length) (hz : h.nz) : PCall Tryz.prog 182 [h.av] ⟨Bo (simpleR h.cs), []⟩ := by
  have hk6 := kR6_ok hf
  have e3 : (h.ws.map Wal.av).length = h.cs.length := by simp [hwc]
  have hl := hf.2.1
  refine bs.pv (sx := nos) hk6 Tryz.func182 (by kernel_rfl) (by kernel_rfl) rfl ?_
  refine loopV (S := Nat × Int) (fun t => h.cs.length - t.1) (fun t => [(1, .ptr 0 0 0), (3, I (h.ws.map Wal.av).length), (4, I t.2)]) (fun _ => [(0, .row 9 [h.cells] true false)]) 1 1 (fun t => t.2 = t.1 ∧ t.1 ≤ h.cs.length ∧ outerR h.cs h.cs.length t.1 = simpleR h.cs) (0, 0) ⟨rfl, Nat.zero_le _, rfl⟩ (Nat.le_refl _) [] rfl (kps) (kps) ?_
  rintro ⟨i, i'⟩ ⟨hi, hk, hh⟩
  dsimp only at hi hk hh ⊢
  subst hi
  refine bs.av (sx := nos) hk6 ?_
  by_cases hlt : i < h.cs.length
  · rw [outerR_step hlt] at hh
    repeat' (first | refine wk1 ?_ | (refine wk2 ?_ ?_ <;> intro _) | refine wk4 ?_ | fail); all_goals (conv => whnf)
    refine loopV (S := Nat × Int) (fun t => h.cs.length - t.1) (fun t => [(1, .ptr 0 0 0), (3, I (h.ws.map Wal.av).length), (4, I i), (5, I t.2)]) (fun _ => [(0, .row 9 [h.cells] true false)]) 1 1 (fun t => t.2 = t.1 ∧ t.1 ≤ h.cs.length ∧ (innerR h.cs h.cs.length i t.1 && outerR h.cs h.cs.length (i + 1)) = simpleR h.cs) (i + 1, IntKind.i64.wrap ((i : Int) + 1)) ⟨W_succ (by omega), hlt, hh⟩ (Nat.le_refl _) [] rfl (kps) (kps) ?_
    rintro ⟨k, k'⟩ ⟨hi, hk2, h3⟩
    dsimp only at hi hk2 h3 ⊢
    subst hi
    refine bs.av (sx := nos) hk6 ?_
    by_cases hlt2 : k < h.cs.length
    · rw [innerR_step hlt2, okPairR] at h3
      have e1 := lines_hit (h := h) hlt
      have e2 := lines_hit (h := h) hlt2
      have hn1 := hz i hlt
      have hn2 := hz k hlt2
      generalize lnOf h.cs i = L at *
      generalize lnOf h.cs k = M at *
      obtain ⟨lx, ly, ldx, ldy⟩ := L
      obtain ⟨mx, my, mdx, mdy⟩ := M
      have hn3 : (Ln.mk lx ly ldx ldy).n ≠ 0 ∧ (Ln.mk mx my mdx mdy).n ≠ 0 := ⟨hn1, hn2⟩
      have e3' := e3
      clear hz hh
      rw [Bool.and_assoc] at h3
      generalize hT : (innerR h.cs h.cs.length i (k + 1) && outerR h.cs h.cs.length (i + 1)) = T at *
      generalize hU : simpleR h.cs = U at *
      rw [← e3] at h3
      simp only [Ln.a, Ln.b] at h3
      clear e3
      repeat' (first | refine wk1 ?_ | (refine wk2 ?_ ?_ <;> intro _) | refine wk4 ?_ | fail); all_goals (conv => whnf)
      all_goals (clear e1 e2 hn1 hn2 hn3)
      all_goals first
        | exact ret_bool (by rw [← h3]; clear hT hU h3 hk hk2 hlt hlt2 hl hwc e3' hk6; simp_all; done)
        | exact Done.mk ⟨(k + 1, _), [], rfl, kps, kps, ⟨W_succ (by omega), hlt2, by rw [hT, ← h3]; clear hT hU h3 hk hk2 hlt hlt2 hl hwc e3' hk6; simp_all; done⟩, by dsimp only; omega⟩
        | (exfalso; clear hT hU h3 hk hk2 hlt hlt2 hl hwc e3' hk6; simp_all; done)
    · rw [innerR_end (by omega), Bool.true_and] at h3
      repeat' (first | refine wk1 ?_ | (refine wk2 ?_ ?_ <;> intro _) | refine wk4 ?_ | fail); all_goals (conv => whnf)
      exact Done.mk ⟨(i + 1, _), [], rfl, kps, kps, ⟨W_succ (by omega), hlt, h3⟩, by dsimp only; omega⟩
  · rw [outerR_end (by omega)] at hh
    repeat' (first | refine wk1 ?_ | (refine wk2 ?_ ?_ <;> intro _) | refine wk4 ?_ | fail); all_goals (conv => whnf)
    exact ret_bool hh
end Go.Proofs.YtdaliaafmcjikaaGreat
namespace Go.Proofs.YtdaliaafmcjikaaGreat
open Go Go.Sx

noncomputable def famA {α : Type} (p : α → Prop) (g : α → List AV) (r : α → PRes) (a : List AV) : Option PRes := by
  classical exact if hx : ∃ k, p k ∧ a = g k then some (r (Classical.choose hx)) else none
theorem famA_hit {α : Type} {p : α → Prop} {g : α → List AV} {r : α → PRes} {k : α} (hi : ∀ j, g j = g k → r j = r k) (hk : p k) : famA p g r (g k) = some (r k) := by
  classical
  unfold famA
  have hx : ∃ j, p j ∧ g k = g j := ⟨k, hk, rfl⟩
  rw [dif_pos hx, hi _ (Classical.choose_spec hx).2.symm]
theorem famA_ok {f0 : FuncId} {α : Type} {p : α → Prop} {g : α → List AV} {r : α → PRes} {pt : PC} (h0 : ∀ k, p k → PCall Tryz.prog f0 (g k) (r k)) (h : PCOK Tryz.prog pt) : PCOK Tryz.prog (ins f0 (famA p g r) pt) := by
  classical
  refine ins_ok (fun a res hr => ?_) h
  unfold famA at hr
  split at hr
  · rename_i hx
    obtain ⟨h1, h2⟩ := Classical.choose_spec hx
    cases hr
    have := h0 _ h1
    rw [← h2] at this
    exact this
  · cases hr
noncomputable abbrev mats (h : Hal) : List AV → Option PRes := famA (fun _ => True) (fun s => [h.av, .str s]) (fun s => ⟨I (matIx s 0 h.ms), []⟩)
theorem mats_hit (h : Hal) (s : ByteArray) : mats h [h.av, .str s] = some ⟨I (matIx s 0 h.ms), []⟩ :=
  famA_hit (g := fun s => [h.av, .str s]) (r := fun s => ⟨I (matIx s 0 h.ms), []⟩) (fun j hj => by
    simp only [List.cons.injEq, AV.str.injEq, true_and, and_true] at hj
    rw [hj]) trivial
def r161 : List AV → Option PRes
  | [.str s] => asr (decide (s.data.toList.length < 100000)) ⟨Bo (isNameR s), []⟩
  | _ => none
noncomputable def kR7 (h : Hal) : PC := ins 177 r161 (ins 179 (mats h) (kR6 h))
theorem kR7_ok {h : Hal} (hf : h.few) : PCOK Tryz.prog (kR7 h) := by
  refine ins_ok (fun a res h => ?_) (famA_ok (fun s _ => c128 hf s) (kR6_ok hf))
  unfold r161 at h; split at h
  · obtain ⟨h1, rfl⟩ := asr_some h; exact c161 (of_decide_eq_true h1)
  · cases h

def isInsR (h : Hal) (p : Pt) : Bool := (decide (0 < p.z) && decide (p.z < IntKind.i64.wrap (h.ht * p.d))) && inPlanR h p
set_option maxRecDepth 100000 in
set_option maxHeartbeats 4000000 in
theorem c52 {h : Hal} (hf : h.few) (hwc : h.ws.length = h.cs.length) (hz : h.nz) (p : Pt) : PCall Tryz.prog 84 [h.av, p.av] ⟨Bo (isInsR h p), []⟩ := by
  obtain ⟨px, py, pz, pd⟩ := p
  have hk := one_ok (c106 hf hwc hz ⟨px, py, pz, pd⟩) kR4_ok
  refine bs.pv (sx := nos) hk Tryz.func84 (by kernel_rfl) (by kernel_rfl) rfl ?_
  repeat' (first | refine wk0 ?_ | (refine wk2 ?_ ?_ <;> intro _) | refine wk4 ?_ | fail); all_goals (conv => whnf)
  all_goals (clear hk hz)
  all_goals exact ret_bool (by simp_all [isInsR] <;> omega)

/-! ### The reference: walls -/
def lineErrR (l : Ln) : Int := if decide (l.dx = 0) && decide (l.dy = 0) then 11 else if (!decide (l.dx = 0) && !decide (l.dy = 0)) && !decide (size l.dx = size l.dy) then 15 else 0
def wErrR (h : Hal) (i : Nat) (w : Wal) : Int :=
  if isNameR w.nm then (if (h.ws.take i).any (fun v => v.nm == w.nm) then 5 else if (w.nm == floorS) || (w.nm == ceilS) then 5 else if decide (matIx w.mt 0 h.ms < 0) || (!(w.cu == ⟨#[]⟩) && decide (matIx w.cu 0 h.ms < 0)) then 6 else lineErrR (lnOf h.cs i)) else 4
set_option maxRecDepth 100000 in
set_option maxHeartbeats 8000000 in
theorem c164 {h : Hal} (hf : h.few) (ht : h.texts) (hwc : h.ws.length = h.cs.length) {i : Nat} (hi : i < h.ws.length) : PCall Tryz.prog 181 [h.av, I i] ⟨I (wErrR h i h.ws[i]), []⟩ := by
  have hk7 := kR7_ok hf
  have e3 := wa_length h.ws
  have e1 := wa_get hi
  have hs := ht.ws _ (List.getElem_mem hi)
  have hl := hf.2.2.1
  generalize hw : h.ws[i] = w at *
  refine bs.pv (sx := nos) hk7 Tryz.func181 (by kernel_rfl) (by kernel_rfl) rfl ?_
  repeat' (first | refine wk1 ?_ | (refine wk2 ?_ ?_ <;> intro _) | refine wk4 ?_ | fail); all_goals (conv => whnf)
  · exact ret_int (by clear e1 e3 hk7; simp_all [wErrR])
  · rename_i hb
    have hnm : isNameR w.nm = true := by simpa using hb
    refine loopV (S := Nat × Int) (fun t => i - t.1) (fun t => [(2, .ptr 0 0 0), (1, I i), (5, .ptr 1 0 0), (6, I t.2)]) (fun _ => [(1, .row 3 [w.av] true false), (0, .row 9 [h.cells] true false)]) 2 2 (fun t => t.2 = t.1 ∧ t.1 ≤ i ∧ (h.ws.take t.1).any (fun v => v.nm == w.nm) = false) (0, 0) ⟨rfl, Nat.zero_le _, rfl⟩ (Nat.le_refl _) [] rfl (kps) (kps) ?_
    rintro ⟨k, k'⟩ ⟨hk, hk2, hh⟩
    dsimp only at hk hk2 hh ⊢
    subst hk
    refine bs.av (sx := nos) hk7 ?_
    by_cases hlt : k < i
    · have e4 := wa_get (l := h.ws) (k := k) (by omega)
      have e5 : h.ws.take (k + 1) = h.ws.take k ++ [h.ws[k]'(by omega)] := by rw [List.take_succ_eq_append_getElem]
      cases hb2 : ((h.ws[k]'(by omega)).nm == w.nm) with
      | true =>
        repeat' (first | refine wk1 ?_ | (refine wk2 ?_ ?_ <;> intro _) | refine wk4 ?_ | fail); all_goals (conv => whnf)
        · exact ret_int (by
            have : (h.ws.take i).any (fun v => v.nm == w.nm) = true := by
              rw [List.any_eq_true]
              exact ⟨h.ws[k]'(by omega), List.mem_take_iff_getElem.2 ⟨k, by omega, rfl⟩, hb2⟩
            rw [wErrR, hnm, if_pos rfl, this, if_pos rfl])
        · rename_i hx; rw [hb2] at hx; cases hx
      | false =>
        repeat' (first | refine wk1 ?_ | (refine wk2 ?_ ?_ <;> intro _) | refine wk4 ?_ | fail); all_goals (conv => whnf)
        · rename_i hx; rw [hb2] at hx; cases hx
        · exact Done.mk ⟨(k + 1, _), [], rfl, kps, kps, ⟨W_succ (by omega), hlt, by rw [e5, List.any_append, hh]; simp [hb2]⟩, by dsimp only; omega⟩
    · have hki : k = i := by omega
      subst hki
      have m1 := mats_hit h w.mt
      have m2 := mats_hit h w.cu
      have m3 := lines_hit (h := h) (k := k) (by omega)
      have e9 : wErrR h k w = if (w.nm == floorS) || (w.nm == ceilS) then 5 else if decide (matIx w.mt 0 h.ms < 0) || (!(w.cu == ⟨#[]⟩) && decide (matIx w.cu 0 h.ms < 0)) then 6 else lineErrR (lnOf h.cs k) := by
        rw [wErrR, hnm, if_pos rfl, hh, if_neg (by simp)]
      rw [e9]
      generalize lnOf h.cs k = L at *
      obtain ⟨lx, ly, ldx, ldy⟩ := L
      repeat' (first | refine wk1 ?_ | (refine wk2 ?_ ?_ <;> intro _) | refine wk4 ?_ | fail); all_goals (conv => whnf)
      all_goals (clear e9 m1 m2 m3 e1 e3 hk7 hh hs hw hb hi hk2 hlt hwc hf ht hl)
      all_goals exact ret_int (by by_cases hx : ldx = 0 <;> by_cases hy : ldy = 0 <;> simp_all [lineErrR, floorS, ceilS])
end Go.Proofs.YtdaliaafmcjikaaGreat
namespace Go.Proofs.YtdaliaafmcjikaaGreat
open Go Go.Sx

/-! ### The reference: seats -/
def plc (n : Int) : Bool := within n (-5000) 5000
def sErrR (h : Hal) (i : Nat) (w : Sea) : Int :=
  if isNameR w.nm then (if (h.ss.take i).any (fun v => v.nm == w.nm) then 5 else if plc w.x && plc w.y && plc w.z then (if isInsR h ⟨w.x, w.y, w.z, 1⟩ then 0 else 24) else 2) else 4
set_option maxRecDepth 100000 in
set_option maxHeartbeats 8000000 in
theorem c167 {h : Hal} (hf : h.few) (ht : h.texts) (hwc : h.ws.length = h.cs.length) (hz : h.nz) {i : Nat} (hi : i < h.ss.length) : PCall Tryz.prog 185 [h.av, I i] ⟨I (sErrR h i h.ss[i]), []⟩ := by
  have e3 := se_length h.ss
  have e1 := se_get hi
  have hs := ht.ss _ (List.getElem_mem hi)
  have hl := hf.2.2.2.2.1
  generalize hw : h.ss[i] = w at *
  have hk7 := one_ok (c52 hf hwc hz ⟨w.x, w.y, w.z, 1⟩) (kR7_ok hf)
  refine bs.pv (sx := nos) hk7 Tryz.func185 (by kernel_rfl) (by kernel_rfl) rfl ?_
  repeat' (first | refine wk1 ?_ | (refine wk2 ?_ ?_ <;> intro _) | refine wk4 ?_ | fail); all_goals (conv => whnf)
  · exact ret_int (by clear e1 e3 hk7; simp_all [sErrR])
  · rename_i hb
    have hnm : isNameR w.nm = true := by simpa using hb
    refine loopV (S := Nat × Int) (fun t => i - t.1) (fun t => [(2, .ptr 0 0 0), (1, I i), (5, .ptr 1 0 0), (6, I t.2)]) (fun _ => [(1, .row 4 [w.av] true false), (0, .row 9 [h.cells] true false)]) 2 2 (fun t => t.2 = t.1 ∧ t.1 ≤ i ∧ (h.ss.take t.1).any (fun v => v.nm == w.nm) = false) (0, 0) ⟨rfl, Nat.zero_le _, rfl⟩ (Nat.le_refl _) [] rfl (kps) (kps) ?_
    rintro ⟨k, k'⟩ ⟨hk, hk2, hh⟩
    dsimp only at hk hk2 hh ⊢
    subst hk
    refine bs.av (sx := nos) hk7 ?_
    by_cases hlt : k < i
    · have e4 := se_get (l := h.ss) (k := k) (by omega)
      have e5 : h.ss.take (k + 1) = h.ss.take k ++ [h.ss[k]'(by omega)] := by rw [List.take_succ_eq_append_getElem]
      cases hb2 : ((h.ss[k]'(by omega)).nm == w.nm) with
      | true =>
        repeat' (first | refine wk1 ?_ | (refine wk2 ?_ ?_ <;> intro _) | refine wk4 ?_ | fail); all_goals (conv => whnf)
        · exact ret_int (by
            have : (h.ss.take i).any (fun v => v.nm == w.nm) = true := by
              rw [List.any_eq_true]
              exact ⟨h.ss[k]'(by omega), List.mem_take_iff_getElem.2 ⟨k, by omega, rfl⟩, hb2⟩
            rw [sErrR, hnm, if_pos rfl, this, if_pos rfl])
        · rename_i hx; rw [hb2] at hx; cases hx
      | false =>
        repeat' (first | refine wk1 ?_ | (refine wk2 ?_ ?_ <;> intro _) | refine wk4 ?_ | fail); all_goals (conv => whnf)
        · rename_i hx; rw [hb2] at hx; cases hx
        · exact Done.mk ⟨(k + 1, _), [], rfl, kps, kps, ⟨W_succ (by omega), hlt, by rw [e5, List.any_append, hh]; simp [hb2]⟩, by dsimp only; omega⟩
    · have hki : k = i := by omega
      subst hki
      have e9 : sErrR h k w = if plc w.x && plc w.y && plc w.z then (if isInsR h ⟨w.x, w.y, w.z, 1⟩ then 0 else 24) else 2 := by
        rw [sErrR, hnm, if_pos rfl, hh, if_neg (by simp)]
      rw [e9]
      repeat' (first | refine wk1 ?_ | (refine wk2 ?_ ?_ <;> intro _) | refine wk4 ?_ | fail); all_goals (conv => whnf)
      all_goals (clear e9 e1 e3 hk7 hh hs hw hb hi hk2 hlt hwc hf ht hl hz)
      all_goals exact ret_int (by simp_all [plc])

/-! ### The reference: canopies -/
def edges (c : Can) : List Ln := [edge1 c, edge2 c, edge3 c, edge4 c]
def touchAny (h : Hal) (l : Ln) : Bool := (lns h.cs).any fun m => l.touch m
/-- The edges of a canopy, one after the other. -/
def edgesGo (h : Hal) : List Ln → Bool
  | [] => true
  | l :: r => if inPlanR h l.a then (if touchAny h l then false else edgesGo h r) else false
def rectOk (h : Hal) (c : Can) : Bool := edgesGo h (edges c) && !(h.cs.any fun p => inBnd c ⟨p.1, p.2, 0, 1⟩)
def cErrR (h : Hal) (i : Nat) (c : Can) : Int :=
  if isNameR c.nm then (if (c.nm == floorS) || (c.nm == ceilS) then 5 else if h.ws.any (fun v => v.nm == c.nm) then 5 else if (h.ks.take i).any (fun v => v.nm == c.nm) then 5 else
    if decide (matIx c.mt 0 h.ms < 0) then 6 else if within c.hs.length 1 4 then (if hsErr h.ht none c.hs = 0 then (if plc c.fx && plc c.fy && plc c.tx && plc c.ty then (if decide (c.fx = c.tx) || decide (c.fy = c.ty) then 11 else if rectOk h c then 0 else 24) else 2) else hsErr h.ht none c.hs) else 10) else 4
noncomputable abbrev plans (h : Hal) : List AV → Option PRes := famA (fun _ => True) (fun p : Pt => [h.av, p.av]) (fun p => ⟨Bo (inPlanR h p), []⟩)
theorem plans_hit (h : Hal) (p : Pt) : plans h [h.av, p.av] = some ⟨Bo (inPlanR h p), []⟩ :=
  famA_hit (g := fun p : Pt => [h.av, p.av]) (r := fun p => ⟨Bo (inPlanR h p), []⟩) (fun j hj => by
    obtain ⟨a, b, u, d⟩ := j
    obtain ⟨a', b', u', d'⟩ := p
    simp_all [Pt.av]) trivial
noncomputable abbrev bnds (c : Can) : List AV → Option PRes := famA (fun _ => True) (fun p : Pt => [.agg c.av, p.av]) (fun p => ⟨Bo (inBnd c p), []⟩)
theorem bnds_hit (c : Can) (p : Pt) : bnds c [.agg c.av, p.av] = some ⟨Bo (inBnd c p), []⟩ :=
  famA_hit (g := fun p : Pt => [.agg c.av, p.av]) (r := fun p => ⟨Bo (inBnd c p), []⟩) (fun j hj => by
    obtain ⟨a, b, u, d⟩ := j
    obtain ⟨a', b', u', d'⟩ := p
    simp_all [Pt.av]) trivial
noncomputable def kR8 (h : Hal) (c : Can) : PC := ins 131 (plans h) (ins 193 (bnds c) (kR7 h))
theorem kR8_ok {h : Hal} (hf : h.few) (hwc : h.ws.length = h.cs.length) (hz : h.nz) (c : Can) : PCOK Tryz.prog (kR8 h c) :=
  famA_ok (fun p _ => c106 hf hwc hz p) (famA_ok (fun p _ => c191 c p) (kR7_ok hf))
theorem side_n {a b : Int} (ha : within a (-5000) 5000 = true) (hb : within b (-5000) 5000 = true) (h : decide (a = b) = false) : imax (size (IntKind.i64.wrap (b - a))) (size 0) ≠ 0 ∧ imax (size (IntKind.i64.wrap (0 - IntKind.i64.wrap (b - a)))) (size 0) ≠ 0 ∧ imax (size 0) (size (IntKind.i64.wrap (b - a))) ≠ 0 ∧ imax (size 0) (size (IntKind.i64.wrap (0 - IntKind.i64.wrap (b - a)))) ≠ 0 := by
  simp only [within, Bool.and_eq_true, decide_eq_true_eq] at ha hb
  have h' := of_decide_eq_false h
  have w1 : IntKind.i64.wrap (b - a) = b - a := W_eq (by omega) (by omega)
  have w2 : IntKind.i64.wrap (0 - (b - a)) = 0 - (b - a) := W_eq (by omega) (by omega)
  have w3 : IntKind.i64.wrap (0 - (0 - (b - a))) = 0 - (0 - (b - a)) := W_eq (by omega) (by omega)
  have w4 : IntKind.i64.wrap (0 - 0) = 0 := W_eq (by omega) (by omega)
  rw [w1, w2]
  simp only [size]
  rw [w2, w3, w4]
  simp only [imax, Bool.cond_decide]
  refine ⟨?_, ?_, ?_, ?_⟩ <;> (repeat' split) <;> omega
set_option maxRecDepth 100000 in
set_option maxHeartbeats 16000000 in
theorem c166 {h : Hal} (hf : h.few) (ht : h.texts) (hwc : h.ws.length = h.cs.length) (hz : h.nz) {i : Nat} (hi : i < h.ks.length) : PCall Tryz.prog 184 [h.av, I i] ⟨I (cErrR h i h.ks[i]), []⟩ := by
  have e3 := ca_length h.ks
  have e1 := ca_get hi
  have hs := ht.ks _ (List.getElem_mem hi)
  have hl := hf.2.2.2.1
  have hlw := hf.2.2.1
  have ew := wa_length h.ws
  generalize hw : h.ks[i] = c at *
  have hk7 := one_ok (c200 c) (kR8_ok hf hwc hz c)
  refine bs.pv (sx := nos) hk7 Tryz.func184 (by kernel_rfl) (by kernel_rfl) rfl ?_
  repeat' (first | refine wk1 ?_ | (refine wk2 ?_ ?_ <;> intro _) | refine wk4 ?_ | fail); all_goals (conv => whnf)
  · exact ret_int (by clear e1 e3 hk7 hw; simp_all [cErrR])
  · exact ret_int (by clear e1 e3 hk7 hw; simp_all [cErrR, floorS, ceilS])
  · exact ret_int (by clear e1 e3 hk7 hw; simp_all [cErrR, floorS, ceilS])
  rename_i hb1 hb2 hb3
  have r0 : cErrR h i c = if h.ws.any (fun v => v.nm == c.nm) then 5 else if (h.ks.take i).any (fun v => v.nm == c.nm) then 5 else
    if decide (matIx c.mt 0 h.ms < 0) then 6 else if within c.hs.length 1 4 then (if hsErr h.ht none c.hs = 0 then (if plc c.fx && plc c.fy && plc c.tx && plc c.ty then (if decide (c.fx = c.tx) || decide (c.fy = c.ty) then 11 else if rectOk h c then 0 else 24) else 2) else hsErr h.ht none c.hs) else 10 := by
    have q1 : isNameR c.nm = true := by simpa using hb1
    have q2 : ((c.nm == floorS) || (c.nm == ceilS)) = false := by
      have q3 : (c.nm == floorS) = false := by simpa [floorS] using hb2
      have q4 : (c.nm == ceilS) = false := by simpa [ceilS] using hb3
      rw [q3, q4]; rfl
    rw [cErrR, q1, if_pos rfl, q2, if_neg (by simp)]
  rw [r0]
  clear r0 hb1 hb2 hb3
  -- the names of walls
  refine loopV (S := Nat × Int) (fun t => h.ws.length - t.1) (fun t => [(2, .ptr 0 0 0), (1, I i), (5, .ptr 1 0 0), (6, I t.2)]) (fun _ => [(1, .row 7 [c.av] true false), (0, .row 9 [h.cells] true false)]) 2 2 (fun t => t.2 = t.1 ∧ t.1 ≤ h.ws.length ∧ (h.ws.take t.1).any (fun v => v.nm == c.nm) = false) (0, 0) ⟨rfl, Nat.zero_le _, rfl⟩ (Nat.le_refl _) [] rfl (kps) (kps) ?_
  rintro ⟨k, k'⟩ ⟨hk, hk2, hh⟩
  dsimp only at hk hk2 hh ⊢
  subst hk
  refine bs.av (sx := nos) hk7 ?_
  by_cases hlt : k < h.ws.length
  · have e4 := wa_get (l := h.ws) hlt
    have e5 : h.ws.take (k + 1) = h.ws.take k ++ [h.ws[k]] := by rw [List.take_succ_eq_append_getElem]
    cases hb2 : (h.ws[k].nm == c.nm) with
    | true =>
      repeat' (first | refine wk1 ?_ | (refine wk2 ?_ ?_ <;> intro _) | refine wk4 ?_ | fail); all_goals (conv => whnf)
      · exact ret_int (by
          have : h.ws.any (fun v => v.nm == c.nm) = true := List.any_eq_true.2 ⟨h.ws[k], List.getElem_mem hlt, hb2⟩
          rw [this, if_pos rfl])
      · rename_i hx; rw [hb2] at hx; cases hx
    | false =>
      repeat' (first | refine wk1 ?_ | (refine wk2 ?_ ?_ <;> intro _) | refine wk4 ?_ | fail); all_goals (conv => whnf)
      · rename_i hx; rw [hb2] at hx; cases hx
      · exact Done.mk ⟨(k + 1, _), [], rfl, kps, kps, ⟨W_succ (by omega), hlt, by rw [e5, List.any_append, hh]; simp [hb2]⟩, by dsimp only; omega⟩
  have r1 : h.ws.any (fun v => v.nm == c.nm) = false := by rwa [List.take_of_length_le (by omega)] at hh
  rw [r1, if_neg (by simp)]
  repeat' (first | refine wk1 ?_ | (refine wk2 ?_ ?_ <;> intro _) | refine wk4 ?_ | fail); all_goals (conv => whnf)
  clear r1 hh hlt hk2
  -- the names of canopies
  refine loopV (S := Nat × Int) (fun t => i - t.1) (fun t => [(2, .ptr 0 0 0), (1, I i), (5, .ptr 1 0 0), (7, I t.2)]) (fun _ => [(1, .row 7 [c.av] true false), (0, .row 9 [h.cells] true false)]) 2 2 (fun t => t.2 = t.1 ∧ t.1 ≤ i ∧ (h.ks.take t.1).any (fun v => v.nm == c.nm) = false) (0, 0) ⟨rfl, Nat.zero_le _, rfl⟩ (Nat.le_refl _) [] rfl (kps) (kps) ?_
  rintro ⟨q, q'⟩ ⟨hk, hk2, hh⟩
  dsimp only at hk hk2 hh ⊢
  subst hk
  refine bs.av (sx := nos) hk7 ?_
  by_cases hlt : q < i
  · have e4 := ca_get (l := h.ks) (k := q) (by omega)
    have e5 : h.ks.take (q + 1) = h.ks.take q ++ [h.ks[q]'(by omega)] := by rw [List.take_succ_eq_append_getElem]
    cases hb2 : ((h.ks[q]'(by omega)).nm == c.nm) with
    | true =>
      repeat' (first | refine wk1 ?_ | (refine wk2 ?_ ?_ <;> intro _) | refine wk4 ?_ | fail); all_goals (conv => whnf)
      · exact ret_int (by
          have : (h.ks.take i).any (fun v => v.nm == c.nm) = true := by
            rw [List.any_eq_true]
            exact ⟨h.ks[q]'(by omega), List.mem_take_iff_getElem.2 ⟨q, by omega, rfl⟩, hb2⟩
          rw [this, if_pos rfl])
      · rename_i hx; rw [hb2] at hx; cases hx
    | false =>
      repeat' (first | refine wk1 ?_ | (refine wk2 ?_ ?_ <;> intro _) | refine wk4 ?_ | fail); all_goals (conv => whnf)
      · rename_i hx; rw [hb2] at hx; cases hx
      · exact Done.mk ⟨(q + 1, _), [], rfl, kps, kps, ⟨W_succ (by omega), hlt, by rw [e5, List.any_append, hh]; simp [hb2]⟩, by dsimp only; omega⟩
  have hki : q = i := by omega
  subst hki
  rw [hh, if_neg (by simp)]
  clear hlt hk2 hh
  -- the material, the heights
  have m1 := mats_hit h c.mt
  have e7 := nl_length c.hs
  have hlc : c.hs.length < 1000 := by have := hf.2.2.2.2.2 _ (List.getElem_mem hi); rwa [hw] at this
  repeat' (first | refine wk1 ?_ | (refine wk2 ?_ ?_ <;> intro _) | refine wk4 ?_ | fail); all_goals (conv => whnf)
  · rename_i hx; exact ret_int (by rw [hx, if_pos rfl])
  · rename_i hx hy
    exact ret_int (by
      rw [hx, if_neg (by simp)]
      have : within c.hs.length 1 4 = false := by rw [← e7]; simpa using hy
      rw [this, if_neg (by simp)])
  rename_i hx hy
  have r2 : within c.hs.length 1 4 = true := by rw [← e7]; simpa using hy
  rw [hx, if_neg (by simp), r2, if_pos rfl]
  clear hx hy r2 m1
  refine loopV (S := Nat × Int) (fun t => c.hs.length - t.1) (fun t => [(2, .ptr 0 0 0), (1, I q), (5, .ptr 1 0 0), (8, I t.2)]) (fun _ => [(1, .row 7 [c.av] true false), (0, .row 9 [h.cells] true false)]) 2 2
    (fun t => t.2 = t.1 ∧ t.1 ≤ c.hs.length ∧ hsErr h.ht (prevOf c.hs t.1) (c.hs.drop t.1) = hsErr h.ht none c.hs) (0, 0) ⟨rfl, Nat.zero_le _, rfl⟩ (Nat.le_refl _) [] rfl (kps) (kps) ?_
  rintro ⟨j, j'⟩ ⟨hj, hj2, hh⟩
  dsimp only at hj hj2 hh ⊢
  subst hj
  refine bs.av (sx := nos) hk7 ?_
  by_cases hlt : j < c.hs.length
  · have e8 := nl_get hlt
    rw [List.drop_eq_getElem_cons hlt, hsErr_cons] at hh
    have e4 : IntKind.i64.wrap ((j : Int) - 1) = (j : Int) - 1 := W_eq (by omega) (by omega)
    have hh := hh.symm
    cases j with
    | zero =>
      repeat' (first | refine wk1 ?_ | (refine wk2 ?_ ?_ <;> intro _) | refine wk4 ?_ | fail); all_goals (conv => whnf)
      all_goals (clear hk7 e1 e8 hw)
      · exact ret_int (by rw [hh]; simp_all [prevOf])
      · exact Done.mk ⟨(1, _), [], rfl, kps, kps, ⟨by exact W_succ (k := 0) (by omega), hlt, by rw [hh]; simp_all [prevOf]⟩, by dsimp only; omega⟩
    | succ j =>
      have e5 : (nl c.hs)[(IntKind.i64.wrap (((j + 1 : Nat) : Int) - 1)).toNat]? = some [I c.hs[j]] := by
        rw [e4, show ((j + 1 : Nat) : Int) - 1 = (j : Int) by omega]; exact nl_get (by omega)
      have e6 : prevOf c.hs (j + 1) = some c.hs[j] := by simp [prevOf, show j < c.hs.length by omega]
      rw [e6] at hh
      repeat' (first | refine wk1 ?_ | (refine wk2 ?_ ?_ <;> intro _) | refine wk4 ?_ | fail); all_goals (conv => whnf)
      all_goals (clear e8 e5 hk7 e1 hw)
      · exact ret_int (by rw [hh]; clear hh; simp_all)
      · exact ret_int (by rw [hh]; clear hh; simp_all)
      · exact Done.mk ⟨(j + 2, _), [], rfl, kps, kps, ⟨by exact W_succ (k := j + 1) (by omega), hlt, by rw [hh, if_pos (by clear hh; simp_all), if_neg (by clear hh; simp_all)]; simp [prevOf, hlt]⟩, by dsimp only; omega⟩
  rw [List.drop_of_length_le (by omega)] at hh
  have r3 : hsErr h.ht none c.hs = 0 := by rw [← hh]; cases prevOf c.hs j <;> rfl
  rw [r3, if_pos rfl]
  clear hh r3
  repeat' (first | refine wk1 ?_ | (refine wk2 ?_ ?_ <;> intro _) | refine wk4 ?_ | fail); all_goals (conv => whnf)
  · exact ret_int (by simp_all [plc])
  · exact ret_int (by simp_all [plc])
  · exact ret_int (by simp_all [plc])
  · exact ret_int (by simp_all [plc])
  · exact ret_int (by simp_all [plc])
  · exact ret_int (by simp_all [plc])
  rename_i g6 g5 g4 g3 g2 g1
  simp only [cond_false, Bool.not_eq_false'] at g1 g2 g3 g4 g5 g6
  have r4 : (if plc c.fx && plc c.fy && plc c.tx && plc c.ty then (if decide (c.fx = c.tx) || decide (c.fy = c.ty) then 11 else if rectOk h c then 0 else 24) else 2) = if rectOk h c then (0 : Int) else 24 := by
    simp [plc, *]
  rw [r4]
  clear r4 hlt hj2 hlc e7
  have hn1 : (edge1 c).n ≠ 0 := (side_n g6 g4 g2).1
  have hn3 : (edge3 c).n ≠ 0 := (side_n g6 g4 g2).2.1
  have hn2 : (edge2 c).n ≠ 0 := (side_n g5 g3 g1).2.2.1
  have hn4 : (edge4 c).n ≠ 0 := (side_n g5 g3 g1).2.2.2
  have ew2 : (h.ws.map Wal.av).length = h.cs.length := by rw [ew, hwc]
  have hlc := hf.2.1
  clear g1 g2 g3 g4 g5 g6
  have r5 : rectOk h c = (edgesGo h [edge1 c, edge2 c, edge3 c, edge4 c] && !(h.cs.any fun p => inBnd c ⟨p.1, p.2, 0, 1⟩)) := rfl
  generalize edge1 c = L1 at *
  generalize edge2 c = L2 at *
  generalize edge3 c = L3 at *
  generalize edge4 c = L4 at *
  obtain ⟨x1, y1, u1, v1⟩ := L1
  obtain ⟨x2, y2, u2, v2⟩ := L2
  obtain ⟨x3, y3, u3, v3⟩ := L3
  obtain ⟨x4, y4, u4, v4⟩ := L4
  rw [r5]
  clear r5
  generalize hTL : (!(h.cs.any fun p => inBnd c ⟨p.1, p.2, 0, 1⟩)) = TL
  generalize hB : (edgesGo h [⟨x1, y1, u1, v1⟩, ⟨x2, y2, u2, v2⟩, ⟨x3, y3, u3, v3⟩, ⟨x4, y4, u4, v4⟩] && TL) = B
  refine loopV (S := Nat × Int) (fun t => 4 - t.1) (fun t => [(2, .ptr 0 0 0), (1, I q), (5, .ptr 1 0 0), (9, .ptr 2 0 0), (10, I t.2)]) (fun _ => [(2, .row 16 [[I x1, I y1, I u1, I v1, I x2, I y2, I u2, I v2, I x3, I y3, I u3, I v3, I x4, I y4, I u4, I v4]] true false), (1, .row 7 [c.av] true false), (0, .row 9 [h.cells] true false)]) 3 3
    (fun t => t.2 = t.1 ∧ t.1 ≤ 4 ∧ (edgesGo h ([(Ln.mk x1 y1 u1 v1), (Ln.mk x2 y2 u2 v2), (Ln.mk x3 y3 u3 v3), (Ln.mk x4 y4 u4 v4)].drop t.1) && TL) = B) (0, 0) ⟨rfl, Nat.zero_le _, hB⟩ (Nat.le_refl _) [] rfl (kps) (kps) ?_
  clear hB
  rintro ⟨m, m'⟩ ⟨hm, hm2, hh⟩
  dsimp only at hm hm2 hh ⊢
  subst hm
  refine bs.av (sx := nos) hk7 ?_
  have p1 := plans_hit h (Ln.mk x1 y1 u1 v1).a
  have p2 := plans_hit h (Ln.mk x2 y2 u2 v2).a
  have p3 := plans_hit h (Ln.mk x3 y3 u3 v3).a
  have p4 := plans_hit h (Ln.mk x4 y4 u4 v4).a
  by_cases h4 : m < 4
  rcases m with _ | _ | _ | _ | m
  · have q1 : (if inPlanR h (Ln.mk x1 y1 u1 v1).a then (if touchAny h (Ln.mk x1 y1 u1 v1) then false else edgesGo h [(Ln.mk x2 y2 u2 v2), (Ln.mk x3 y3 u3 v3), (Ln.mk x4 y4 u4 v4)]) else false : Bool) = edgesGo h ([(Ln.mk x1 y1 u1 v1), (Ln.mk x2 y2 u2 v2), (Ln.mk x3 y3 u3 v3), (Ln.mk x4 y4 u4 v4)].drop 0) := rfl
    rw [← q1] at hh
    clear q1
    generalize hT : edgesGo h [(Ln.mk x2 y2 u2 v2), (Ln.mk x3 y3 u3 v3), (Ln.mk x4 y4 u4 v4)] = T at hh
    repeat' (first | refine wk1 ?_ | (refine wk2 ?_ ?_ <;> intro _) | refine wk4 ?_ | fail); all_goals (conv => whnf)
    · rename_i hx; exact ret_int (by rw [← hh, show inPlanR h (Ln.mk x1 y1 u1 v1).a = false by simpa using hx]; rfl)
    rename_i hx
    have h3 : (!(((lns h.cs).drop 0).any fun m => (Ln.mk x1 y1 u1 v1).touch m) && (T && TL)) = B := by
      rw [← hh, show inPlanR h (Ln.mk x1 y1 u1 v1).a = true by simpa using hx, if_pos rfl]
      cases hA : ((lns h.cs).any fun m => (Ln.mk x1 y1 u1 v1).touch m) <;> simp [touchAny, hA]
    clear hh hx
    refine loopV (S := Nat × Int) (fun t => h.cs.length - t.1) (fun t => [(2, .ptr 0 0 0), (1, I q), (5, .ptr 1 0 0), (9, .ptr 2 0 0), (10, I 0), (13, I t.2)]) (fun _ => [(2, .row 16 [[I x1, I y1, I u1, I v1, I x2, I y2, I u2, I v2, I x3, I y3, I u3, I v3, I x4, I y4, I u4, I v4]] true false), (1, .row 7 [c.av] true false), (0, .row 9 [h.cells] true false)]) 5 5 (fun t => t.2 = t.1 ∧ t.1 ≤ h.cs.length ∧ (!(((lns h.cs).drop t.1).any fun m => (Ln.mk x1 y1 u1 v1).touch m) && (T && TL)) = B) (0, 0) ⟨rfl, Nat.zero_le _, h3⟩ (Nat.le_refl _) [] rfl (kps) (kps) ?_
    clear h3
    rintro ⟨r, r'⟩ ⟨hr, hr2, h3⟩
    dsimp only at hr hr2 h3 ⊢
    subst hr
    refine bs.av (sx := nos) hk7 ?_
    by_cases hlt : r < h.cs.length
    · rw [lns_drop hlt, List.any_cons] at h3
      have e2 := lines_hit (h := h) hlt
      have hn5 := hz r hlt
      generalize lnOf h.cs r = M at *
      obtain ⟨mx, my, mdx, mdy⟩ := M
      have hn6 : (Ln.mk x1 y1 u1 v1).n ≠ 0 ∧ (Ln.mk mx my mdx mdy).n ≠ 0 := ⟨hn1, hn5⟩
      repeat' (first | refine wk1 ?_ | (refine wk2 ?_ ?_ <;> intro _) | refine wk4 ?_ | fail); all_goals (conv => whnf)
      · rename_i hx; exact ret_int (by rw [← h3, hx]; rfl)
      · rename_i hx; exact Done.mk ⟨(r + 1, _), [], rfl, kps, kps, ⟨W_succ (by omega), hlt, by rw [← h3, hx]; rfl⟩, by dsimp only; omega⟩
    · rw [List.drop_of_length_le (by rw [lns_length]; omega)] at h3
      repeat' (first | refine wk1 ?_ | (refine wk2 ?_ ?_ <;> intro _) | refine wk4 ?_ | fail); all_goals (conv => whnf)
      exact Done.mk ⟨(1, _), [], rfl, kps, kps, ⟨W_succ (k := 0) (by omega), by omega, by rw [← h3, ← hT]; rfl⟩, by dsimp only; omega⟩
  · have q1 : (if inPlanR h (Ln.mk x2 y2 u2 v2).a then (if touchAny h (Ln.mk x2 y2 u2 v2) then false else edgesGo h [(Ln.mk x3 y3 u3 v3), (Ln.mk x4 y4 u4 v4)]) else false : Bool) = edgesGo h ([(Ln.mk x1 y1 u1 v1), (Ln.mk x2 y2 u2 v2), (Ln.mk x3 y3 u3 v3), (Ln.mk x4 y4 u4 v4)].drop 1) := rfl
    rw [← q1] at hh
    clear q1
    generalize hT : edgesGo h [(Ln.mk x3 y3 u3 v3), (Ln.mk x4 y4 u4 v4)] = T at hh
    repeat' (first | refine wk1 ?_ | (refine wk2 ?_ ?_ <;> intro _) | refine wk4 ?_ | fail); all_goals (conv => whnf)
    · rename_i hx; exact ret_int (by rw [← hh, show inPlanR h (Ln.mk x2 y2 u2 v2).a = false by simpa using hx]; rfl)
    rename_i hx
    have h3 : (!(((lns h.cs).drop 0).any fun m => (Ln.mk x2 y2 u2 v2).touch m) && (T && TL)) = B := by
      rw [← hh, show inPlanR h (Ln.mk x2 y2 u2 v2).a = true by simpa using hx, if_pos rfl]
      cases hA : ((lns h.cs).any fun m => (Ln.mk x2 y2 u2 v2).touch m) <;> simp [touchAny, hA]
    clear hh hx
    refine loopV (S := Nat × Int) (fun t => h.cs.length - t.1) (fun t => [(2, .ptr 0 0 0), (1, I q), (5, .ptr 1 0 0), (9, .ptr 2 0 0), (10, I 1), (13, I t.2)]) (fun _ => [(2, .row 16 [[I x1, I y1, I u1, I v1, I x2, I y2, I u2, I v2, I x3, I y3, I u3, I v3, I x4, I y4, I u4, I v4]] true false), (1, .row 7 [c.av] true false), (0, .row 9 [h.cells] true false)]) 5 5 (fun t => t.2 = t.1 ∧ t.1 ≤ h.cs.length ∧ (!(((lns h.cs).drop t.1).any fun m => (Ln.mk x2 y2 u2 v2).touch m) && (T && TL)) = B) (0, 0) ⟨rfl, Nat.zero_le _, h3⟩ (Nat.le_refl _) [] rfl (kps) (kps) ?_
    clear h3
    rintro ⟨r, r'⟩ ⟨hr, hr2, h3⟩
    dsimp only at hr hr2 h3 ⊢
    subst hr
    refine bs.av (sx := nos) hk7 ?_
    by_cases hlt : r < h.cs.length
    · rw [lns_drop hlt, List.any_cons] at h3
      have e2 := lines_hit (h := h) hlt
      have hn5 := hz r hlt
      generalize lnOf h.cs r = M at *
      obtain ⟨mx, my, mdx, mdy⟩ := M
      have hn6 : (Ln.mk x2 y2 u2 v2).n ≠ 0 ∧ (Ln.mk mx my mdx mdy).n ≠ 0 := ⟨hn2, hn5⟩
      repeat' (first | refine wk1 ?_ | (refine wk2 ?_ ?_ <;> intro _) | refine wk4 ?_ | fail); all_goals (conv => whnf)
      · rename_i hx; exact ret_int (by rw [← h3, hx]; rfl)
      · rename_i hx; exact Done.mk ⟨(r + 1, _), [], rfl, kps, kps, ⟨W_succ (by omega), hlt, by rw [← h3, hx]; rfl⟩, by dsimp only; omega⟩
    · rw [List.drop_of_length_le (by rw [lns_length]; omega)] at h3
      repeat' (first | refine wk1 ?_ | (refine wk2 ?_ ?_ <;> intro _) | refine wk4 ?_ | fail); all_goals (conv => whnf)
      exact Done.mk ⟨(2, _), [], rfl, kps, kps, ⟨W_succ (k := 1) (by omega), by omega, by rw [← h3, ← hT]; rfl⟩, by dsimp only; omega⟩
  · have q1 : (if inPlanR h (Ln.mk x3 y3 u3 v3).a then (if touchAny h (Ln.mk x3 y3 u3 v3) then false else edgesGo h [(Ln.mk x4 y4 u4 v4)]) else false : Bool) = edgesGo h ([(Ln.mk x1 y1 u1 v1), (Ln.mk x2 y2 u2 v2), (Ln.mk x3 y3 u3 v3), (Ln.mk x4 y4 u4 v4)].drop 2) := rfl
    rw [← q1] at hh
    clear q1
    generalize hT : edgesGo h [(Ln.mk x4 y4 u4 v4)] = T at hh
    repeat' (first | refine wk1 ?_ | (refine wk2 ?_ ?_ <;> intro _) | refine wk4 ?_ | fail); all_goals (conv => whnf)
    · rename_i hx; exact ret_int (by rw [← hh, show inPlanR h (Ln.mk x3 y3 u3 v3).a = false by simpa using hx]; rfl)
    rename_i hx
    have h3 : (!(((lns h.cs).drop 0).any fun m => (Ln.mk x3 y3 u3 v3).touch m) && (T && TL)) = B := by
      rw [← hh, show inPlanR h (Ln.mk x3 y3 u3 v3).a = true by simpa using hx, if_pos rfl]
      cases hA : ((lns h.cs).any fun m => (Ln.mk x3 y3 u3 v3).touch m) <;> simp [touchAny, hA]
    clear hh hx
    refine loopV (S := Nat × Int) (fun t => h.cs.length - t.1) (fun t => [(2, .ptr 0 0 0), (1, I q), (5, .ptr 1 0 0), (9, .ptr 2 0 0), (10, I 2), (13, I t.2)]) (fun _ => [(2, .row 16 [[I x1, I y1, I u1, I v1, I x2, I y2, I u2, I v2, I x3, I y3, I u3, I v3, I x4, I y4, I u4, I v4]] true false), (1, .row 7 [c.av] true false), (0, .row 9 [h.cells] true false)]) 5 5 (fun t => t.2 = t.1 ∧ t.1 ≤ h.cs.length ∧ (!(((lns h.cs).drop t.1).any fun m => (Ln.mk x3 y3 u3 v3).touch m) && (T && TL)) = B) (0, 0) ⟨rfl, Nat.zero_le _, h3⟩ (Nat.le_refl _) [] rfl (kps) (kps) ?_
    clear h3
    rintro ⟨r, r'⟩ ⟨hr, hr2, h3⟩
    dsimp only at hr hr2 h3 ⊢
    subst hr
    refine bs.av (sx := nos) hk7 ?_
    by_cases hlt : r < h.cs.length
    · rw [lns_drop hlt, List.any_cons] at h3
      have e2 := lines_hit (h := h) hlt
      have hn5 := hz r hlt
      generalize lnOf h.cs r = M at *
      obtain ⟨mx, my, mdx, mdy⟩ := M
      have hn6 : (Ln.mk x3 y3 u3 v3).n ≠ 0 ∧ (Ln.mk mx my mdx mdy).n ≠ 0 := ⟨hn3, hn5⟩
      repeat' (first | refine wk1 ?_ | (refine wk2 ?_ ?_ <;> intro _) | refine wk4 ?_ | fail); all_goals (conv => whnf)
      · rename_i hx; exact ret_int (by rw [← h3, hx]; rfl)
      · rename_i hx; exact Done.mk ⟨(r + 1, _), [], rfl, kps, kps, ⟨W_succ (by omega), hlt, by rw [← h3, hx]; rfl⟩, by dsimp only; omega⟩
    · rw [List.drop_of_length_le (by rw [lns_length]; omega)] at h3
      repeat' (first | refine wk1 ?_ | (refine wk2 ?_ ?_ <;> intro _) | refine wk4 ?_ | fail); all_goals (conv => whnf)
      exact Done.mk ⟨(3, _), [], rfl, kps, kps, ⟨W_succ (k := 2) (by omega), by omega, by rw [← h3, ← hT]; rfl⟩, by dsimp only; omega⟩
  · have q1 : (if inPlanR h (Ln.mk x4 y4 u4 v4).a then (if touchAny h (Ln.mk x4 y4 u4 v4) then false else edgesGo h []) else false : Bool) = edgesGo h ([(Ln.mk x1 y1 u1 v1), (Ln.mk x2 y2 u2 v2), (Ln.mk x3 y3 u3 v3), (Ln.mk x4 y4 u4 v4)].drop 3) := rfl
    rw [← q1] at hh
    clear q1
    generalize hT : edgesGo h [] = T at hh
    repeat' (first | refine wk1 ?_ | (refine wk2 ?_ ?_ <;> intro _) | refine wk4 ?_ | fail); all_goals (conv => whnf)
    · rename_i hx; exact ret_int (by rw [← hh, show inPlanR h (Ln.mk x4 y4 u4 v4).a = false by simpa using hx]; rfl)
    rename_i hx
    have h3 : (!(((lns h.cs).drop 0).any fun m => (Ln.mk x4 y4 u4 v4).touch m) && (T && TL)) = B := by
      rw [← hh, show inPlanR h (Ln.mk x4 y4 u4 v4).a = true by simpa using hx, if_pos rfl]
      cases hA : ((lns h.cs).any fun m => (Ln.mk x4 y4 u4 v4).touch m) <;> simp [touchAny, hA]
    clear hh hx
    refine loopV (S := Nat × Int) (fun t => h.cs.length - t.1) (fun t => [(2, .ptr 0 0 0), (1, I q), (5, .ptr 1 0 0), (9, .ptr 2 0 0), (10, I 3), (13, I t.2)]) (fun _ => [(2, .row 16 [[I x1, I y1, I u1, I v1, I x2, I y2, I u2, I v2, I x3, I y3, I u3, I v3, I x4, I y4, I u4, I v4]] true false), (1, .row 7 [c.av] true false), (0, .row 9 [h.cells] true false)]) 5 5 (fun t => t.2 = t.1 ∧ t.1 ≤ h.cs.length ∧ (!(((lns h.cs).drop t.1).any fun m => (Ln.mk x4 y4 u4 v4).touch m) && (T && TL)) = B) (0, 0) ⟨rfl, Nat.zero_le _, h3⟩ (Nat.le_refl _) [] rfl (kps) (kps) ?_
    clear h3
    rintro ⟨r, r'⟩ ⟨hr, hr2, h3⟩
    dsimp only at hr hr2 h3 ⊢
    subst hr
    refine bs.av (sx := nos) hk7 ?_
    by_cases hlt : r < h.cs.length
    · rw [lns_drop hlt, List.any_cons] at h3
      have e2 := lines_hit (h := h) hlt
      have hn5 := hz r hlt
      generalize lnOf h.cs r = M at *
      obtain ⟨mx, my, mdx, mdy⟩ := M
      have hn6 : (Ln.mk x4 y4 u4 v4).n ≠ 0 ∧ (Ln.mk mx my mdx mdy).n ≠ 0 := ⟨hn4, hn5⟩
      repeat' (first | refine wk1 ?_ | (refine wk2 ?_ ?_ <;> intro _) | refine wk4 ?_ | fail); all_goals (conv => whnf)
      · rename_i hx; exact ret_int (by rw [← h3, hx]; rfl)
      · rename_i hx; exact Done.mk ⟨(r + 1, _), [], rfl, kps, kps, ⟨W_succ (by omega), hlt, by rw [← h3, hx]; rfl⟩, by dsimp only; omega⟩
    · rw [List.drop_of_length_le (by rw [lns_length]; omega)] at h3
      repeat' (first | refine wk1 ?_ | (refine wk2 ?_ ?_ <;> intro _) | refine wk4 ?_ | fail); all_goals (conv => whnf)
      exact Done.mk ⟨(4, _), [], rfl, kps, kps, ⟨W_succ (k := 3) (by omega), by omega, by rw [← h3, ← hT]; rfl⟩, by dsimp only; omega⟩
  · omega
  have hm4 : m = 4 := by omega
  have hh : TL = B := by rw [← hh, hm4]; rfl
  repeat' (first | refine wk1 ?_ | (refine wk2 ?_ ?_ <;> intro _) | refine wk4 ?_ | fail); all_goals (conv => whnf)
  subst hTL
  clear h4 hm2 hm4 p1 p2 p3 p4
  refine loopV (S := Nat × Int) (fun t => h.cs.length - t.1) (fun t => [(2, .ptr 0 0 0), (5, .ptr 1 0 0), (14, I t.2)]) (fun _ => [(1, .row 7 [c.av] true false), (0, .row 9 [h.cells] true false)]) 3 3 (fun t => t.2 = t.1 ∧ t.1 ≤ h.cs.length ∧ (!((h.cs.drop t.1).any fun p => inBnd c ⟨p.1, p.2, 0, 1⟩)) = B) (0, 0) ⟨rfl, Nat.zero_le _, hh⟩ (Nat.le_refl _) [] rfl (kps) (kps) ?_
  clear hh
  rintro ⟨r, r'⟩ ⟨hr, hr2, h3⟩
  dsimp only at hr hr2 h3 ⊢
  subst hr
  refine bs.av (sx := nos) hk7 ?_
  have e8 : (h.cs.map pt).length = h.cs.length := by simp
  by_cases hlt : r < h.cs.length
  · rw [List.drop_eq_getElem_cons hlt, List.any_cons] at h3
    have e4 := es_get hlt
    have e9 : cor h.cs r = h.cs[r] := by simp [cor, hlt]
    have b1 := bnds_hit c ⟨(cor h.cs r).1, (cor h.cs r).2, 0, 1⟩
    rw [← e9] at h3
    clear e9
    repeat' (first | refine wk1 ?_ | (refine wk2 ?_ ?_ <;> intro _) | refine wk4 ?_ | fail); all_goals (conv => whnf)
    · rename_i hx; exact ret_int (by rw [← h3, hx]; rfl)
    · rename_i hx; exact Done.mk ⟨(r + 1, _), [], rfl, kps, kps, ⟨W_succ (by omega), hlt, by rw [← h3, hx]; rfl⟩, by dsimp only; omega⟩
  · rw [List.drop_of_length_le (by omega)] at h3
    repeat' (first | refine wk1 ?_ | (refine wk2 ?_ ?_ <;> intro _) | refine wk4 ?_ | fail); all_goals (conv => whnf)
    exact ret_int (by rw [← h3]; rfl)
end Go.Proofs.YtdaliaafmcjikaaGreat
namespace Go.Proofs.YtdaliaafmcjikaaGreat
open Go Go.Sx

/-! ### Plain law: straight walls -/
theorem mul_bd {a b A B : Int} (ha : -A ≤ a ∧ a ≤ A) (hb : -B ≤ b ∧ b ≤ B) : -(A * B) ≤ a * b ∧ a * b ≤ A * B := by
  have h1 : a.natAbs ≤ A.natAbs := by omega
  have h2 : b.natAbs ≤ B.natAbs := by omega
  have h3 := Nat.mul_le_mul h1 h2
  rw [← Int.natAbs_mul, ← Int.natAbs_mul] at h3
  have h4 : 0 ≤ A * B := Int.mul_nonneg (by omega) (by omega)
  omega
theorem sgn_pos {n v : Int} (hn : 0 < n) : sgn (n * v) = sgn v := by
  unfold sgn
  rcases Int.lt_trichotomy v 0 with h | h | h
  · have := Int.mul_neg_of_pos_of_neg hn h
    rw [if_neg (by omega), if_pos this, if_neg (by omega), if_pos h]
  · subst h; simp
  · have := Int.mul_pos hn h
    rw [if_pos this, if_pos h]
theorem sgn_neg_iff {v : Int} : sgn v < 0 ↔ v < 0 := by unfold sgn; split <;> (try split) <;> omega
theorem sgn_pos_iff {v : Int} : 0 < sgn v ↔ 0 < v := by unfold sgn; split <;> (try split) <;> omega
theorem sgn_zero_iff {v : Int} : sgn v = 0 ↔ v = 0 := by unfold sgn; split <;> (try split) <;> omega
theorem sgn_bd (v : Int) : -1 ≤ sgn v ∧ sgn v ≤ 1 := by unfold sgn; split <;> (try split) <;> omega

/-- A wall that goes n steps one of eight ways, within the bounds. -/
structure Str (w : Wl) (n sx sy : Int) : Prop where
  hn : 0 < n
  hx : sx = 0 ∨ sx = 1 ∨ sx = -1
  hy : sy = 0 ∨ sy = 1 ∨ sy = -1
  hxy : ¬(sx = 0 ∧ sy = 0)
  tx : w.tx = w.fx + n * sx
  ty : w.ty = w.fy + n * sy
  b1 : -5000 ≤ w.fx ∧ w.fx ≤ 5000
  b2 : -5000 ≤ w.fy ∧ w.fy ≤ 5000
  b3 : -5000 ≤ w.tx ∧ w.tx ≤ 5000
  b4 : -5000 ≤ w.ty ∧ w.ty ≤ 5000
theorem Str.nle {w : Wl} {n sx sy : Int} (h : Str w n sx sy) : n ≤ 10000 := by
  obtain ⟨hn, hx, hy, hxy, tx, ty, b1, b2, b3, b4⟩ := h
  rcases hx with rfl | rfl | rfl <;> rcases hy with rfl | rfl | rfl <;> simp at * <;> omega
theorem Str.dx {w : Wl} {n sx sy : Int} (h : Str w n sx sy) : w.dx = n * sx := by
  obtain ⟨hn, hx, hy, hxy, tx, ty, b1, b2, b3, b4⟩ := h
  unfold Wl.dx
  rw [W_eq (by omega) (by omega)]; omega
theorem Str.dy {w : Wl} {n sx sy : Int} (h : Str w n sx sy) : w.dy = n * sy := by
  obtain ⟨hn, hx, hy, hxy, tx, ty, b1, b2, b3, b4⟩ := h
  unfold Wl.dy
  rw [W_eq (by omega) (by omega)]; omega
/-- The line of a wall. -/
def Wl.ln (w : Wl) : Ln := ⟨w.fx, w.fy, IntKind.i64.wrap (w.tx - w.fx), IntKind.i64.wrap (w.ty - w.fy)⟩
theorem lnOf_eq (cs : List (Int × Int)) (i : Nat) : lnOf cs i = (wlOf cs i).ln := rfl
theorem size_eq {n : Int} (h : -9000000000000000000 ≤ n ∧ n ≤ 9000000000000000000) : size n = if n < 0 then -n else n := by
  unfold size imax
  rw [W_eq (by omega) (by omega)]
  split
  · rw [decide_eq_true (by omega)]; simp
  · by_cases h0 : n = 0
    · subst h0; rfl
    · rw [decide_eq_false (by omega)]; rfl
theorem Str.ln {w : Wl} {n sx sy : Int} (h : Str w n sx sy) : w.ln.dx = n * sx ∧ w.ln.dy = n * sy ∧ w.ln.n = n ∧ w.ln.sx = sx ∧ w.ln.sy = sy := by
  have h1 : w.ln.dx = n * sx := h.dx
  have h2 : w.ln.dy = n * sy := h.dy
  have hle := h.nle
  have hn := h.hn
  have h3 : w.ln.n = n := by
    unfold Ln.n
    rw [h1, h2]
    have hxy := h.hxy
    have s0 : size 0 = 0 := by rw [size_eq (by omega)]; rfl
    have s1 : size n = n := by rw [size_eq (by omega), if_neg (by omega)]
    have s2 : size (-n) = n := by rw [size_eq (by omega), if_pos (by omega)]; omega
    have i1 : imax n n = n := by unfold imax; rw [decide_eq_false (by omega)]; rfl
    have i2 : imax n 0 = n := by unfold imax; rw [decide_eq_false (by omega)]; rfl
    have i3 : imax 0 n = n := by unfold imax; rw [decide_eq_true (by omega)]; rfl
    rcases h.hx with rfl | rfl | rfl <;> rcases h.hy with rfl | rfl | rfl <;> (try (exact absurd ⟨rfl, rfl⟩ hxy)) <;> simp only [Int.mul_zero, Int.mul_one, Int.mul_neg, s0, s1, s2, i1, i2, i3]
  refine ⟨h1, h2, h3, ?_, ?_⟩
  · unfold Ln.sx
    rw [h1, h3, Int.mul_tdiv_cancel_left _ (by omega)]
    rcases h.hx with rfl | rfl | rfl <;> rfl
  · unfold Ln.sy
    rw [h2, h3, Int.mul_tdiv_cancel_left _ (by omega)]
    rcases h.hy with rfl | rfl | rfl <;> rfl

/-- A point of the plan that is not too far away. -/
structure PtOk (x y d : Int) : Prop where
  hd : 0 < d
  hD : d ≤ 20000000000
  hx : -200000000000000 ≤ x ∧ x ≤ 200000000000000
  hy : -200000000000000 ≤ y ∧ y ≤ 200000000000000
/-- On which side of a straight wall a point lies; how far along. -/
def bes (w : Wl) (sx sy x y d : Int) : Int := sx * (y - w.fy * d) - sy * (x - w.fx * d)
def alo (w : Wl) (sx sy x y d : Int) : Int := sx * (x - w.fx * d) + sy * (y - w.fy * d)
theorem coord_bd {f d : Int} (hf : -5000 ≤ f ∧ f ≤ 5000) (hd : 0 < d) : -(5000 * d) ≤ f * d ∧ f * d ≤ 5000 * d := mul_bd hf (by omega)
theorem beside_eq {w : Wl} {n sx sy x y d z : Int} (h : Str w n sx sy) (hp : PtOk x y d) : w.ln.beside ⟨x, y, z, d⟩ = bes w sx sy x y d := by
  obtain ⟨_, _, _, h4, h5⟩ := h.ln
  unfold Ln.beside bes
  rw [h4, h5]
  show IntKind.i64.wrap (IntKind.i64.wrap (sx * IntKind.i64.wrap (y - IntKind.i64.wrap (w.fy * d))) - IntKind.i64.wrap (sy * IntKind.i64.wrap (x - IntKind.i64.wrap (w.fx * d)))) = _
  have a1 := coord_bd h.b1 hp.hd
  have a2 := coord_bd h.b2 hp.hd
  have a3 := hp.hD
  have a4 := hp.hx
  have a5 := hp.hy
  have a6 := hp.hd
  generalize w.fx * d = A at *
  generalize w.fy * d = C at *
  rw [W_eq (n := C) (by omega) (by omega), W_eq (n := A) (by omega) (by omega), W_eq (n := y - C) (by omega) (by omega), W_eq (n := x - A) (by omega) (by omega)]
  have hx := h.hx
  have hy := h.hy
  rcases hx with rfl | rfl | rfl <;> rcases hy with rfl | rfl | rfl <;> simp only [Int.zero_mul, Int.one_mul, Int.neg_mul] <;> simp only [IntKind.wrap_i64] <;> omega
theorem along_eq {w : Wl} {n sx sy x y d z : Int} (h : Str w n sx sy) (hp : PtOk x y d) : w.ln.along ⟨x, y, z, d⟩ = alo w sx sy x y d := by
  obtain ⟨_, _, _, h4, h5⟩ := h.ln
  unfold Ln.along alo
  rw [h4, h5]
  show IntKind.i64.wrap (IntKind.i64.wrap (sx * IntKind.i64.wrap (x - IntKind.i64.wrap (w.fx * d))) + IntKind.i64.wrap (sy * IntKind.i64.wrap (y - IntKind.i64.wrap (w.fy * d)))) = _
  have a1 := coord_bd h.b1 hp.hd
  have a2 := coord_bd h.b2 hp.hd
  have a3 := hp.hD
  have a4 := hp.hx
  have a5 := hp.hy
  have a6 := hp.hd
  generalize w.fx * d = A at *
  generalize w.fy * d = C at *
  rw [W_eq (n := C) (by omega) (by omega), W_eq (n := A) (by omega) (by omega), W_eq (n := y - C) (by omega) (by omega), W_eq (n := x - A) (by omega) (by omega)]
  have hx := h.hx
  have hy := h.hy
  rcases hx with rfl | rfl | rfl <;> rcases hy with rfl | rfl | rfl <;> simp only [Int.zero_mul, Int.one_mul, Int.neg_mul] <;> simp only [IntKind.wrap_i64] <;> omega
theorem full_eq {w : Wl} {n sx sy : Int} (h : Str w n sx sy) : w.ln.full = n * (sx * sx + sy * sy) := by
  obtain ⟨_, _, h3, h4, h5⟩ := h.ln
  unfold Ln.full
  rw [h3, h4, h5]
  have hn := h.hn
  have hle := h.nle
  have hx := h.hx
  have hy := h.hy
  rcases hx with rfl | rfl | rfl <;> rcases hy with rfl | rfl | rfl <;> simp [IntKind.wrap_i64] <;> omega
theorem side_eq {w : Wl} {n sx sy x y d : Int} (h : Str w n sx sy) (hp : PtOk x y d) : w.side x y d = sgn (bes w sx sy x y d) := by
  unfold Wl.side bes
  rw [h.dx, h.dy]
  refine Eq.trans ?_ (sgn_pos h.hn)
  have a1 := coord_bd h.b1 hp.hd
  have a2 := coord_bd h.b2 hp.hd
  have a3 := hp.hD
  have a4 := hp.hx
  have a5 := hp.hy
  have a6 := hp.hd
  have hn := h.hn
  have hle := h.nle
  generalize w.fx * d = A at *
  generalize w.fy * d = C at *
  have b1 : -(10000 * 300000000000000) ≤ n * (y - C) ∧ n * (y - C) ≤ 10000 * 300000000000000 := mul_bd (by omega) (by omega)
  have b2 : -(10000 * 300000000000000) ≤ n * (x - A) ∧ n * (x - A) ≤ 10000 * 300000000000000 := mul_bd (by omega) (by omega)
  rw [W_eq (n := C) (by omega) (by omega), W_eq (n := A) (by omega) (by omega), W_eq (n := y - C) (by omega) (by omega), W_eq (n := x - A) (by omega) (by omega)]
  congr 1
  have hx := h.hx
  have hy := h.hy
  rw [show n * (sx * (y - C) - sy * (x - A)) = sx * (n * (y - C)) - sy * (n * (x - A)) by grind, show n * sx * (y - C) = sx * (n * (y - C)) by grind, show n * sy * (x - A) = sy * (n * (x - A)) by grind]
  generalize n * (y - C) = P at *
  generalize n * (x - A) = Q at *
  rcases hx with rfl | rfl | rfl <;> rcases hy with rfl | rfl | rfl <;> simp only [Int.zero_mul, Int.one_mul, Int.neg_mul] <;> simp only [IntKind.wrap_i64] <;> omega

/-- A wall has a point of the plan. -/
def onW (w : Wl) (n sx sy x y d : Int) : Prop := bes w sx sy x y d = 0 ∧ 0 ≤ alo w sx sy x y d ∧ alo w sx sy x y d ≤ n * (sx * sx + sy * sy) * d
theorem nd_bd {n d : Int} (hn : 0 < n) (hle : n ≤ 10000) (hd : 0 < d) : 0 < n * d ∧ n * d ≤ 10000 * d := by
  have := mul_bd (a := n) (b := d) (A := 10000) (B := d) (by omega) (by omega)
  exact ⟨Int.mul_pos hn hd, this.2⟩
theorem lhas_iff {w : Wl} {n sx sy x y d z : Int} (h : Str w n sx sy) (hp : PtOk x y d) : w.ln.has ⟨x, y, z, d⟩ = true ↔ onW w n sx sy x y d := by
  unfold Ln.has onW
  rw [beside_eq h hp, along_eq h hp, full_eq h, Bool.and_eq_true, decide_eq_true_eq, within_iff]
  have hb : IntKind.i64.wrap (n * (sx * sx + sy * sy) * d) = n * (sx * sx + sy * sy) * d := by
    have := nd_bd h.hn h.nle hp.hd
    have := hp.hD
    rcases h.hx with rfl | rfl | rfl <;> rcases h.hy with rfl | rfl | rfl <;> simp only [Int.mul_zero, Int.mul_one, Int.mul_neg, Int.zero_mul, Int.neg_mul, Int.neg_neg, Int.zero_add, Int.add_zero] <;> (try rw [show n * (1 + 1) * d = 2 * (n * d) by grind]) <;> exact W_eq (by omega) (by omega)
  rw [hb]
theorem whas_iff {w : Wl} {n sx sy x y d : Int} (h : Str w n sx sy) (hp : PtOk x y d) : w.has x y d = true ↔ onW w n sx sy x y d := by
  unfold Wl.has onW
  rw [side_eq h hp, Bool.and_eq_true, Bool.and_eq_true, decide_eq_true_eq, within_iff, within_iff, sgn_zero_iff]
  have a1 := coord_bd h.b1 hp.hd
  have a2 := coord_bd h.b2 hp.hd
  have a3 := nd_bd h.hn h.nle hp.hd
  have a4 := hp.hD
  have hn := h.hn
  unfold bes alo
  rw [h.tx, h.ty]
  have hxy := h.hxy
  have f7 : n * (1 + 1) * d = 2 * (n * d) := by grind
  have e1 : imin w.fx (w.fx + n) = w.fx := by unfold imin; rw [decide_eq_false (by omega)]; rfl
  have e2 : imin w.fx (w.fx + -n) = w.fx + -n := by unfold imin; rw [decide_eq_true (by omega)]; rfl
  have e3 : imin w.fx w.fx = w.fx := by unfold imin; rw [decide_eq_false (by omega)]; rfl
  have e4 : imax w.fx (w.fx + n) = w.fx + n := by unfold imax; rw [decide_eq_true (by omega)]; rfl
  have e5 : imax w.fx (w.fx + -n) = w.fx := by unfold imax; rw [decide_eq_false (by omega)]; rfl
  have e6 : imax w.fx w.fx = w.fx := by unfold imax; rw [decide_eq_false (by omega)]; rfl
  have f1 : imin w.fy (w.fy + n) = w.fy := by unfold imin; rw [decide_eq_false (by omega)]; rfl
  have f2 : imin w.fy (w.fy + -n) = w.fy + -n := by unfold imin; rw [decide_eq_true (by omega)]; rfl
  have f3 : imin w.fy w.fy = w.fy := by unfold imin; rw [decide_eq_false (by omega)]; rfl
  have f4 : imax w.fy (w.fy + n) = w.fy + n := by unfold imax; rw [decide_eq_true (by omega)]; rfl
  have f5 : imax w.fy (w.fy + -n) = w.fy := by unfold imax; rw [decide_eq_false (by omega)]; rfl
  have f6 : imax w.fy w.fy = w.fy := by unfold imax; rw [decide_eq_false (by omega)]; rfl
  rcases h.hx with rfl | rfl | rfl <;> rcases h.hy with rfl | rfl | rfl <;> simp only [Int.mul_zero, Int.mul_one, Int.mul_neg, Int.zero_mul, Int.neg_mul, Int.one_mul, Int.neg_neg, Int.zero_add, Int.add_zero, Int.add_mul, f7, e1, e2, e3, e4, e5, e6, f1, f2, f3, f4, f5, f6] <;> (try (exact absurd ⟨rfl, rfl⟩ hxy)) <;> generalize w.fx * d = A at * <;> generalize w.fy * d = C at * <;> generalize n * d = M at *
  all_goals repeat rw [W_eq (by omega) (by omega)]
  all_goals omega
theorem has_eq {w : Wl} {n sx sy x y d z : Int} (h : Str w n sx sy) (hp : PtOk x y d) : w.has x y d = w.ln.has ⟨x, y, z, d⟩ := by
  rw [Bool.eq_iff_iff, whas_iff h hp, lhas_iff h hp]
end Go.Proofs.YtdaliaafmcjikaaGreat
namespace Go.Proofs.YtdaliaafmcjikaaGreat
open Go Go.Sx

/-! ### Plain law: walls that touch, the plan -/
theorem ptOk_c {x y : Int} (h1 : -5000 ≤ x ∧ x ≤ 5000) (h2 : -5000 ≤ y ∧ y ≤ 5000) : PtOk x y 1 := ⟨by omega, by omega, by omega, by omega⟩
theorem ln_a (w : Wl) : w.ln.a = ⟨w.fx, w.fy, 0, 1⟩ := rfl
theorem ln_b {w : Wl} {n sx sy : Int} (h : Str w n sx sy) : w.ln.b = ⟨w.tx, w.ty, 0, 1⟩ := by
  obtain ⟨h1, h2, _⟩ := h.ln
  unfold Ln.b
  rw [h1, h2]
  have e1 : IntKind.i64.wrap (w.ln.x + n * sx) = w.tx := by rw [h.tx]; exact W_eq (by have := h.b3; have := h.tx; show _ ≤ w.fx + _; omega) (by have := h.b3; have := h.tx; show w.fx + _ ≤ _; omega)
  have e2 : IntKind.i64.wrap (w.ln.y + n * sy) = w.ty := by rw [h.ty]; exact W_eq (by have := h.b4; have := h.ty; show _ ≤ w.fy + _; omega) (by have := h.b4; have := h.ty; show w.fy + _ ≤ _; omega)
  rw [e1, e2]
theorem W_sgn (a b : Int) : IntKind.i64.wrap (sgn a * sgn b) = sgn a * sgn b := by
  have := mul_bd (A := 1) (B := 1) (sgn_bd a) (sgn_bd b)
  exact W_eq (by omega) (by omega)
theorem sgn_mul_neg {a b : Int} : sgn a * sgn b < 0 ↔ (a < 0 ∧ 0 < b) ∨ (0 < a ∧ b < 0) := by
  unfold sgn
  split <;> split <;> (try split) <;> (try split) <;> simp <;> omega
theorem touches_eq {w o : Wl} {n sx sy m tx ty : Int} (h : Str w n sx sy) (g : Str o m tx ty) : w.touches o = w.ln.touch o.ln := by
  have p1 := ptOk_c g.b1 g.b2
  have p2 := ptOk_c g.b3 g.b4
  have p3 := ptOk_c h.b1 h.b2
  have p4 := ptOk_c h.b3 h.b4
  unfold Wl.touches Ln.touch
  rw [ln_b h, ln_b g, ln_a, ln_a, ← has_eq h p1, ← has_eq h p2, ← has_eq g p3, ← has_eq g p4, beside_eq h p1, beside_eq h p2, beside_eq g p3, beside_eq g p4, side_eq h p1, side_eq h p2, side_eq g p3, side_eq g p4]
  exact Bool.or_comm _ _

/-- One of two walls goes back along the other one. -/
theorem turns_iff {w o : Wl} {n sx sy m tx ty : Int} (h : Str w n sx sy) (g : Str o m tx ty) : w.turnsBack o = true ↔ tx = -sx ∧ ty = -sy := by
  unfold Wl.turnsBack
  rw [h.dx, h.dy, g.dx, g.dy]
  have a1 := h.nle
  have a2 := g.nle
  have hn := h.hn
  have hm := g.hn
  have hxy := h.hxy
  have gxy := g.hxy
  have b1 : 0 < n * m := Int.mul_pos hn hm
  have b2 := (mul_bd (a := n) (b := m) (A := 10000) (B := 10000) (by omega) (by omega)).2
  have e1 : ∀ a b : Int, n * a * (m * b) = n * m * (a * b) := fun a b => by grind
  rw [e1, e1, e1, e1]
  generalize n * m = K at *
  rcases h.hx with rfl | rfl | rfl <;> rcases h.hy with rfl | rfl | rfl <;> (try (exact absurd ⟨rfl, rfl⟩ hxy)) <;> rcases g.hx with rfl | rfl | rfl <;> rcases g.hy with rfl | rfl | rfl <;> (try (exact absurd ⟨rfl, rfl⟩ gxy)) <;> simp [IntKind.wrap_i64] <;> omega
/-- The next wall goes back just if the other end of one of both lies on the other one. -/
theorem back_iff {w o : Wl} {n sx sy m tx ty : Int} (h : Str w n sx sy) (g : Str o m tx ty) (hc : o.fx = w.tx ∧ o.fy = w.ty) : (o.has w.fx w.fy 1 || w.has o.tx o.ty 1) = w.turnsBack o := by
  rw [Bool.eq_iff_iff, turns_iff h g, Bool.or_eq_true, whas_iff g (ptOk_c h.b1 h.b2), whas_iff h (ptOk_c g.b3 g.b4)]
  unfold onW bes alo
  have hn := h.hn
  have hm := g.hn
  have hxy := h.hxy
  have gxy := g.hxy
  rw [g.tx, g.ty, hc.1, hc.2, h.tx, h.ty]
  rcases h.hx with rfl | rfl | rfl <;> rcases h.hy with rfl | rfl | rfl <;> (try (exact absurd ⟨rfl, rfl⟩ hxy)) <;> rcases g.hx with rfl | rfl | rfl <;> rcases g.hy with rfl | rfl | rfl <;> (try (exact absurd ⟨rfl, rfl⟩ gxy)) <;> simp only [Int.mul_zero, Int.mul_one, Int.mul_neg, Int.zero_mul, Int.neg_mul, Int.one_mul, Int.neg_neg, Int.zero_add, Int.add_zero, and_self, and_true, true_and, iff_true] <;> omega

theorem flips_eq {w : Wl} {n sx sy x y d z : Int} (h : Str w n sx sy) (hp : PtOk x y d) : flips x y d w = flipsR ⟨x, y, z, d⟩ w.ln := by
  unfold flips flipsR
  have e : IntKind.i64.wrap (w.ln.y + w.ln.dy) = w.ty := by
    have := ln_b h
    unfold Ln.b at this
    simpa using congrArg Pt.y this
  rw [beside_eq h hp, side_eq h hp, e]
  have c1 : ∀ v, decide (0 < sgn v) = decide (0 < v) := fun v => by rw [decide_eq_decide]; exact sgn_pos_iff
  have c2 : ∀ v, decide (sgn v < 0) = decide (v < 0) := fun v => by rw [decide_eq_decide]; exact sgn_neg_iff
  have c3 : ∀ a : Int, decide (y < a) = !decide (a ≤ y) := fun a => by by_cases q : a ≤ y <;> simp [q] <;> omega
  rw [c1, c2, c3, c3]
  show _ = (((decide (IntKind.i64.wrap (w.fy * d) ≤ y) && !decide (IntKind.i64.wrap (w.ty * d) ≤ y)) && decide (0 < bes w sx sy x y d)) || ((!decide (IntKind.i64.wrap (w.fy * d) ≤ y) && decide (IntKind.i64.wrap (w.ty * d) ≤ y)) && decide (bes w sx sy x y d < 0)))
  cases decide (IntKind.i64.wrap (w.fy * d) ≤ y) <;> cases decide (IntKind.i64.wrap (w.ty * d) ≤ y) <;> rfl
/-- All walls are straight. -/
def AllStr (cs : List (Int × Int)) : Prop := ∀ i, i < cs.length → ∃ n sx sy, Str (wlOf cs i) n sx sy
theorem inPl_eq {x y d z : Int} (hp : PtOk x y d) : ∀ (l : List Wl) (b : Bool), (∀ w ∈ l, ∃ n sx sy, Str w n sx sy) → inPl x y d b l = inPlR ⟨x, y, z, d⟩ b (l.map Wl.ln)
  | [], _, _ => rfl
  | w :: l, b, h => by
    obtain ⟨n, sx, sy, hw⟩ := h w (by simp)
    rw [List.map_cons, inPl, inPlR, has_eq (z := z) hw hp, flips_eq (z := z) hw hp]
    split
    · rfl
    · exact inPl_eq hp l _ fun u hu => h u (by simp [hu])
theorem lns_eq (cs : List (Int × Int)) : lns cs = (wls cs).map Wl.ln := by simp [lns, wls, lnOf_eq]
theorem wls_str {cs : List (Int × Int)} (h : AllStr cs) : ∀ w ∈ wls cs, ∃ n sx sy, Str w n sx sy := by
  intro w hw
  simp only [wls, List.mem_map, List.mem_range] at hw
  obtain ⟨i, hi, rfl⟩ := hw
  exact h i hi
theorem inPlan_eq {h : Hal} (hs : AllStr h.cs) {x y d : Int} (z : Int) (hp : PtOk x y d) : inPlan h x y d = inPlanR h ⟨x, y, z, d⟩ := by
  unfold inPlan inPlanR
  rw [lns_eq]
  exact inPl_eq hp _ _ (wls_str hs)

theorem W_W_add (a b : Int) : IntKind.i64.wrap (IntKind.i64.wrap a + b) = IntKind.i64.wrap (a + b) := by simp only [IntKind.wrap_i64]; omega
theorem area2_eq (n : Int) (w : Wl) : area2 n w = area2R n w := by
  unfold area2 area2R
  generalize w.fx * w.ty = a
  generalize w.tx * w.fy = b
  simp only [IntKind.wrap_i64]; omega
theorem twArea_eq (h : Hal) : twArea h = twAreaR h.cs := by
  unfold twArea twAreaR
  rw [show area2 = area2R from funext fun n => funext fun w => area2_eq n w]

theorem cor_get {cs : List (Int × Int)} {i : Nat} (h : i < cs.length) : cor cs i = cs[i] := by simp [cor, h]
theorem simple_eq {h : Hal} (hs : AllStr h.cs) (h3 : 3 ≤ h.cs.length) (hl : h.cs.length < 1000) : isSimple h = simpleR h.cs := by
  have key : ∀ i k, i < k → k < h.cs.length → okPair h.cs.length (wlOf h.cs i) (wlOf h.cs k) = okPairR h.cs h.cs.length i k := by
    intro i k hik hk
    obtain ⟨n, sx, sy, hi⟩ := hs i (by omega)
    obtain ⟨m, tx, ty, hm⟩ := hs k hk
    unfold okPair okPairR
    show (decide ((k : Int) ≤ (i : Int)) || (!((decide ((k : Int) = IntKind.i64.wrap ((i : Int) + 1)) && _) || ((decide ((i : Int) = 0) && decide ((k : Int) = IntKind.i64.wrap ((h.cs.length : Int) - 1))) && _)) && ((decide ((k : Int) = IntKind.i64.wrap ((i : Int) + 1)) || (decide ((i : Int) = 0) && decide ((k : Int) = IntKind.i64.wrap ((h.cs.length : Int) - 1)))) || _))) = _
    rw [lnOf_eq, lnOf_eq, ← touches_eq hi hm, ln_a, ln_a, ln_b hi, ln_b hm, ← has_eq hi (ptOk_c hm.b3 hm.b4), ← has_eq hm (ptOk_c hi.b1 hi.b2), ← has_eq hi (ptOk_c hm.b1 hm.b2), ← has_eq hm (ptOk_c hi.b3 hi.b4)]
    have e1 : IntKind.i64.wrap ((i : Int) + 1) = (i : Int) + 1 := W_eq (by omega) (by omega)
    have e2 : IntKind.i64.wrap ((h.cs.length : Int) - 1) = (h.cs.length : Int) - 1 := W_eq (by omega) (by omega)
    rw [e1, e2, decide_eq_false (p := (k : Int) ≤ (i : Int)) (by omega)]
    by_cases c1 : (k : Int) = (i : Int) + 1
    · have hki : k = i + 1 := by omega
      have c2 : ((decide ((i : Int) = 0) && decide ((k : Int) = (h.cs.length : Int) - 1))) = false := by
        by_cases q : (i : Int) = 0
        · rw [decide_eq_false (p := (k : Int) = (h.cs.length : Int) - 1) (by omega)]; simp
        · rw [decide_eq_false q]; rfl
      have hb := back_iff hi hm (by
        subst hki
        simp only [wlOf, Nat.mod_eq_of_lt hk, and_self])
      rw [c2, decide_eq_true c1, ← hb]
      simp
    · rw [decide_eq_false c1]
      by_cases c2 : (i : Int) = 0 ∧ (k : Int) = (h.cs.length : Int) - 1
      · have hb := back_iff hm hi (by
          have h1 : i = 0 := by omega
          have h2 : k + 1 = h.cs.length := by omega
          subst h1
          simp only [wlOf, h2, Nat.mod_self, and_self])
        rw [decide_eq_true c2.1, decide_eq_true c2.2, ← hb]
        simp [Bool.and_comm]
      · have c3 : ((decide ((i : Int) = 0) && decide ((k : Int) = (h.cs.length : Int) - 1))) = false := by
          rw [Bool.eq_false_iff]; intro hq; simp only [Bool.and_eq_true, decide_eq_true_eq] at hq; exact c2 hq
        rw [c3]
        simp
  have hR : simpleR h.cs = true ↔ ∀ i k, i < k → k < h.cs.length → okPairR h.cs h.cs.length i k = true := by
    simp only [simpleR, outerR, innerR, List.all_eq_true, List.mem_range']
    constructor
    · intro hq i k hik hk
      exact hq i ⟨i, by omega, by omega⟩ k ⟨k - (i + 1), by omega, by omega⟩
    · rintro hq i ⟨a, ha, rfl⟩ k ⟨b, hb, rfl⟩
      exact hq _ _ (by omega) (by omega)
  have hP : isSimple h = true ↔ ∀ i k, i < h.cs.length → k < h.cs.length → okPair h.cs.length (wlOf h.cs i) (wlOf h.cs k) = true := by
    simp only [isSimple, wls, List.all_eq_true, List.mem_map, List.mem_range]
    constructor
    · intro hq i k hi hk; exact hq _ ⟨i, hi, rfl⟩ _ ⟨k, hk, rfl⟩
    · rintro hq a ⟨i, hi, rfl⟩ b ⟨k, hk, rfl⟩; exact hq i k hi hk
  rw [Bool.eq_iff_iff, hR, hP]
  constructor
  · intro hq i k hik hk; rw [← key i k hik hk]; exact hq i k (by omega) hk
  · intro hq i k hi hk
    by_cases hik : i < k
    · rw [key i k hik hk]; exact hq i k hik hk
    · unfold okPair
      rw [show decide ((wlOf h.cs k).n ≤ (wlOf h.cs i).n) = true from decide_eq_true (by show (k : Int) ≤ (i : Int); omega)]
      rfl
end Go.Proofs.YtdaliaafmcjikaaGreat
namespace Go.Proofs.YtdaliaafmcjikaaGreat
open Go Go.Sx

/-! ### Plain law: rectangles -/
/-- A wall has a point of a rectangle. -/
def hit (w : Wl) (n sx sy : Int) (q : Rc) : Prop := ∃ t, 0 ≤ t ∧ t ≤ n ∧ q.xl ≤ w.fx + t * sx ∧ w.fx + t * sx ≤ q.xh ∧ q.yl ≤ w.fy + t * sy ∧ w.fy + t * sy ≤ q.yh
structure RcOk (q : Rc) : Prop where
  x : q.xl < q.xh
  y : q.yl < q.yh
  b1 : -5000 ≤ q.xl
  b2 : q.xh ≤ 5000
  b3 : -5000 ≤ q.yl
  b4 : q.yh ≤ 5000
theorem imin_le {a b c : Int} : imin a b ≤ c ↔ a ≤ c ∨ b ≤ c := by
  unfold imin; by_cases h : b < a <;> simp [h] <;> omega
theorem imax_le {a b c : Int} : c ≤ imax a b ↔ c ≤ a ∨ c ≤ b := by
  unfold imax; by_cases h : a < b <;> simp [h] <;> omega
theorem imin_lt {a b c : Int} : c < imin a b ↔ c < a ∧ c < b := by
  unfold imin; by_cases h : b < a <;> simp [h] <;> omega
theorem imax_lt {a b c : Int} : imax a b < c ↔ a < c ∧ b < c := by
  unfold imax; by_cases h : a < b <;> simp [h] <;> omega
theorem sgn_le {v : Int} : sgn v ≤ 0 ↔ v ≤ 0 := by have := @sgn_pos_iff v; omega
theorem sgn_ge {v : Int} : 0 ≤ sgn v ↔ 0 ≤ v := by have := @sgn_neg_iff v; omega
theorem meets_iff {w : Wl} {n sx sy : Int} {q : Rc} (h : Str w n sx sy) (hq : RcOk q) : q.meets w = true ↔ hit w n sx sy q := by
  have q1 := hq.x
  have q2 := hq.y
  have q3 := hq.b1
  have q4 := hq.b2
  have q5 := hq.b3
  have q6 := hq.b4
  have p1 : PtOk q.xl q.yl 1 := ptOk_c (by omega) (by omega)
  have p2 : PtOk q.xl q.yh 1 := ptOk_c (by omega) (by omega)
  have p3 : PtOk q.xh q.yl 1 := ptOk_c (by omega) (by omega)
  have p4 : PtOk q.xh q.yh 1 := ptOk_c (by omega) (by omega)
  have e : q.meets w = true ↔ ¬((w.fx < q.xl ∧ w.tx < q.xl) ∨ (q.xh < w.fx ∧ q.xh < w.tx) ∨ (w.fy < q.yl ∧ w.ty < q.yl) ∨ (q.yh < w.fy ∧ q.yh < w.ty)) ∧ (bes w sx sy q.xl q.yl 1 ≤ 0 ∨ bes w sx sy q.xl q.yh 1 ≤ 0 ∨ bes w sx sy q.xh q.yl 1 ≤ 0 ∨ bes w sx sy q.xh q.yh 1 ≤ 0) ∧ (0 ≤ bes w sx sy q.xl q.yl 1 ∨ 0 ≤ bes w sx sy q.xl q.yh 1 ∨ 0 ≤ bes w sx sy q.xh q.yl 1 ∨ 0 ≤ bes w sx sy q.xh q.yh 1) := by
    unfold Rc.meets
    rw [side_eq h p1, side_eq h p2, side_eq h p3, side_eq h p4]
    by_cases hb : (decide (imax w.fx w.tx < q.xl) || decide (q.xh < imin w.fx w.tx) || decide (imax w.fy w.ty < q.yl) || decide (q.yh < imin w.fy w.ty)) = true
    · rw [if_pos hb]
      simp only [Bool.or_eq_true, decide_eq_true_eq, imin_lt, imax_lt] at hb
      constructor
      · intro hf; cases hf
      · rintro ⟨h1, _⟩; exact absurd (by rcases hb with ((hb | hb) | hb) | hb <;> simp [hb]) h1
    · rw [if_neg hb]
      simp only [Bool.or_eq_true, decide_eq_true_eq, imin_lt, imax_lt] at hb
      rw [Bool.and_eq_true, decide_eq_true_eq, decide_eq_true_eq]
      simp only [imin_le, imax_le, sgn_le, sgn_ge]
      omega
  rw [e]
  unfold hit bes
  rw [h.tx, h.ty]
  have hn := h.hn
  have hxy := h.hxy
  rcases h.hx with rfl | rfl | rfl <;> rcases h.hy with rfl | rfl | rfl <;> (try (exact absurd ⟨rfl, rfl⟩ hxy)) <;> simp only [Int.mul_zero, Int.mul_one, Int.mul_neg, Int.zero_mul, Int.neg_mul, Int.one_mul, Int.neg_neg, Int.zero_add, Int.add_zero]
  · exact ⟨fun hh => ⟨max 0 (q.yl - w.fy), by omega, by omega, by omega, by omega, by omega, by omega⟩, fun ⟨t, h1, h2, h3, h4, h5, h6⟩ => by omega⟩
  · exact ⟨fun hh => ⟨max 0 (w.fy - q.yh), by omega, by omega, by omega, by omega, by omega, by omega⟩, fun ⟨t, h1, h2, h3, h4, h5, h6⟩ => by omega⟩
  · exact ⟨fun hh => ⟨max 0 (q.xl - w.fx), by omega, by omega, by omega, by omega, by omega, by omega⟩, fun ⟨t, h1, h2, h3, h4, h5, h6⟩ => by omega⟩
  · exact ⟨fun hh => ⟨max (max 0 (q.xl - w.fx)) (q.yl - w.fy), by omega, by omega, by omega, by omega, by omega, by omega⟩, fun ⟨t, h1, h2, h3, h4, h5, h6⟩ => by omega⟩
  · exact ⟨fun hh => ⟨max (max 0 (q.xl - w.fx)) (w.fy - q.yh), by omega, by omega, by omega, by omega, by omega, by omega⟩, fun ⟨t, h1, h2, h3, h4, h5, h6⟩ => by omega⟩
  · exact ⟨fun hh => ⟨max 0 (w.fx - q.xh), by omega, by omega, by omega, by omega, by omega, by omega⟩, fun ⟨t, h1, h2, h3, h4, h5, h6⟩ => by omega⟩
  · exact ⟨fun hh => ⟨max (max 0 (w.fx - q.xh)) (q.yl - w.fy), by omega, by omega, by omega, by omega, by omega, by omega⟩, fun ⟨t, h1, h2, h3, h4, h5, h6⟩ => by omega⟩
  · exact ⟨fun hh => ⟨max (max 0 (w.fx - q.xh)) (w.fy - q.yh), by omega, by omega, by omega, by omega, by omega, by omega⟩, fun ⟨t, h1, h2, h3, h4, h5, h6⟩ => by omega⟩

/-- Two walls, one of them along an axis, have a point in common. -/
def common (e : Wl) (m ex ey : Int) (w : Wl) (n sx sy : Int) : Prop := ∃ t s, 0 ≤ t ∧ t ≤ n ∧ 0 ≤ s ∧ s ≤ m ∧ w.fx + t * sx = e.fx + s * ex ∧ w.fy + t * sy = e.fy + s * ey
theorem on_iff {w : Wl} {n sx sy x y : Int} (h : Str w n sx sy) : onW w n sx sy x y 1 ↔ ∃ t, 0 ≤ t ∧ t ≤ n ∧ x = w.fx + t * sx ∧ y = w.fy + t * sy := by
  unfold onW bes alo
  have hn := h.hn
  have hxy := h.hxy
  rcases h.hx with rfl | rfl | rfl <;> rcases h.hy with rfl | rfl | rfl <;> (try (exact absurd ⟨rfl, rfl⟩ hxy)) <;> simp only [Int.mul_zero, Int.mul_one, Int.mul_neg, Int.zero_mul, Int.neg_mul, Int.one_mul, Int.neg_neg, Int.zero_add, Int.add_zero]
  · exact ⟨fun hh => ⟨y - w.fy, by omega, by omega, by omega, by omega⟩, fun ⟨t, h1, h2, h3, h4⟩ => by omega⟩
  · exact ⟨fun hh => ⟨w.fy - y, by omega, by omega, by omega, by omega⟩, fun ⟨t, h1, h2, h3, h4⟩ => by omega⟩
  · exact ⟨fun hh => ⟨x - w.fx, by omega, by omega, by omega, by omega⟩, fun ⟨t, h1, h2, h3, h4⟩ => by omega⟩
  · exact ⟨fun hh => ⟨x - w.fx, by omega, by omega, by omega, by omega⟩, fun ⟨t, h1, h2, h3, h4⟩ => by omega⟩
  · exact ⟨fun hh => ⟨x - w.fx, by omega, by omega, by omega, by omega⟩, fun ⟨t, h1, h2, h3, h4⟩ => by omega⟩
  · exact ⟨fun hh => ⟨w.fx - x, by omega, by omega, by omega, by omega⟩, fun ⟨t, h1, h2, h3, h4⟩ => by omega⟩
  · exact ⟨fun hh => ⟨w.fx - x, by omega, by omega, by omega, by omega⟩, fun ⟨t, h1, h2, h3, h4⟩ => by omega⟩
  · exact ⟨fun hh => ⟨w.fx - x, by omega, by omega, by omega, by omega⟩, fun ⟨t, h1, h2, h3, h4⟩ => by omega⟩
theorem touch_iff {e w : Wl} {m ex ey n sx sy : Int} (g : Str e m ex ey) (h : Str w n sx sy) : e.touches w = true ↔
    (((bes e ex ey w.fx w.fy 1 < 0 ∧ 0 < bes e ex ey w.tx w.ty 1) ∨ (0 < bes e ex ey w.fx w.fy 1 ∧ bes e ex ey w.tx w.ty 1 < 0)) ∧ ((bes w sx sy e.fx e.fy 1 < 0 ∧ 0 < bes w sx sy e.tx e.ty 1) ∨ (0 < bes w sx sy e.fx e.fy 1 ∧ bes w sx sy e.tx e.ty 1 < 0))) ∨
    onW e m ex ey w.fx w.fy 1 ∨ onW e m ex ey w.tx w.ty 1 ∨ onW w n sx sy e.fx e.fy 1 ∨ onW w n sx sy e.tx e.ty 1 := by
  have p1 := ptOk_c g.b1 g.b2
  have p2 := ptOk_c g.b3 g.b4
  have p3 := ptOk_c h.b1 h.b2
  have p4 := ptOk_c h.b3 h.b4
  unfold Wl.touches
  rw [Bool.or_eq_true, Bool.and_eq_true, Bool.or_eq_true, Bool.or_eq_true, Bool.or_eq_true, decide_eq_true_eq, decide_eq_true_eq, whas_iff g p3, whas_iff g p4, whas_iff h p1, whas_iff h p2, side_eq g p3, side_eq g p4, side_eq h p1, side_eq h p2, W_sgn, W_sgn, sgn_mul_neg, sgn_mul_neg]
  simp only [or_assoc]
theorem touch_common {e w : Wl} {m ex ey n sx sy : Int} (g : Str e m ex ey) (h : Str w n sx sy) (hax : ex = 0 ∨ ey = 0) : e.touches w = true ↔ common e m ex ey w n sx sy := by
  rw [touch_iff g h]
  have hn := h.hn
  have hm := g.hn
  have hxy := h.hxy
  have gxy := g.hxy
  constructor
  · rintro (hc | hc | hc | hc | hc)
    · unfold bes at hc
      rw [h.tx, h.ty, g.tx, g.ty] at hc
      rcases g.hx with rfl | rfl | rfl <;> rcases g.hy with rfl | rfl | rfl <;> (try (exact absurd ⟨rfl, rfl⟩ gxy)) <;> (try (exact absurd hax (by decide))) <;> rcases h.hx with rfl | rfl | rfl <;> rcases h.hy with rfl | rfl | rfl <;> (try (exact absurd ⟨rfl, rfl⟩ hxy)) <;> simp only [Int.mul_zero, Int.mul_one, Int.mul_neg, Int.zero_mul, Int.neg_mul, Int.one_mul, Int.neg_neg, Int.zero_add, Int.add_zero] at hc <;> first
        | (exfalso; omega)
        | (unfold common
           simp only [Int.mul_zero, Int.mul_one, Int.mul_neg, Int.zero_mul, Int.neg_mul, Int.one_mul, Int.neg_neg, Int.zero_add, Int.add_zero]
           first
            | exact ⟨e.fy - w.fy, w.fx + (e.fy - w.fy) - e.fx, by omega, by omega, by omega, by omega, by omega, by omega⟩
            | exact ⟨e.fy - w.fy, e.fx - (w.fx + (e.fy - w.fy)), by omega, by omega, by omega, by omega, by omega, by omega⟩
            | exact ⟨e.fy - w.fy, w.fx - (e.fy - w.fy) - e.fx, by omega, by omega, by omega, by omega, by omega, by omega⟩
            | exact ⟨e.fy - w.fy, e.fx - (w.fx - (e.fy - w.fy)), by omega, by omega, by omega, by omega, by omega, by omega⟩
            | exact ⟨e.fy - w.fy, w.fx - e.fx, by omega, by omega, by omega, by omega, by omega, by omega⟩
            | exact ⟨e.fy - w.fy, e.fx - w.fx, by omega, by omega, by omega, by omega, by omega, by omega⟩
            | exact ⟨w.fy - e.fy, w.fx + (w.fy - e.fy) - e.fx, by omega, by omega, by omega, by omega, by omega, by omega⟩
            | exact ⟨w.fy - e.fy, e.fx - (w.fx + (w.fy - e.fy)), by omega, by omega, by omega, by omega, by omega, by omega⟩
            | exact ⟨w.fy - e.fy, w.fx - (w.fy - e.fy) - e.fx, by omega, by omega, by omega, by omega, by omega, by omega⟩
            | exact ⟨w.fy - e.fy, e.fx - (w.fx - (w.fy - e.fy)), by omega, by omega, by omega, by omega, by omega, by omega⟩
            | exact ⟨w.fy - e.fy, w.fx - e.fx, by omega, by omega, by omega, by omega, by omega, by omega⟩
            | exact ⟨w.fy - e.fy, e.fx - w.fx, by omega, by omega, by omega, by omega, by omega, by omega⟩
            | exact ⟨e.fx - w.fx, w.fy + (e.fx - w.fx) - e.fy, by omega, by omega, by omega, by omega, by omega, by omega⟩
            | exact ⟨e.fx - w.fx, e.fy - (w.fy + (e.fx - w.fx)), by omega, by omega, by omega, by omega, by omega, by omega⟩
            | exact ⟨e.fx - w.fx, w.fy - (e.fx - w.fx) - e.fy, by omega, by omega, by omega, by omega, by omega, by omega⟩
            | exact ⟨e.fx - w.fx, e.fy - (w.fy - (e.fx - w.fx)), by omega, by omega, by omega, by omega, by omega, by omega⟩
            | exact ⟨e.fx - w.fx, w.fy - e.fy, by omega, by omega, by omega, by omega, by omega, by omega⟩
            | exact ⟨e.fx - w.fx, e.fy - w.fy, by omega, by omega, by omega, by omega, by omega, by omega⟩
            | exact ⟨w.fx - e.fx, w.fy + (w.fx - e.fx) - e.fy, by omega, by omega, by omega, by omega, by omega, by omega⟩
            | exact ⟨w.fx - e.fx, e.fy - (w.fy + (w.fx - e.fx)), by omega, by omega, by omega, by omega, by omega, by omega⟩
            | exact ⟨w.fx - e.fx, w.fy - (w.fx - e.fx) - e.fy, by omega, by omega, by omega, by omega, by omega, by omega⟩
            | exact ⟨w.fx - e.fx, e.fy - (w.fy - (w.fx - e.fx)), by omega, by omega, by omega, by omega, by omega, by omega⟩
            | exact ⟨w.fx - e.fx, w.fy - e.fy, by omega, by omega, by omega, by omega, by omega, by omega⟩
            | exact ⟨w.fx - e.fx, e.fy - w.fy, by omega, by omega, by omega, by omega, by omega, by omega⟩)
    · obtain ⟨s, h1, h2, h3, h4⟩ := (on_iff g).1 hc
      exact ⟨0, s, by omega, by omega, h1, h2, by simpa using h3, by simpa using h4⟩
    · obtain ⟨s, h1, h2, h3, h4⟩ := (on_iff g).1 hc
      exact ⟨n, s, by omega, by omega, h1, h2, by rw [← h.tx]; exact h3, by rw [← h.ty]; exact h4⟩
    · obtain ⟨t, h1, h2, h3, h4⟩ := (on_iff h).1 hc
      exact ⟨t, 0, h1, h2, by omega, by omega, by simpa using h3.symm, by simpa using h4.symm⟩
    · obtain ⟨t, h1, h2, h3, h4⟩ := (on_iff h).1 hc
      exact ⟨t, m, h1, h2, by omega, by omega, by rw [← g.tx]; exact h3.symm, by rw [← g.ty]; exact h4.symm⟩
  · rintro ⟨t, s, t0, t1, s0, s1, c1, c2⟩
    by_cases z1 : t = 0
    · exact .inr (.inl ((on_iff g).2 ⟨s, s0, s1, by subst z1; simpa using c1, by subst z1; simpa using c2⟩))
    by_cases z2 : t = n
    · exact .inr (.inr (.inl ((on_iff g).2 ⟨s, s0, s1, by subst z2; rw [h.tx]; exact c1, by subst z2; rw [h.ty]; exact c2⟩)))
    by_cases z3 : s = 0
    · exact .inr (.inr (.inr (.inl ((on_iff h).2 ⟨t, t0, t1, by subst z3; simpa using c1.symm, by subst z3; simpa using c2.symm⟩))))
    by_cases z4 : s = m
    · exact .inr (.inr (.inr (.inr ((on_iff h).2 ⟨t, t0, t1, by subst z4; rw [g.tx]; exact c1.symm, by subst z4; rw [g.ty]; exact c2.symm⟩))))
    unfold onW bes alo
    rw [h.tx, h.ty, g.tx, g.ty]
    rcases g.hx with rfl | rfl | rfl <;> rcases g.hy with rfl | rfl | rfl <;> (try (exact absurd ⟨rfl, rfl⟩ gxy)) <;> (try (exact absurd hax (by decide))) <;> rcases h.hx with rfl | rfl | rfl <;> rcases h.hy with rfl | rfl | rfl <;> (try (exact absurd ⟨rfl, rfl⟩ hxy)) <;> simp only [Int.mul_zero, Int.mul_one, Int.mul_neg, Int.zero_mul, Int.neg_mul, Int.one_mul, Int.neg_neg, Int.zero_add, Int.add_zero] at c1 c2 ⊢ <;> first
      | (refine .inl ?_; omega)
      | (refine .inr ?_; omega)
end Go.Proofs.YtdaliaafmcjikaaGreat
namespace Go.Proofs.YtdaliaafmcjikaaGreat
open Go Go.Sx

/-! ### Plain law: inside a plan -/
def xorL : List Bool → Bool
  | [] => false
  | b :: l => b ^^ xorL l
theorem xorL_append : ∀ (l m : List Bool), xorL (l ++ m) = (xorL l ^^ xorL m)
  | [], m => by simp [xorL]
  | b :: l, m => by simp [xorL, xorL_append l m]
theorem xorL_pair {α : Type} (a b : α → Bool) : ∀ l : List α, (xorL (l.map a) ^^ xorL (l.map b)) = xorL (l.map fun x => a x ^^ b x)
  | [] => rfl
  | x :: l => by
    simp only [List.map_cons, xorL, ← xorL_pair a b l]
    cases a x <;> cases b x <;> cases xorL (l.map a) <;> cases xorL (l.map b) <;> rfl
theorem inPl_xor {x y d : Int} : ∀ (l : List Wl) (b : Bool), (∀ w ∈ l, w.has x y d = false) → inPl x y d b l = (b ^^ xorL (l.map (flips x y d)))
  | [], b, _ => by simp [inPl, xorL]
  | w :: l, b, h => by
    rw [inPl_cons (h w (by simp)), inPl_xor l _ (fun u hu => h u (by simp [hu]))]
    simp [xorL]
theorem xorL_tele (G : Nat → Bool) (n : Nat) : ∀ k, k ≤ n → xorL ((List.range k).map fun i => G i ^^ G ((i + 1) % n)) = (G 0 ^^ G (k % n))
  | 0, _ => by simp [xorL]
  | k + 1, h => by
    rw [List.range_succ, List.map_append, xorL_append, xorL_tele G n k (by omega), Nat.mod_eq_of_lt (show k < n by omega)]
    simp only [List.map_cons, List.map_nil, xorL]
    cases G 0 <;> cases G k <;> cases G ((k + 1) % n) <;> rfl
theorem tele (g : Int → Int → Bool) (cs : List (Int × Int)) : xorL ((wls cs).map fun w => g w.fx w.fy ^^ g w.tx w.ty) = false := by
  have := xorL_tele (fun i => g (cor cs i).1 (cor cs i).2) cs.length cs.length (Nat.le_refl _)
  rw [Nat.mod_self] at this
  rw [wls, List.map_map]
  have e : ((fun w : Wl => g w.fx w.fy ^^ g w.tx w.ty) ∘ wlOf cs) = fun i => g (cor cs i).1 (cor cs i).2 ^^ g (cor cs ((i + 1) % cs.length)).1 (cor cs ((i + 1) % cs.length)).2 := rfl
  rw [e, this]
  simp

theorem flips_iff {w : Wl} {n sx sy x y : Int} (h : Str w n sx sy) (hp : PtOk x y 1) : flips x y 1 w = true ↔ (w.fy ≤ y ∧ y < w.ty ∧ 0 < bes w sx sy x y 1) ∨ (w.ty ≤ y ∧ y < w.fy ∧ bes w sx sy x y 1 < 0) := by
  have b2 := h.b2
  have b4 := h.b4
  unfold flips
  rw [side_eq h hp, Int.mul_one, Int.mul_one, W_eq (n := w.fy) (by omega) (by omega), W_eq (n := w.ty) (by omega) (by omega)]
  simp only [Bool.or_eq_true, Bool.and_eq_true, decide_eq_true_eq, sgn_pos_iff, sgn_neg_iff, and_assoc]
theorem flips_h {w : Wl} {n sx sy Y : Int} {q : Rc} (h : Str w n sx sy) (hq : RcOk q) (nh : ¬hit w n sx sy q) (h1 : q.yl ≤ Y) (h2 : Y ≤ q.yh) : flips q.xl Y 1 w = flips q.xh Y 1 w := by
  have q1 := hq.x
  have q2 := hq.y
  have q3 := hq.b1
  have q4 := hq.b2
  have q5 := hq.b3
  have q6 := hq.b4
  rw [Bool.eq_iff_iff, flips_iff h (ptOk_c (by omega) (by omega)), flips_iff h (ptOk_c (by omega) (by omega))]
  have key : ∀ t, ¬(0 ≤ t ∧ t ≤ n ∧ q.xl ≤ w.fx + t * sx ∧ w.fx + t * sx ≤ q.xh ∧ q.yl ≤ w.fy + t * sy ∧ w.fy + t * sy ≤ q.yh) := fun t ht => nh ⟨t, ht⟩
  have hn := h.hn
  have hxy := h.hxy
  unfold bes
  rw [h.ty]
  have k := key ((Y - w.fy) * sy)
  clear key nh
  rcases h.hx with rfl | rfl | rfl <;> rcases h.hy with rfl | rfl | rfl <;> (try (exact absurd ⟨rfl, rfl⟩ hxy)) <;> simp only [Int.mul_zero, Int.mul_one, Int.mul_neg, Int.zero_mul, Int.neg_mul, Int.one_mul, Int.neg_neg, Int.zero_add, Int.add_zero] at k ⊢ <;> omega
def inR (X Y1 Y2 x y : Int) : Bool := decide (Y1 < y ∧ y ≤ Y2 ∧ X < x)
theorem xor_dec {A B C D : Prop} [Decidable A] [Decidable B] [Decidable C] [Decidable D] (h : (A ↔ B) ↔ (C ↔ D)) : (decide A ^^ decide B) = (decide C ^^ decide D) := by
  by_cases a : A <;> by_cases b : B <;> by_cases c : C <;> by_cases d : D <;> simp_all
theorem dec_of {b : Bool} {p : Prop} [Decidable p] (h : b = true ↔ p) : b = decide p := by
  cases b
  · exact (decide_eq_false (fun hp => by simpa using h.2 hp)).symm
  · exact (decide_eq_true (h.1 rfl)).symm
theorem flips_v {w : Wl} {n sx sy : Int} {q : Rc} (h : Str w n sx sy) (hq : RcOk q) (nh : ¬hit w n sx sy q) : (flips q.xl q.yl 1 w ^^ flips q.xl q.yh 1 w) = (inR q.xl q.yl q.yh w.fx w.fy ^^ inR q.xl q.yl q.yh w.tx w.ty) := by
  have q1 := hq.x
  have q2 := hq.y
  have q3 := hq.b1
  have q4 := hq.b2
  have q5 := hq.b3
  have q6 := hq.b4
  rw [dec_of (flips_iff h (ptOk_c (x := q.xl) (y := q.yl) (by omega) (by omega))), dec_of (flips_iff h (ptOk_c (x := q.xl) (y := q.yh) (by omega) (by omega)))]
  unfold inR
  refine xor_dec ?_
  have key : ∀ t, ¬(0 ≤ t ∧ t ≤ n ∧ q.xl ≤ w.fx + t * sx ∧ w.fx + t * sx ≤ q.xh ∧ q.yl ≤ w.fy + t * sy ∧ w.fy + t * sy ≤ q.yh) := fun t ht => nh ⟨t, ht⟩
  have hn := h.hn
  have hxy := h.hxy
  unfold bes
  rw [h.tx, h.ty]
  have k := key ((q.xl - w.fx) * sx)
  clear key nh
  rcases h.hx with rfl | rfl | rfl <;> rcases h.hy with rfl | rfl | rfl <;> (try (exact absurd ⟨rfl, rfl⟩ hxy)) <;> simp only [Int.mul_zero, Int.mul_one, Int.mul_neg, Int.zero_mul, Int.neg_mul, Int.one_mul, Int.neg_neg, Int.zero_add, Int.add_zero] at k ⊢ <;> omega

/-- No wall has a point of the rectangle. -/
def NoHit (cs : List (Int × Int)) (q : Rc) : Prop := ∀ w ∈ wls cs, ∀ n sx sy, Str w n sx sy → ¬hit w n sx sy q
theorem nohit_has {w : Wl} {n sx sy x y : Int} {q : Rc} (h : Str w n sx sy) (hq : RcOk q) (nh : ¬hit w n sx sy q) (h1 : q.xl ≤ x) (h2 : x ≤ q.xh) (h3 : q.yl ≤ y) (h4 : y ≤ q.yh) : w.has x y 1 = false := by
  rw [Bool.eq_false_iff]
  intro hh
  rw [whas_iff h (ptOk_c (by have := hq.b1; have := hq.b2; omega) (by have := hq.b3; have := hq.b4; omega)), on_iff h] at hh
  obtain ⟨t, a, b, rfl, rfl⟩ := hh
  exact nh ⟨t, a, b, h1, h2, h3, h4⟩
theorem corners_same {h : Hal} {q : Rc} (hs : AllStr h.cs) (hq : RcOk q) (nh : NoHit h.cs q) : inPlan h q.xh q.yl 1 = inPlan h q.xl q.yl 1 ∧ inPlan h q.xl q.yh 1 = inPlan h q.xl q.yl 1 ∧ inPlan h q.xh q.yh 1 = inPlan h q.xl q.yl 1 := by
  have q1 := hq.x
  have q2 := hq.y
  have e : ∀ x y, q.xl ≤ x → x ≤ q.xh → q.yl ≤ y → y ≤ q.yh → inPlan h x y 1 = xorL ((wls h.cs).map (flips x y 1)) := by
    intro x y h1 h2 h3 h4
    unfold inPlan
    rw [inPl_xor _ _ (fun w hw => by
      obtain ⟨n, sx, sy, g⟩ := wls_str hs w hw
      exact nohit_has g hq (nh w hw _ _ _ g) h1 h2 h3 h4), Bool.false_xor]
  have hh : ∀ Y, q.yl ≤ Y → Y ≤ q.yh → (wls h.cs).map (flips q.xh Y 1) = (wls h.cs).map (flips q.xl Y 1) := by
    intro Y h1 h2
    refine List.map_congr_left fun w hw => ?_
    obtain ⟨n, sx, sy, g⟩ := wls_str hs w hw
    exact (flips_h g hq (nh w hw _ _ _ g) h1 h2).symm
  have hv : (xorL ((wls h.cs).map (flips q.xl q.yl 1)) ^^ xorL ((wls h.cs).map (flips q.xl q.yh 1))) = false := by
    rw [xorL_pair, ← tele (inR q.xl q.yl q.yh) h.cs]
    congr 1
    refine List.map_congr_left fun w hw => ?_
    obtain ⟨n, sx, sy, g⟩ := wls_str hs w hw
    exact flips_v g hq (nh w hw _ _ _ g)
  rw [e q.xh q.yl (by omega) (by omega) (by omega) (by omega), e q.xl q.yl (by omega) (by omega) (by omega) (by omega), e q.xl q.yh (by omega) (by omega) (by omega) (by omega), e q.xh q.yh (by omega) (by omega) (by omega) (by omega), hh q.yl (by omega) (by omega), hh q.yh (by omega) (by omega)]
  revert hv
  cases xorL ((wls h.cs).map (flips q.xl q.yl 1)) <;> cases xorL ((wls h.cs).map (flips q.xl q.yh 1)) <;> simp

/-! ### The edges of a canopy -/
def E1 (c : Can) : Wl := ⟨0, c.fx, c.fy, c.tx, c.fy⟩
def E2 (c : Can) : Wl := ⟨0, c.tx, c.fy, c.tx, c.ty⟩
def E3 (c : Can) : Wl := ⟨0, c.tx, c.ty, c.fx, c.ty⟩
def E4 (c : Can) : Wl := ⟨0, c.fx, c.ty, c.fx, c.fy⟩
theorem edge1_eq (c : Can) : edge1 c = (E1 c).ln := by unfold edge1 Wl.ln E1; simp only [Int.sub_self]; rfl
theorem edge2_eq (c : Can) : edge2 c = (E2 c).ln := by unfold edge2 Wl.ln E2; simp only [Int.sub_self]; rfl
theorem edge3_eq (c : Can) : edge3 c = (E3 c).ln := by
  unfold edge3 Wl.ln E3; simp only [Int.sub_self]
  have : IntKind.i64.wrap (0 - IntKind.i64.wrap (c.tx - c.fx)) = IntKind.i64.wrap (c.fx - c.tx) := by simp only [IntKind.wrap_i64]; omega
  rw [this]; rfl
theorem edge4_eq (c : Can) : edge4 c = (E4 c).ln := by
  unfold edge4 Wl.ln E4; simp only [Int.sub_self]
  have : IntKind.i64.wrap (0 - IntKind.i64.wrap (c.ty - c.fy)) = IntKind.i64.wrap (c.fy - c.ty) := by simp only [IntKind.wrap_i64]; omega
  rw [this]; rfl
/-- The rectangle of a canopy may be. -/
structure CanOk (c : Can) : Prop where
  b1 : -5000 ≤ c.fx ∧ c.fx ≤ 5000
  b2 : -5000 ≤ c.fy ∧ c.fy ≤ 5000
  b3 : -5000 ≤ c.tx ∧ c.tx ≤ 5000
  b4 : -5000 ≤ c.ty ∧ c.ty ≤ 5000
  x : c.fx ≠ c.tx
  y : c.fy ≠ c.ty
abbrev Can.rc (c : Can) : Rc := rcOf c.fx c.fy c.tx c.ty
theorem rc_vals (c : Can) : (c.rc.xl = min c.fx c.tx ∧ c.rc.xh = max c.fx c.tx) ∧ (c.rc.yl = min c.fy c.ty ∧ c.rc.yh = max c.fy c.ty) := by
  unfold Can.rc rcOf imin imax
  refine ⟨⟨?_, ?_⟩, ?_, ?_⟩ <;> dsimp only
  · by_cases h : c.tx < c.fx <;> simp [h] <;> omega
  · by_cases h : c.fx < c.tx <;> simp [h] <;> omega
  · by_cases h : c.ty < c.fy <;> simp [h] <;> omega
  · by_cases h : c.fy < c.ty <;> simp [h] <;> omega
theorem CanOk.rcOk {c : Can} (h : CanOk c) : RcOk c.rc := by
  obtain ⟨⟨e1, e2⟩, e3, e4⟩ := rc_vals c
  obtain ⟨b1, b2, b3, b4, hx, hy⟩ := h
  exact ⟨by omega, by omega, by omega, by omega, by omega, by omega⟩
theorem edges_str {c : Can} (h : CanOk c) : ∃ m k sx sy, (sx = 1 ∨ sx = -1) ∧ (sy = 1 ∨ sy = -1) ∧ c.tx = c.fx + m * sx ∧ c.ty = c.fy + k * sy ∧ Str (E1 c) m sx 0 ∧ Str (E2 c) k 0 sy ∧ Str (E3 c) m (-sx) 0 ∧ Str (E4 c) k 0 (-sy) := by
  obtain ⟨b1, b2, b3, b4, hx, hy⟩ := h
  have hx' : c.fx < c.tx ∨ c.tx < c.fx := by omega
  have hy' : c.fy < c.ty ∨ c.ty < c.fy := by omega
  rcases hx' with hx' | hx' <;> rcases hy' with hy' | hy'
  · refine ⟨c.tx - c.fx, c.ty - c.fy, 1, 1, .inl rfl, .inl rfl, by omega, by omega, ?_, ?_, ?_, ?_⟩ <;> constructor <;> (try simp only [E1, E2, E3, E4]) <;> first | omega | decide
  · refine ⟨c.tx - c.fx, c.fy - c.ty, 1, -1, .inl rfl, .inr rfl, by omega, by omega, ?_, ?_, ?_, ?_⟩ <;> constructor <;> (try simp only [E1, E2, E3, E4]) <;> first | omega | decide
  · refine ⟨c.fx - c.tx, c.ty - c.fy, -1, 1, .inr rfl, .inl rfl, by omega, by omega, ?_, ?_, ?_, ?_⟩ <;> constructor <;> (try simp only [E1, E2, E3, E4]) <;> first | omega | decide
  · refine ⟨c.fx - c.tx, c.fy - c.ty, -1, -1, .inr rfl, .inr rfl, by omega, by omega, ?_, ?_, ?_, ?_⟩ <;> constructor <;> (try simp only [E1, E2, E3, E4]) <;> first | omega | decide
theorem first_in {P : Int → Prop} (hd : ∀ t, P t ∨ ¬P t) : ∀ (k : Nat), P k → P 0 ∨ ∃ t : Int, 1 ≤ t ∧ t ≤ k ∧ P t ∧ ¬P (t - 1)
  | 0, h => .inl h
  | k + 1, h => by
    rcases hd (k : Int) with h0 | h0
    · rcases first_in hd k h0 with h1 | ⟨t, a, b, c, d⟩
      · exact .inl h1
      · exact .inr ⟨t, a, by omega, c, d⟩
    · exact .inr ⟨(k : Int) + 1, by omega, by omega, by simpa using h, by simpa using h0⟩
set_option maxHeartbeats 8000000 in
theorem hit_iff {c : Can} (hc : CanOk c) {w : Wl} {n sx sy : Int} (h : Str w n sx sy) : hit w n sx sy c.rc ↔ ((E1 c).touches w = true ∨ (E2 c).touches w = true ∨ (E3 c).touches w = true ∨ (E4 c).touches w = true) ∨ (c.rc.xl ≤ w.fx ∧ w.fx ≤ c.rc.xh ∧ c.rc.yl ≤ w.fy ∧ w.fy ≤ c.rc.yh) := by
  obtain ⟨⟨e1, e2⟩, e3, e4⟩ := rc_vals c
  obtain ⟨m, k, ux, uy, hux, huy, hm, hk, s1, s2, s3, s4⟩ := edges_str hc
  have hm0 := s1.hn
  have hk0 := s2.hn
  rw [touch_common s1 h (.inr rfl), touch_common s2 h (.inl rfl), touch_common s3 h (.inr rfl), touch_common s4 h (.inl rfl)]
  rw [e1, e2, e3, e4]
  constructor
  · rintro ⟨t, t0, t1, g1, g2, g3, g4⟩
    rw [e1] at g1; rw [e2] at g2; rw [e3] at g3; rw [e4] at g4
    have hf := first_in (P := fun t => min c.fx c.tx ≤ w.fx + t * sx ∧ w.fx + t * sx ≤ max c.fx c.tx ∧ min c.fy c.ty ≤ w.fy + t * sy ∧ w.fy + t * sy ≤ max c.fy c.ty) (fun t => Classical.em _) t.toNat (by rw [Int.toNat_of_nonneg t0]; exact ⟨g1, g2, g3, g4⟩)
    rcases hf with hf | ⟨u, u1, u2, ⟨f1, f2, f3, f4⟩, hn⟩
    · refine .inr ?_
      simpa using hf
    · refine .inl ?_
      have hb : w.fx + u * sx = c.fx ∨ w.fx + u * sx = c.tx ∨ w.fy + u * sy = c.fy ∨ w.fy + u * sy = c.ty := by
        rw [Int.sub_mul, Int.sub_mul] at hn
        have hx := h.hx
        have hy := h.hy
        generalize u * sx = U at *
        generalize u * sy = V at *
        omega
      unfold common
      rcases hb with hb | hb | hb | hb
      · refine .inr (.inr (.inr ⟨u, (c.ty - (w.fy + u * sy)) * uy, by omega, by omega, ?_, ?_, ?_, ?_⟩)) <;> (try simp only [E4]) <;> generalize u * sx = U at * <;> generalize u * sy = V at * <;> rcases huy with rfl | rfl <;> simp only [Int.mul_zero, Int.mul_one, Int.mul_neg, Int.neg_neg, Int.add_zero] at * <;> omega
      · refine .inr (.inl ⟨u, ((w.fy + u * sy) - c.fy) * uy, by omega, by omega, ?_, ?_, ?_, ?_⟩) <;> (try simp only [E2]) <;> generalize u * sx = U at * <;> generalize u * sy = V at * <;> rcases huy with rfl | rfl <;> simp only [Int.mul_zero, Int.mul_one, Int.mul_neg, Int.neg_neg, Int.add_zero] at * <;> omega
      · refine .inl ⟨u, ((w.fx + u * sx) - c.fx) * ux, by omega, by omega, ?_, ?_, ?_, ?_⟩ <;> (try simp only [E1]) <;> generalize u * sx = U at * <;> generalize u * sy = V at * <;> rcases hux with rfl | rfl <;> simp only [Int.mul_zero, Int.mul_one, Int.mul_neg, Int.neg_neg, Int.add_zero] at * <;> omega
      · refine .inr (.inr (.inl ⟨u, (c.tx - (w.fx + u * sx)) * ux, by omega, by omega, ?_, ?_, ?_, ?_⟩)) <;> (try simp only [E3]) <;> generalize u * sx = U at * <;> generalize u * sy = V at * <;> rcases hux with rfl | rfl <;> simp only [Int.mul_zero, Int.mul_one, Int.mul_neg, Int.neg_neg, Int.add_zero] at * <;> omega
  · rintro ((⟨t, s, t0, t1, s0, s1, c1, c2⟩ | ⟨t, s, t0, t1, s0, s1, c1, c2⟩ | ⟨t, s, t0, t1, s0, s1, c1, c2⟩ | ⟨t, s, t0, t1, s0, s1, c1, c2⟩) | hc)
    all_goals first
      | (refine ⟨t, t0, t1, ?_⟩
         rw [e1, e2, e3, e4]
         simp only [E1, E2, E3, E4] at c1 c2
         rw [c1, c2]
         rcases hux with rfl | rfl <;> rcases huy with rfl | rfl <;> simp only [Int.mul_zero, Int.mul_one, Int.mul_neg, Int.neg_neg, Int.add_zero] at * <;> omega)
      | (refine ⟨0, by omega, by have := h.hn; omega, ?_⟩
         rw [e1, e2, e3, e4]
         simpa using hc)
theorem inBnd_iff {c : Can} (hc : CanOk c) (x y : Int) : inBnd c ⟨x, y, 0, 1⟩ = true ↔ (c.rc.xl ≤ x ∧ x ≤ c.rc.xh) ∧ (c.rc.yl ≤ y ∧ y ≤ c.rc.yh) := by
  have q := hc.rcOk
  have q1 := q.x
  have q2 := q.y
  have q3 := q.b1
  have q4 := q.b2
  have q5 := q.b3
  have q6 := q.b4
  unfold inBnd
  show (within x (IntKind.i64.wrap (c.rc.xl * 1)) (IntKind.i64.wrap (c.rc.xh * 1)) && within y (IntKind.i64.wrap (c.rc.yl * 1)) (IntKind.i64.wrap (c.rc.yh * 1))) = true ↔ _
  rw [Int.mul_one, Int.mul_one, Int.mul_one, Int.mul_one, W_eq (n := c.rc.xl) (by omega) (by omega), W_eq (n := c.rc.xh) (by omega) (by omega), W_eq (n := c.rc.yl) (by omega) (by omega), W_eq (n := c.rc.yh) (by omega) (by omega), Bool.and_eq_true, within_iff, within_iff]
theorem edgesGo_iff (h : Hal) : ∀ l : List Ln, edgesGo h l = true ↔ ∀ e ∈ l, inPlanR h e.a = true ∧ touchAny h e = false
  | [] => by simp [edgesGo]
  | e :: l => by
    rw [edgesGo]
    have ih := edgesGo_iff h l
    cases h1 : inPlanR h e.a <;> cases h2 : touchAny h e <;> simp [h1, h2, ih]
theorem rect_eq {h : Hal} {c : Can} (hs : AllStr h.cs) (hc : CanOk c) : insideR h c.rc = rectOk h c := by
  have hq := hc.rcOk
  have q1 := hq.x
  have q2 := hq.y
  have q3 := hq.b1
  have q4 := hq.b2
  have q5 := hq.b3
  have q6 := hq.b4
  obtain ⟨⟨e1, e2⟩, e3, e4⟩ := rc_vals c
  obtain ⟨m, k, ux, uy, hux, huy, hm, hk, s1, s2, s3, s4⟩ := edges_str hc
  have hA : (insideR h c.rc = true) ↔ NoHit h.cs c.rc ∧ inPlan h c.rc.xl c.rc.yl 1 = true := by
    unfold insideR NoHit
    rw [Bool.and_eq_true, List.all_eq_true]
    refine and_congr ⟨fun hh w hw n sx sy g hit => ?_, fun hh w hw => ?_⟩ Iff.rfl
    · have := hh w hw
      rw [(meets_iff g hq).2 hit] at this
      cases this
    · obtain ⟨n, sx, sy, g⟩ := wls_str hs w hw
      have := hh w hw n sx sy g
      rw [← meets_iff g hq] at this
      simpa using this
  have tch : ∀ (e : Wl) {m ex ey : Int}, Str e m ex ey → (touchAny h e.ln = false ↔ ∀ w ∈ wls h.cs, e.touches w = false) := by
    intro e m ex ey g
    unfold touchAny
    rw [lns_eq, List.any_map, List.any_eq_false]
    refine ⟨fun hh w hw => ?_, fun hh w hw => ?_⟩
    · obtain ⟨n, sx, sy, gw⟩ := wls_str hs w hw
      have := hh w hw
      rw [Function.comp, ← touches_eq g gw] at this
      simpa using this
    · obtain ⟨n, sx, sy, gw⟩ := wls_str hs w hw
      rw [Function.comp, ← touches_eq g gw]
      simpa using hh w hw
  have bnd : ((h.cs.any fun p => inBnd c ⟨p.1, p.2, 0, 1⟩) = false) ↔ ∀ w ∈ wls h.cs, ¬(c.rc.xl ≤ w.fx ∧ w.fx ≤ c.rc.xh ∧ c.rc.yl ≤ w.fy ∧ w.fy ≤ c.rc.yh) := by
    rw [List.any_eq_false]
    refine ⟨fun hh w hw hin => ?_, fun hh p hp hin => ?_⟩
    · simp only [wls, List.mem_map, List.mem_range] at hw
      obtain ⟨i, hi, rfl⟩ := hw
      refine hh (cor h.cs i) (by rw [cor_get hi]; exact List.getElem_mem hi) ?_
      rw [inBnd_iff hc]
      exact ⟨⟨hin.1, hin.2.1⟩, hin.2.2.1, hin.2.2.2⟩
    · rw [inBnd_iff hc] at hin
      obtain ⟨i, hi, rfl⟩ := List.mem_iff_getElem.1 hp
      refine hh (wlOf h.cs i) (by simp only [wls, List.mem_map, List.mem_range]; exact ⟨i, hi, rfl⟩) ?_
      simp only [wlOf, cor_get hi]
      exact ⟨hin.1.1, hin.1.2, hin.2.1, hin.2.2⟩
  have hB : rectOk h c = true ↔ NoHit h.cs c.rc ∧ (inPlan h c.fx c.fy 1 = true ∧ inPlan h c.tx c.fy 1 = true ∧ inPlan h c.tx c.ty 1 = true ∧ inPlan h c.fx c.ty 1 = true) := by
    unfold rectOk edges
    rw [Bool.and_eq_true, edgesGo_iff, Bool.not_eq_true', bnd, edge1_eq, edge2_eq, edge3_eq, edge4_eq]
    simp only [List.mem_cons, List.not_mem_nil, or_false, forall_eq_or_imp, forall_eq]
    rw [tch _ s1, tch _ s2, tch _ s3, tch _ s4]
    have p1 : inPlanR h (E1 c).ln.a = inPlan h c.fx c.fy 1 := (inPlan_eq hs 0 (ptOk_c hc.b1 hc.b2)).symm
    have p2 : inPlanR h (E2 c).ln.a = inPlan h c.tx c.fy 1 := (inPlan_eq hs 0 (ptOk_c hc.b3 hc.b2)).symm
    have p3 : inPlanR h (E3 c).ln.a = inPlan h c.tx c.ty 1 := (inPlan_eq hs 0 (ptOk_c hc.b3 hc.b4)).symm
    have p4 : inPlanR h (E4 c).ln.a = inPlan h c.fx c.ty 1 := (inPlan_eq hs 0 (ptOk_c hc.b1 hc.b4)).symm
    rw [p1, p2, p3, p4]
    unfold NoHit
    constructor
    · rintro ⟨⟨⟨a1, b1⟩, ⟨a2, b2⟩, ⟨a3, b3⟩, ⟨a4, b4⟩⟩, b5⟩
      refine ⟨fun w hw n sx sy g hh => ?_, a1, a2, a3, a4⟩
      rw [hit_iff hc g] at hh
      rcases hh with (hh | hh | hh | hh) | hh
      · rw [b1 w hw] at hh; cases hh
      · rw [b2 w hw] at hh; cases hh
      · rw [b3 w hw] at hh; cases hh
      · rw [b4 w hw] at hh; cases hh
      · exact b5 w hw hh
    · rintro ⟨nh, a1, a2, a3, a4⟩
      have key : ∀ w ∈ wls h.cs, ¬(((E1 c).touches w = true ∨ (E2 c).touches w = true ∨ (E3 c).touches w = true ∨ (E4 c).touches w = true) ∨ (c.rc.xl ≤ w.fx ∧ w.fx ≤ c.rc.xh ∧ c.rc.yl ≤ w.fy ∧ w.fy ≤ c.rc.yh)) := by
        intro w hw hh
        obtain ⟨n, sx, sy, g⟩ := wls_str hs w hw
        exact nh w hw n sx sy g ((hit_iff hc g).2 hh)
      refine ⟨⟨⟨a1, fun w hw => ?_⟩, ⟨a2, fun w hw => ?_⟩, ⟨a3, fun w hw => ?_⟩, ⟨a4, fun w hw => ?_⟩⟩, fun w hw hh => key w hw (.inr hh)⟩
      · rw [Bool.eq_false_iff]; exact fun hh => key w hw (.inl (.inl hh))
      · rw [Bool.eq_false_iff]; exact fun hh => key w hw (.inl (.inr (.inl hh)))
      · rw [Bool.eq_false_iff]; exact fun hh => key w hw (.inl (.inr (.inr (.inl hh))))
      · rw [Bool.eq_false_iff]; exact fun hh => key w hw (.inl (.inr (.inr (.inr hh))))
  rw [Bool.eq_iff_iff, hA, hB]
  refine and_congr_right fun nh => ?_
  obtain ⟨g1, g2, g3⟩ := corners_same hs hq nh
  have hx : (c.fx = c.rc.xl ∧ c.tx = c.rc.xh) ∨ (c.fx = c.rc.xh ∧ c.tx = c.rc.xl) := by omega
  have hy : (c.fy = c.rc.yl ∧ c.ty = c.rc.yh) ∨ (c.fy = c.rc.yh ∧ c.ty = c.rc.yl) := by omega
  rcases hx with ⟨x1, x2⟩ | ⟨x1, x2⟩ <;> rcases hy with ⟨y1, y2⟩ | ⟨y1, y2⟩ <;> rw [x1, x2, y1, y2] <;> simp only [g1, g2, g3, and_self]
end Go.Proofs.YtdaliaafmcjikaaGreat
