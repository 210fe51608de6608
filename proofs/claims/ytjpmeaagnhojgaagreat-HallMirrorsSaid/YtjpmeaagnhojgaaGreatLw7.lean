/- A part of the proof: lemmas. -/
import Derived.Test.YtjpmeaagnhojgaaGreatSx3
import Derived.Test.YtjpmeaagnhojgaaGreatSx6
import Derived.IntWalk
import Derived.KernelRfl
import Derived.Test.YtjpmeaagnhojgaaGreatProg
import Derived.Test.YtjpmeaagnhojgaaGreatRows
set_option linter.unusedVariables false
set_option linter.unusedSimpArgs false
namespace Go.Proofs.YtjpmeaagnhojgaaGreat
open Go Go.Sx
noncomputable def tbl : List (Nat × TI) :=
  [(3, ⟨.int .i64, 1, 8, false, [.int .i64 0]⟩),
   (4, ⟨.bool, 1, 1, false, [.bool false]⟩),
   (5, ⟨.int .u8, 1, 1, false, [.int .u8 0]⟩),
   (9, ⟨.string, 1, 16, false, [.str ⟨#[]⟩]⟩),
   (22, ⟨.slice 108, 1, 24, false, [.nils]⟩),
   (23, ⟨.slice 85, 1, 24, false, [.nils]⟩),
   (24, ⟨.slice 87, 1, 24, false, [.nils]⟩),
   (25, ⟨.slice 129, 1, 24, false, [.nils]⟩),
   (26, ⟨.slice 131, 1, 24, false, [.nils]⟩),
   (28, ⟨.struct #[⟨ "Name", 9, 0, false, "", "", 0⟩, ⟨ "Height", 3, 1, false, "", "", 16⟩, ⟨ "Floor", 9, 2, false, "", "", 24⟩, ⟨ "Ceiling", 9, 3, false, "", "", 40⟩, ⟨ "Materials", 22, 4, false, "", "", 56⟩, ⟨ "Corners", 23, 5, false, "", "", 80⟩, ⟨ "Walls", 24, 6, false, "", "", 104⟩, ⟨ "Canopies", 25, 7, false, "", "", 128⟩, ⟨ "Seats", 26, 8, false, "", "", 152⟩], 9, 176, true, [.str ⟨#[]⟩, .int .i64 0, .str ⟨#[]⟩, .str ⟨#[]⟩, .nils, .nils, .nils, .nils, .nils]⟩),
   (29, ⟨.slice 3, 1, 24, false, [.nils]⟩),
   (31, ⟨.struct #[⟨ "Heights", 29, 0, false, "", "", 0⟩, ⟨ "Drawn", 29, 1, false, "", "", 24⟩], 2, 48, true, [.nils, .nils]⟩),
   (36, ⟨.int .i64, 1, 8, false, [.int .i64 0]⟩),
   (48, ⟨.struct #[⟨ "Lo", 3, 0, false, "", "", 0⟩, ⟨ "Hi", 3, 1, false, "", "", 8⟩], 2, 16, true, [.int .i64 0, .int .i64 0]⟩),
   (56, ⟨.struct #[⟨ "Kind", 3, 0, false, "", "", 0⟩, ⟨ "At", 3, 1, false, "", "", 8⟩], 2, 16, true, [.int .i64 0, .int .i64 0]⟩),
   (58, ⟨.struct #[⟨ "X", 3, 0, false, "", "", 0⟩, ⟨ "Y", 3, 1, false, "", "", 8⟩, ⟨ "Z", 3, 2, false, "", "", 16⟩], 3, 24, true, [.int .i64 0, .int .i64 0, .int .i64 0]⟩),
   (66, ⟨.struct #[⟨ "X", 3, 0, false, "", "", 0⟩, ⟨ "Y", 3, 1, false, "", "", 8⟩, ⟨ "Z", 3, 2, false, "", "", 16⟩, ⟨ "Den", 3, 3, false, "", "", 24⟩], 4, 32, true, [.int .i64 0, .int .i64 0, .int .i64 0, .int .i64 0]⟩),
   (70, ⟨.struct #[⟨ "From", 66, 0, false, "", "", 0⟩, ⟨ "To", 66, 4, false, "", "", 32⟩], 8, 64, true, [.int .i64 0, .int .i64 0, .int .i64 0, .int .i64 0, .int .i64 0, .int .i64 0, .int .i64 0, .int .i64 0]⟩),
   (76, ⟨.struct #[⟨ "Surface", 3, 0, false, "", "", 0⟩, ⟨ "From", 58, 1, false, "", "", 8⟩, ⟨ "To", 66, 4, false, "", "", 32⟩], 8, 64, true, [.int .i64 0, .int .i64 0, .int .i64 0, .int .i64 0, .int .i64 0, .int .i64 0, .int .i64 0, .int .i64 0]⟩),
   (85, ⟨.struct #[⟨ "X", 3, 0, false, "", "", 0⟩, ⟨ "Y", 3, 1, false, "", "", 8⟩], 2, 16, true, [.int .i64 0, .int .i64 0]⟩),
   (87, ⟨.struct #[⟨ "Name", 9, 0, false, "", "", 0⟩, ⟨ "Material", 9, 1, false, "", "", 16⟩, ⟨ "Curtain", 9, 2, false, "", "", 32⟩], 3, 48, true, [.str ⟨#[]⟩, .str ⟨#[]⟩, .str ⟨#[]⟩]⟩),
   (103, ⟨.array 4 3, 4, 32, true, [.int .i64 0, .int .i64 0, .int .i64 0, .int .i64 0]⟩),
   (108, ⟨.struct #[⟨ "Name", 9, 0, false, "", "", 0⟩, ⟨ "Absorbed", 103, 1, false, "", "", 16⟩, ⟨ "Scattered", 3, 5, false, "", "", 48⟩], 6, 56, true, [.str ⟨#[]⟩, .int .i64 0, .int .i64 0, .int .i64 0, .int .i64 0, .int .i64 0]⟩),
   (111, ⟨.struct #[⟨ "List", 3, 0, false, "", "", 0⟩, ⟨ "Number", 3, 1, false, "", "", 8⟩], 2, 16, true, [.int .i64 0, .int .i64 0]⟩),
   (114, ⟨.slice 9, 1, 24, false, [.nils]⟩),
   (129, ⟨.struct #[⟨ "Name", 9, 0, false, "", "", 0⟩, ⟨ "Material", 9, 1, false, "", "", 16⟩, ⟨ "From", 85, 2, false, "", "", 32⟩, ⟨ "To", 85, 4, false, "", "", 48⟩, ⟨ "Heights", 29, 6, false, "", "", 64⟩], 7, 88, true, [.str ⟨#[]⟩, .str ⟨#[]⟩, .int .i64 0, .int .i64 0, .int .i64 0, .int .i64 0, .nils]⟩),
   (131, ⟨.struct #[⟨ "Name", 9, 0, false, "", "", 0⟩, ⟨ "At", 58, 1, false, "", "", 16⟩], 4, 40, true, [.str ⟨#[]⟩, .int .i64 0, .int .i64 0, .int .i64 0]⟩),
   (133, ⟨.struct #[⟨ "Hall", 28, 0, true, "", "", 0⟩], 9, 176, true, [.str ⟨#[]⟩, .int .i64 0, .str ⟨#[]⟩, .str ⟨#[]⟩, .nils, .nils, .nils, .nils, .nils]⟩),
   (146, ⟨.struct #[⟨ "room", 133, 0, true, "", "shoebox/hall", 0⟩, ⟨ "HallSetting", 31, 9, true, "", "", 176⟩], 11, 224, true, [.str ⟨#[]⟩, .int .i64 0, .str ⟨#[]⟩, .str ⟨#[]⟩, .nils, .nils, .nils, .nils, .nils, .nils, .nils]⟩),
   (161, ⟨.array 5 3, 5, 40, true, [.int .i64 0, .int .i64 0, .int .i64 0, .int .i64 0, .int .i64 0]⟩),
   (164, ⟨.func #[] #[36] false, 1, 8, false, [.any]⟩),
   (169, ⟨.struct #[⟨ "X", 3, 0, false, "", "", 0⟩, ⟨ "Y", 3, 1, false, "", "", 8⟩, ⟨ "DX", 3, 2, false, "", "", 16⟩, ⟨ "DY", 3, 3, false, "", "", 24⟩], 4, 32, true, [.int .i64 0, .int .i64 0, .int .i64 0, .int .i64 0]⟩),
   (183, ⟨.map 9 4, 1, 8, false, [.any]⟩),
   (184, ⟨.func #[] #[3, 36] false, 1, 8, false, [.any]⟩),
   (187, ⟨.struct #[⟨ "list", 3, 0, false, "", "shoebox/hall", 0⟩, ⟨ "check", 184, 1, false, "", "shoebox/hall", 8⟩], 2, 16, true, [.int .i64 0, .any]⟩),
   (191, ⟨.func #[3] #[36] false, 1, 8, false, [.any]⟩),
   (194, ⟨.struct #[⟨ "number", 3, 0, false, "", "shoebox/hall", 0⟩, ⟨ "from", 85, 1, false, "", "shoebox/hall", 8⟩, ⟨ "to", 85, 3, false, "", "shoebox/hall", 24⟩], 5, 40, true, [.int .i64 0, .int .i64 0, .int .i64 0, .int .i64 0, .int .i64 0]⟩),
   (198, ⟨.array 15 187, 30, 240, true, [.int .i64 0, .any, .int .i64 0, .any, .int .i64 0, .any, .int .i64 0, .any, .int .i64 0, .any, .int .i64 0, .any, .int .i64 0, .any, .int .i64 0, .any, .int .i64 0, .any, .int .i64 0, .any, .int .i64 0, .any, .int .i64 0, .any, .int .i64 0, .any, .int .i64 0, .any, .int .i64 0, .any]⟩),
   (204, ⟨.struct #[⟨ "x", 48, 0, false, "", "shoebox/hall", 0⟩, ⟨ "y", 48, 2, false, "", "shoebox/hall", 16⟩], 4, 32, true, [.int .i64 0, .int .i64 0, .int .i64 0, .int .i64 0]⟩),
   (208, ⟨.func #[108] #[4] false, 1, 8, false, [.any]⟩),
   (209, ⟨.slice 164, 1, 24, false, [.nils]⟩),
   (211, ⟨.struct #[⟨ "from", 66, 0, false, "", "shoebox/hall", 0⟩, ⟨ "to", 66, 4, false, "", "shoebox/hall", 32⟩], 8, 64, true, [.int .i64 0, .int .i64 0, .int .i64 0, .int .i64 0, .int .i64 0, .int .i64 0, .int .i64 0, .int .i64 0]⟩),
   (220, ⟨.slice 5, 1, 24, false, [.nils]⟩),
   (225, ⟨.array 4 169, 16, 128, true, [.int .i64 0, .int .i64 0, .int .i64 0, .int .i64 0, .int .i64 0, .int .i64 0, .int .i64 0, .int .i64 0, .int .i64 0, .int .i64 0, .int .i64 0, .int .i64 0, .int .i64 0, .int .i64 0, .int .i64 0, .int .i64 0]⟩),
   (228, ⟨.float .f64, 1, 8, false, [.flt .f64 0]⟩),
   (237, ⟨.array 4 85, 8, 64, true, [.int .i64 0, .int .i64 0, .int .i64 0, .int .i64 0, .int .i64 0, .int .i64 0, .int .i64 0, .int .i64 0]⟩),
   (238, ⟨.int .u64, 1, 8, false, [.int .u64 0]⟩)]
def eqs : List Nat := [28, 31, 48, 56, 58, 66, 70, 76, 85, 87, 103, 108, 111, 129, 131, 133, 146, 169, 187, 194, 204, 211]

theorem tblOK : (tbl.map fun p => mkTI Tryz.prog p.1) = tbl.map fun p => some p.2 := by kernel_rfl
theorem tabOK : TabOK Tryz.prog (tget tbl) := tabOK_of tblOK
theorem eqsOK : (eqs.all fun t => !Tryz.prog.stoodInHeld t && !Tryz.prog.eqGuardType Tryz.prog.depth t) = true := by kernel_rfl
theorem eqOK : EqOK Tryz.prog (memN eqs) := eqOK_of eqsOK
end Go.Proofs.YtjpmeaagnhojgaaGreat
namespace Go.Proofs.YtjpmeaagnhojgaaGreat
open Go Go.Sx
abbrev I (n : Int) : AV := .int .i64 n
def pt0 : PC := fun _ _ => none
theorem pt0_ok : PCOK Tryz.prog pt0 := fun _ _ _ h => by cases h
theorem mixed : Tryz.prog.follows .mixedOrders = true := by kernel_rfl
noncomputable def bs : Base Tryz.prog := ⟨tget tbl, memN eqs, tabOK, eqOK, mixed⟩
def nos : FuncId → Bool := fun _ => false
def sgn (n : Int) : Int := if n > 0 then 1 else if n < 0 then -1 else 0
theorem c115 (n : Int) : PCall Tryz.prog 115 [I n] ⟨I (sgn n), []⟩ := by
  refine bs.pcall (sx := nos) pt0_ok Tryz.func115 (by kernel_rfl) (by kernel_rfl) rfl ?_
  refine Br.intro (fun h1 => ?_) (fun h1 => ?_)
  · exact exports_int (by simp at h1; simp [sgn, h1])
  · refine Br.intro (fun h2 => ?_) (fun h2 => ?_)
    · exact exports_int (by simp at h1 h2; simp [sgn, h2, Int.not_lt.2 h1])
    · exact exports_int (by simp at h1 h2; simp [sgn, Int.not_lt.2 h2, Int.not_lt.2 h1])

set_option maxHeartbeats 1000000 in
theorem c145 {nm ht fl ce ms wa ca se : AV} {es : List (List AV)} {i : Nat} {x y u v : Int} (hn : es.length < 1000) (h1 : es[i]? = some [I x, I y]) (h2 : es[(i + 1) % es.length]? = some [I u, I v]) :
    PCall Tryz.prog 145 [.agg [nm, ht, fl, ce, ms, .isl 2 es, wa, ca, se], I i] ⟨.agg [I i, I x, I y, I u, I v], []⟩ := by
  have hi : i < es.length := (List.getElem?_eq_some_iff.1 h1).1
  have hw : IntKind.i64.wrap ((i : Int) + 1) = ((i + 1 : Nat) : Int) := IntWalk.i64_in _ ⟨by omega, by omega⟩
  have hm : (IntKind.i64.wrap ((i : Int) + 1)).tmod (es.length : Int) = (((i + 1) % es.length : Nat) : Int) := by rw [hw]; rfl
  refine bs.pcall (sx := nos) pt0_ok Tryz.func145 (by kernel_rfl) (by kernel_rfl) rfl ?_
  refine Got.intro h1 ?_
  have hp : 0 < es.length := by omega
  refine As.np (by omega) ?_
  refine As.p (by rw [hm]; exact Int.natCast_nonneg _) ?_
  refine Got.intro (x := [I u, I v]) (by rw [hm]; exact h2) ?_
  refine Dr.intro (by kernel_rfl) ?_
  refine Got.intro rfl ?_
  exact exports_of rfl rfl

abbrev pt (p : Int × Int) : List AV := [I p.1, I p.2]
def cor (ps : List (Int × Int)) (i : Nat) : Int × Int := ps.getD i (0, 0)
def wallV (ps : List (Int × Int)) (i : Nat) : AV := .agg [I i, I (cor ps i).1, I (cor ps i).2, I (cor ps ((i + 1) % ps.length)).1, I (cor ps ((i + 1) % ps.length)).2]
def wallsX (ps : List (Int × Int)) : List (List AV) := (List.range ps.length).map fun i => [wallV ps i]

theorem es_get {ps : List (Int × Int)} {i : Nat} (h : i < ps.length) : (ps.map pt)[i]? = some [I (cor ps i).1, I (cor ps i).2] := by
  simp [cor, h]

def r145 : List AV → Option PRes
  | [.agg [_, _, _, _, _, .isl 2 es, _, _, _], .int .i64 (.ofNat i)] => match es[i]?, es[(i + 1) % es.length]? with
    | some [.int .i64 x, .int .i64 y], some [.int .i64 u, .int .i64 v] => cond (Nat.blt es.length 1000) (some ⟨.agg [I i, I x, I y, I u, I v], []⟩) none
    | _, _ => none
  | _ => none
def pcW : PC := fun f a => cond (Nat.beq f 145) (r145 a) none
theorem pcW_ok : PCOK Tryz.prog pcW := by
  intro f a res h
  unfold pcW at h
  cases hb : Nat.beq f 145 with
  | false => rw [hb] at h; cases h
  | true =>
    rw [hb] at h
    rw [Nat.eq_of_beq_eq_true hb]
    simp only [cond_true] at h
    unfold r145 at h
    split at h
    · split at h
      · rename_i h1 h2
        obtain ⟨h3, h4⟩ := cond_some h
        cases h4
        exact c145 (by simpa [Nat.blt_eq] using h3) h1 h2
      · cases h
    · cases h

theorem it180 {nm ht fl ce ms wa ca se : AV} {ps : List (Int × Int)} (hp : pureL [nm, ht, fl, ce, ms, wa, ca, se] = true) (hn : ps.length < 1000) :
    ItOK Tryz.prog 180 [.agg [nm, ht, fl, ce, ms, .isl 2 (ps.map pt), wa, ca, se]] [] (wallsX ps) := by
  refine bs.iter pcW_ok Tryz.func180 (by kernel_rfl) rfl (by kernel_rfl) fun B Ig l JX hI => ?_
  refine iloop_fam (S := Nat) (fun k => ps.length - k) (fun k => [(1, .yld l), (2, .ptr 0 0 0), (8, I ps.length), (9, I k)]) (fun _ => ⟨[(0, .row 9 [[nm, ht, fl, ce, ms, .isl 2 (ps.map pt), wa, ca, se]] true false)], 1⟩) (fun k => some ((wallsX ps).drop k)) [1, 2, 8, 9] [0] (fun k => k ≤ ps.length) ?_ 0 (Nat.zero_le _) ?_ rfl rfl
  · intro k hk
    refine bs.awpi pcW_ok hI ?_
    refine Br.dec (fun hlt => ?_) (fun hge => ?_)
    · have hlt : k < ps.length := by omega
      have hx : (wallsX ps).drop k = [wallV ps k] :: (wallsX ps).drop (k + 1) := by
        rw [List.drop_eq_getElem_cons (by simp [wallsX, hlt])]; simp [wallsX]
      rw [hx]
      have hpu : pureL [.agg [nm, ht, fl, ce, ms, .isl 2 (ps.map pt), wa, ca, se], I k] = true := by
        simp only [pureL, pureAV, Bool.and_eq_true, Bool.and_true] at hp ⊢; simp [hp]
      have hr : r145 [.agg [nm, ht, fl, ce, ms, .isl 2 (ps.map pt), wa, ca, se], I k] = some ⟨wallV ps k, []⟩ := by
        have e1 := es_get hlt
        have e2 := es_get (ps := ps) (i := (k + 1) % ps.length) (Nat.mod_lt _ (by omega))
        have hl : (ps.map pt).length = ps.length := by simp
        show (match (ps.map pt)[k]?, (ps.map pt)[(k + 1) % (ps.map pt).length]? with
          | some [.int .i64 x, .int .i64 y], some [.int .i64 u, .int .i64 v] => cond (Nat.blt (ps.map pt).length 1000) (some (PRes.mk (.agg [I k, I x, I y, I u, I v]) [])) none
          | _, _ => none) = _
        rw [hl, e1, e2]
        have : Nat.blt ps.length 1000 = true := by simpa [Nat.blt_eq] using hn
        simp only [this]; rfl
      refine Got.intro (viewL_pure _ hpu) ?_
      refine Got.intro hr ?_
      refine ⟨rfl, rfl, rfl, rfl, ?_, ?_⟩
      · refine ⟨k + 1, by omega, by omega, ?_, rfl, rfl⟩
        have hw : IntKind.i64.wrap ((k : Int) + 1) = ((k + 1 : Nat) : Int) := IntWalk.i64_in _ ⟨by omega, by omega⟩
        exact congrArg (fun x => [(1, AV.yld l), (2, .ptr 0 0 0), (8, I ps.length), (9, I x)]) hw
      · refine ⟨.inr rfl, .inr rfl, ?_⟩
        exact ⟨[], rfl⟩
    · have : k = ps.length := by omega
      subst this
      refine ⟨.inl rfl, .inl ?_, [], rfl⟩
      simp [wallsX]
  · exact congrArg (fun x : Nat => [(1, AV.yld l), (2, .ptr 0 0 0), (8, I x), (9, I 0)]) (by simp)

def backX (v : List AV → AV) (els : List (List AV)) : Nat → List (List AV)
  | 0 => []
  | m + 1 => [I m, v (els.getD m [])] :: backX v els m

def hd1 (e : List AV) : AV := e.headD .any

theorem pureLL_get {els : List (List AV)} (h : els.all pureL = true) {m : Nat} {e : List AV} (he : els[m]? = some e) : pureL e = true :=
  List.all_eq_true.1 h e (List.mem_of_getElem? he)

theorem it168 {els : List (List AV)} (hp : els.all (fun e => pureL e && Nat.beq e.length 1) = true) (hn : els.length < 100000) : ItOK Tryz.prog 168 [] [.ipt [.isl 1 els]] (backX hd1 els els.length) := by
  refine bs.iter pt0_ok Tryz.func168 (by kernel_rfl) rfl (by kernel_rfl) fun B Ig l JX hI => ?_
  refine iloop_fam (S := Nat) (fun m => m) (fun m => [(0, .yld l), (1, .ipt [.isl 1 els]), (3, I ((m : Int) - 1))]) (fun _ => ⟨[], 0⟩) (fun m => some (backX hd1 els m)) [0, 1, 3] [] (fun m => m ≤ els.length) ?_ els.length (Nat.le_refl _) ?_ rfl rfl
  · intro m hm
    refine bs.awpi pt0_ok hI ?_
    refine Br.dec (fun hge => ?_) (fun hlt => ?_)
    · cases m with
      | zero => omega
      | succ m =>
        have e0 : (((m + 1 : Nat) : Int) - 1) = (m : Int) := by omega
        rw [e0]
        have hlt : m < els.length := by omega
        have he := List.getElem?_eq_getElem hlt
        have hq := List.all_eq_true.1 hp _ (List.mem_of_getElem? he)
        simp only [Bool.and_eq_true] at hq
        obtain ⟨a, ha⟩ := List.length_eq_one_iff.1 (Nat.eq_of_beq_eq_true hq.2)
        rw [ha] at he hq
        refine Got.intro he ?_
        have e1 : [I m, hd1 (els.getD m [])] = [I m, a] := by simp [hd1, he]
        have e2 : pureL [I m, a] = true := by simpa [pureL, pureAV] using hq.1
        refine ⟨rfl, e1, e2, rfl, ?_, ?_⟩
        · refine ⟨m, by omega, by omega, ?_, rfl, rfl⟩
          have hw : IntKind.i64.wrap ((m : Int) - 1) = (m : Int) - 1 := IntWalk.i64_in _ ⟨by omega, by omega⟩
          exact congrArg (fun x => [(0, AV.yld l), (1, .ipt [.isl 1 els]), (3, I x)]) hw
        · exact ⟨.inr rfl, .inr rfl, [], rfl⟩
    · have : m = 0 := by omega
      subst this
      exact ⟨.inl rfl, .inl rfl, [], rfl⟩
  · have hw : IntKind.i64.wrap ((els.length : Int) - 1) = (els.length : Int) - 1 := IntWalk.i64_in _ ⟨by omega, by omega⟩
    exact congrArg (fun x => [(0, AV.yld l), (1, .ipt [.isl 1 els]), (3, I x)]) hw

theorem it169 {els : List (List AV)} (hp : els.all (fun e => pureL e && Nat.beq e.length 7) = true) (hn : els.length < 100000) : ItOK Tryz.prog 169 [] [.ipt [.isl 7 els]] (backX AV.agg els els.length) := by
  refine bs.iter pt0_ok Tryz.func169 (by kernel_rfl) rfl (by kernel_rfl) fun B Ig l JX hI => ?_
  refine iloop_fam (S := Nat) (fun m => m) (fun m => [(0, .yld l), (1, .ipt [.isl 7 els]), (3, I ((m : Int) - 1))]) (fun _ => ⟨[], 0⟩) (fun m => some (backX AV.agg els m)) [0, 1, 3] [] (fun m => m ≤ els.length) ?_ els.length (Nat.le_refl _) ?_ rfl rfl
  · intro m hm
    refine bs.awpi pt0_ok hI ?_
    refine Br.dec (fun hge => ?_) (fun hlt => ?_)
    · cases m with
      | zero => omega
      | succ m =>
        have e0 : (((m + 1 : Nat) : Int) - 1) = (m : Int) := by omega
        rw [e0]
        have hlt : m < els.length := by omega
        have he := List.getElem?_eq_getElem hlt
        have hq := List.all_eq_true.1 hp _ (List.mem_of_getElem? he)
        simp only [Bool.and_eq_true] at hq
        obtain ⟨hq1, hq2⟩ := hq
        have hq2 := Nat.eq_of_beq_eq_true hq2
        generalize els[m] = e at he hq1 hq2
        match e, hq2 with
        | [a, b, c, d, x, f, g], _ =>
        refine Got.intro he ?_
        have e1 : [I m, AV.agg (els.getD m [])] = [I m, .agg [a, b, c, d, x, f, g]] := by simp [he]
        have e2 : pureL [I m, .agg [a, b, c, d, x, f, g]] = true := by simpa [pureL, pureAV] using hq1
        refine ⟨rfl, e1, e2, rfl, ?_, ?_⟩
        · refine ⟨m, by omega, by omega, ?_, rfl, rfl⟩
          have hw : IntKind.i64.wrap ((m : Int) - 1) = (m : Int) - 1 := IntWalk.i64_in _ ⟨by omega, by omega⟩
          exact congrArg (fun x => [(0, AV.yld l), (1, .ipt [.isl 7 els]), (3, I x)]) hw
        · exact ⟨.inr rfl, .inr rfl, [], rfl⟩
    · have : m = 0 := by omega
      subst this
      exact ⟨.inl rfl, .inl rfl, [], rfl⟩
  · have hw : IntKind.i64.wrap ((els.length : Int) - 1) = (els.length : Int) - 1 := IntWalk.i64_in _ ⟨by omega, by omega⟩
    exact congrArg (fun x => [(0, AV.yld l), (1, .ipt [.isl 7 els]), (3, I x)]) hw
end Go.Proofs.YtjpmeaagnhojgaaGreat
namespace Go.Proofs.YtjpmeaagnhojgaaGreat
open Go Go.Sx

theorem wpl_step {P : Program} {F : Fence} {n : Nat} {ops : Array Oper} {Q : Exit → Act → World → Prop} {o : Oper} {rest : List Oper} {a : Act} {w : World} (hg : o.guard = none) (h : o.wpIn F n P a w (wpListIn F n P ops Q rest) Q) : wpListIn F n P ops Q (o :: rest) a w := by
  unfold wpListIn
  rw [if_pos (by simp [Region.wanted, hg])]
  exact h

theorem c202 {x y : Nat} (h : FloatKind.f64.format.sqrt x = some y) : PCall Tryz.prog 202 [.flt .f64 x] ⟨.flt .f64 y, []⟩ := by
  refine pcall_of_sem (FnOK.of Tryz.func202 (by kernel_rfl) (by kernel_rfl)) rfl (body_awp bs.hT Tryz.func202 (c := _) rfl (Nat.le_of_ble_eq_true (by kernel_rfl)) ?_)
  refine awp_seq (bs.awp (sx := nos) pt0_ok ?_)
  refine awp_seq ?_
  intro F B w0 I0 pr r I D a w hF hR S
  refine wpIn_region_list ?_
  refine wpl_step rfl ?_
  refine vcOp_sound (cxP_ok (sx := nos) bs.hT bs.hok pt0_ok) hF _ (fun c e => by cases e) S (K := fun env σ => env = [(3, .flt .f64 x), (2, .flt .f64 0), (0, .flt .f64 x)] ∧ σ = ⟨[], 0⟩) ⟨rfl, rfl⟩ (fun a1 w1 hl => ?_)
  obtain ⟨env1, σ1, r1, I1, D1, ⟨rfl, rfl⟩, S1, hd1, st1⟩ := hl
  refine wpl_step rfl ?_
  refine op_ext hF _ S1 (K := fun env σ => env = [(4, .flt .f64 y), (3, .flt .f64 x), (2, .flt .f64 0), (0, .flt .f64 x)] ∧ σ = ⟨[], 0⟩) rfl rfl Tryz.func214 (by kernel_rfl) (by kernel_rfl) (by kernel_rfl) (e := Extern.MathSqrt.sqrt) (by kernel_rfl) (v := .flt .f64 y) (fun vs hv => ?_) ⟨rfl, rfl⟩ (fun a2 w2 hl => ?_)
  · have e0 : vs.size = 1 := hv.1
    have hx := hv.2 0 (.flt .f64 x) vs[0] rfl (by simp [e0])
    have e1 : vs = #[.float .f64 x] := by
      apply Array.ext
      · simpa using e0
      · intro i h1 h2
        have : i = 0 := by simp at h2; omega
        subst this
        generalize vs[0] = z at hx
        cases hx; rfl
    subst e1
    have e2 : Extern.MathSqrt.sqrt #[.float .f64 x] = (match FloatKind.f64.format.sqrt x with
      | some r => pure (.float .f64 r)
      | none => do pure (.float .f64 (← choose (.nanBits .f64 x x)))) := rfl
    exact ⟨.float .f64 y, by rw [e2, h]; rfl, .flt _ _ _⟩
  obtain ⟨env2, σ2, r2, I2, D2, ⟨rfl, rfl⟩, S2, hd2, st2⟩ := hl
  refine wpl_step rfl ?_
  refine vcOp_sound (cxP_ok (sx := nos) bs.hT bs.hok pt0_ok) hF _ (fun c e => by cases e) S2 (K := fun env σ => env = [(2, .flt .f64 y), (4, .flt .f64 y), (3, .flt .f64 x), (2, .flt .f64 0), (0, .flt .f64 x)] ∧ σ = ⟨[], 0⟩) ⟨rfl, rfl⟩ (fun a3 w3 hl => ?_)
  obtain ⟨env3, σ3, r3, I3, D3, ⟨rfl, rfl⟩, S3, hd3, st3⟩ := hl
  have st := (st1.trans st2).trans st3
  refine ⟨pr, [], _, _, r3, I3, D3, fun _ _ h => h, fun d hd => by simp at hd, .nil, by rw [hd3, hd2, hd1]; rfl, ?_, S3, st, st.size⟩
  refine awp_ret ?_
  exact Got.intro rfl (exports_of rfl rfl)

/-! ### The tables of iterators and of what is taken in place -/
def pairsOf : List (List AV) → Option (List (Int × Int))
  | [] => some []
  | [.int .i64 x, .int .i64 y] :: l => match pairsOf l with
    | some ps => some ((x, y) :: ps)
    | none => none
  | _ => none
theorem pairsOf_eq : ∀ {es : List (List AV)} {ps : List (Int × Int)}, pairsOf es = some ps → es = ps.map pt := by
  intro es
  induction es with
  | nil => intro ps h; simp only [pairsOf, Option.some.injEq] at h; subst h; rfl
  | cons e l ih =>
    intro ps h
    unfold pairsOf at h
    split at h
    · rename_i h0; cases h0
    · rename_i x y l' h0
      cases h0
      split at h
      · rename_i qs hq
        cases h
        rw [ih hq]; rfl
      · cases h
    · cases h

def wallsT (c0 c1 : List AV) : Option (List (List AV)) := match c0, c1 with
  | [.agg [nm, ht, fl, ce, ms, .isl 2 es, wa, ca, se]], [] => match pairsOf es with
    | some ps => cond (pureL [nm, ht, fl, ce, ms, wa, ca, se] && Nat.blt ps.length 1000) (some (wallsX ps)) none
    | none => none
  | _, _ => none
def back1 (c0 c1 : List AV) : Option (List (List AV)) := match c0, c1 with
  | [], [.ipt [.isl 1 els]] => cond (els.all (fun e => pureL e && Nat.beq e.length 1) && Nat.blt els.length 100000) (some (backX hd1 els els.length)) none
  | _, _ => none
def back7 (c0 c1 : List AV) : Option (List (List AV)) := match c0, c1 with
  | [], [.ipt [.isl 7 els]] => cond (els.all (fun e => pureL e && Nat.beq e.length 7) && Nat.blt els.length 100000) (some (backX AV.agg els els.length)) none
  | _, _ => none
def itT : ITab := fun g c0 c1 => cond (Nat.beq g 180) (wallsT c0 c1) (cond (Nat.beq g 168) (back1 c0 c1) (cond (Nat.beq g 169) (back7 c0 c1) none))
theorem itT_ok : ∀ g c0 c1 xs, itT g c0 c1 = some xs → ItOK Tryz.prog g c0 c1 xs := by
  intro g c0 c1 xs h
  unfold itT at h
  cases h1 : Nat.beq g 180 with
  | true =>
    rw [h1] at h; rw [Nat.eq_of_beq_eq_true h1]
    simp only [cond_true] at h
    unfold wallsT at h
    split at h
    · split at h
      · rename_i ps hps
        obtain ⟨h2, h⟩ := cond_some h
        cases h
        simp only [Bool.and_eq_true, Nat.blt_eq] at h2
        rw [pairsOf_eq hps]
        exact it180 h2.1 h2.2
      · cases h
    · cases h
  | false =>
    rw [h1] at h
    simp only [cond_false] at h
    cases h2 : Nat.beq g 168 with
    | true =>
      rw [h2] at h; rw [Nat.eq_of_beq_eq_true h2]
      simp only [cond_true] at h
      unfold back1 at h
      split at h
      · obtain ⟨h3, h⟩ := cond_some h
        cases h
        simp only [Bool.and_eq_true, Nat.blt_eq] at h3
        exact it168 h3.1 h3.2
      · cases h
    | false =>
      rw [h2] at h
      simp only [cond_false] at h
      obtain ⟨h3, h⟩ := cond_some h
      rw [Nat.eq_of_beq_eq_true h3]
      unfold back7 at h
      split at h
      · obtain ⟨h3, h⟩ := cond_some h
        cases h
        simp only [Bool.and_eq_true, Nat.blt_eq] at h3
        exact it169 h3.1 h3.2
      · cases h

def sqrtT : PC := fun f a => cond (Nat.beq f 202) (match a with
  | [.flt .f64 x] => match FloatKind.f64.format.sqrt x with
    | some y => some ⟨.flt .f64 y, []⟩
    | none => none
  | _ => none) none
theorem sqrtT_ok : PCOK Tryz.prog sqrtT := by
  intro f a res h
  unfold sqrtT at h
  obtain ⟨h1, h⟩ := cond_some h
  rw [Nat.eq_of_beq_eq_true h1]
  split at h
  · split at h
    · rename_i hs; cases h; exact c202 hs
    · cases h
  · cases h

/-- The evaluator of this program. -/
noncomputable def exT (xs : List Nat) (pt : PC) : CF := exG Tryz.prog (tget tbl) (memN eqs) itT (memN xs) pt 1000 40
theorem exT_ok {xs : List Nat} {pt : PC} (hpt : PCOK Tryz.prog pt) : CFOK Tryz.prog (exT xs pt) := exG_sound tabOK eqOK itT_ok mixed hpt 40
def isR (v0 : AV) : Option PRes → Bool
  | some ⟨v, []⟩ => eqA v v0
  | _ => false
theorem isR_eq {v0 : AV} {o : Option PRes} (h : isR v0 o = true) : o = some ⟨v0, []⟩ := by
  unfold isR at h
  split at h
  · rw [eqA_eq _ _ h]
  · cases h
theorem reckoned {xs : List Nat} {pt : PC} (hpt : PCOK Tryz.prog pt) {f : FuncId} {a : List AV} {v : AV} (h : isR v (pcF (exT xs pt) f a) = true) : PCall Tryz.prog f a ⟨v, []⟩ := pcall_ex (exT_ok hpt) (isR_eq h)
/-- A table with one contract more. -/
def withC (f0 : FuncId) (a0 : List AV) (v0 : AV) (pt : PC) : PC := fun f a => cond (Nat.beq f f0 && eqL a a0) (some ⟨v0, []⟩) (pt f a)
theorem withC_ok {f0 : FuncId} {a0 : List AV} {v0 : AV} {pt : PC} (h0 : PCall Tryz.prog f0 a0 ⟨v0, []⟩) (h : PCOK Tryz.prog pt) : PCOK Tryz.prog (withC f0 a0 v0 pt) := by
  intro f a res hr
  unfold withC at hr
  cases hb : (Nat.beq f f0 && eqL a a0) with
  | true =>
    rw [hb] at hr
    cases hr
    simp only [Bool.and_eq_true] at hb
    rw [Nat.eq_of_beq_eq_true hb.1, eqL_eq _ _ hb.2]
    exact h0
  | false => rw [hb] at hr; exact h f a res hr
end Go.Proofs.YtjpmeaagnhojgaaGreat
namespace Go.Proofs.YtjpmeaagnhojgaaGreat
open Go Go.Sx
abbrev S (l : List UInt8) : AV := .str ⟨⟨l⟩⟩
def boxA : AV := .agg [S [104], I 600, S [119], S [119], .isl 6 [[S [119], I 100, I 100, I 100, I 100, I 0], [S [118], I 500, I 500, I 500, I 500, I 0]], .isl 2 [[I 0, I 0], [I 1000, I 0], [I 1000, I 2000], [I 0, I 2000]],
  .isl 3 [[S [97], S [119], S []], [S [98], S [119], S [118]], [S [99], S [119], S []], [S [100], S [119], S []]], .isl 7 [[S [107], S [119], I 200, I 500, I 800, I 900, .isl 1 [[I 400], [I 500]]]], .nils]
def fine : AV := .tup [.agg [I 0, I 0], I 0]
set_option maxRecDepth 1000000 in
theorem aw63 : isR fine (pcF (exT [202] sqrtT) 63 [boxA]) = true := by kernel_rfl
theorem box_ok : PCall Tryz.prog 63 [boxA] ⟨fine, []⟩ := reckoned sqrtT_ok aw63
def boxT : PC := withC 63 [boxA] fine sqrtT
theorem boxT_ok : PCOK Tryz.prog boxT := withC_ok box_ok sqrtT_ok
end Go.Proofs.YtjpmeaagnhojgaaGreat
namespace Go.Proofs.YtjpmeaagnhojgaaGreat
open Go Go.Sx
set_option maxRecDepth 1000000 in
theorem aw17 : isR (.bool true) (pcF (exT [202, 63] boxT) 17 []) = true := by kernel_rfl
theorem awake_ok : PCall Tryz.prog 17 [] ⟨.bool true, []⟩ := reckoned boxT_ok aw17
end Go.Proofs.YtjpmeaagnhojgaaGreat
namespace Go.Proofs.YtjpmeaagnhojgaaGreat
open Go Go.Sx

theorem own : ownKnob Tryz.prog.godebug = none := by kernel_rfl
theorem laidOut : laidOutB Tryz.prog = true := by kernel_rfl
def tys : List TypeId := [28, 3, 9, 22, 23, 24, 25, 26, 108, 103, 85, 87, 129, 29, 131, 58, 31, 56, 66, 70, 76]
theorem tysOK : tys.all (suppT (tget tbl) tys) = true := by kernel_rfl
theorem fLaid : laidOutB Tryz.checked.prog = true := by kernel_rfl
theorem fMaps : mapsRowed Tryz.checked.prog = true := by kernel_rfl
theorem fPlain : Tryz.checked.prog.plainKeys = Rows.hallChecksRow.plainKeys := by kernel_rfl
theorem fHeard : Tryz.checked.prog.stopsHeard = true := by kernel_rfl
theorem fMay : Tryz.checked.prog.mayEnter = true := by kernel_rfl
theorem fLifts : Tryz.checked.prog.liftsFinal = Rows.hallChecksRow.lifted := by kernel_rfl
theorem fMake : Tryz.checked.prog.make = some Rows.hallChecksRow.make := by kernel_rfl
end Go.Proofs.YtjpmeaagnhojgaaGreat
namespace Go.Proofs.YtjpmeaagnhojgaaGreat
open Go Go.Sx

/-! ### A table grows -/
def ins (f0 : FuncId) (r : List AV → Option PRes) (pt : PC) : PC := fun f a => cond (Nat.beq f f0) (r a) (pt f a)
theorem ins_ok {f0 : FuncId} {r : List AV → Option PRes} {pt : PC} (h0 : ∀ a res, r a = some res → PCall Tryz.prog f0 a res) (h : PCOK Tryz.prog pt) : PCOK Tryz.prog (ins f0 r pt) := by
  intro f a res hr
  unfold ins at hr
  cases hb : Nat.beq f f0 with
  | true => rw [hb] at hr; rw [Nat.eq_of_beq_eq_true hb]; exact h0 a res hr
  | false => rw [hb] at hr; exact h f a res hr

abbrev Bo (b : Bool) : AV := .bool b
abbrev P2 (x y : Int) : AV := .agg [I x, I y]
abbrev P3 (x y z : Int) : AV := .agg [I x, I y, I z]
abbrev P4 (x y z d : Int) : AV := .agg [I x, I y, I z, I d]

def within (n lo hi : Int) : Bool := decide (lo ≤ n) && decide (n ≤ hi)
theorem c78 (n lo hi : Int) : PCall Tryz.prog 78 [I n, I lo, I hi] ⟨Bo (within n lo hi), []⟩ := by
  refine bs.pcall (sx := nos) pt0_ok Tryz.func78 (by kernel_rfl) (by kernel_rfl) rfl ?_
  refine Br.intro (fun h => ?_) (fun h => ?_)
  · exact exports_bool (by simp [within, h])
  · exact exports_bool (by simp [within, h])
theorem c30 (n lo hi : Int) : PCall Tryz.prog 30 [I n, I lo, I hi] ⟨Bo (within n lo hi), []⟩ := by
  refine bs.pcall (sx := nos) pt0_ok Tryz.func30 (by kernel_rfl) (by kernel_rfl) rfl ?_
  refine Br.intro (fun h => ?_) (fun h => ?_)
  · exact exports_bool (by simp [within, h])
  · exact exports_bool (by simp [within, h])
def r78 : List AV → Option PRes
  | [.int .i64 n, .int .i64 lo, .int .i64 hi] => some ⟨Bo (within n lo hi), []⟩
  | _ => none
def k78 : PC := ins 30 r78 (ins 78 r78 pt0)
theorem k78_ok : PCOK Tryz.prog k78 := ins_ok (fun a res h => by unfold r78 at h; split at h <;> cases h; exact c30 _ _ _) (ins_ok (fun a res h => by unfold r78 at h; split at h <;> cases h; exact c78 _ _ _) pt0_ok)

def small (n most : Int) : Bool := within n (IntKind.i64.wrap (0 - most)) most
theorem c92 (n m : Int) : PCall Tryz.prog 92 [I n, I m] ⟨Bo (small n m), []⟩ := by
  refine bs.pcall (sx := nos) k78_ok Tryz.func92 (by kernel_rfl) (by kernel_rfl) rfl ?_
  exact Got.intro rfl (exports_bool rfl)
theorem c179 (n : Int) : PCall Tryz.prog 179 [I n] ⟨Bo (within n (-45000) 45000), []⟩ := by
  refine bs.pcall (sx := nos) k78_ok Tryz.func179 (by kernel_rfl) (by kernel_rfl) rfl ?_
  exact Got.intro rfl (exports_bool rfl)
def r92 : List AV → Option PRes
  | [.int .i64 n, .int .i64 m] => some ⟨Bo (small n m), []⟩
  | _ => none
def r179 : List AV → Option PRes
  | [.int .i64 n] => some ⟨Bo (within n (-45000) 45000), []⟩
  | _ => none
def k92 : PC := ins 179 r179 (ins 92 r92 k78)
theorem k92_ok : PCOK Tryz.prog k92 := ins_ok (fun a res h => by unfold r179 at h; split at h <;> cases h; exact c179 _) (ins_ok (fun a res h => by unfold r92 at h; split at h <;> cases h; exact c92 _ _) k78_ok)

def isImage (x y z : Int) : Bool := small x 45000 && small y 45000 && small z 45000
theorem c93 (x y z : Int) : PCall Tryz.prog 93 [P3 x y z] ⟨Bo (isImage x y z), []⟩ := by
  refine bs.pcall (sx := nos) k92_ok Tryz.func93 (by kernel_rfl) (by kernel_rfl) rfl ?_
  refine Br.intro (fun h => ?_) (fun h => ?_)
  · refine Br.intro (fun h2 => ?_) (fun h2 => ?_)
    · exact exports_bool (by simp_all [isImage])
    · exact exports_bool (by simp_all [isImage])
  · exact exports_bool (by simp_all [isImage])
def r93 : List AV → Option PRes
  | [.agg [.int .i64 x, .int .i64 y, .int .i64 z]] => some ⟨Bo (isImage x y z), []⟩
  | _ => none
def k93 : PC := ins 93 r93 k92
theorem k93_ok : PCOK Tryz.prog k93 := ins_ok (fun a res h => by unfold r93 at h; split at h <;> cases h; exact c93 _ _ _) k92_ok

/-- The mirror image, as the program reckons. -/
def mir (k a x y z : Int) : Int × Int × Int :=
  if k = 0 then (IntKind.i64.wrap (IntKind.i64.wrap (2 * a) - x), y, z) else if k = 1 then (x, IntKind.i64.wrap (IntKind.i64.wrap (2 * a) - y), z) else if k = 2 then (x, y, IntKind.i64.wrap (IntKind.i64.wrap (2 * a) - z)) else if k = 3 then (IntKind.i64.wrap (a - y), IntKind.i64.wrap (a - x), z) else if k = 4 then (IntKind.i64.wrap (y + a), IntKind.i64.wrap (x - a), z) else (x, y, z)
def mirErr (k a x y z : Int) : Int :=
  if within k 0 4 = false then 15 else if small a 10000 = false ∨ isImage x y z = false then 2 else if isImage (mir k a x y z).1 (mir k a x y z).2.1 (mir k a x y z).2.2 = false then 8 else 0
def mirP (k a x y z : Int) : Int × Int × Int := if mirErr k a x y z = 0 then mir k a x y z else (0, 0, 0)
abbrev mirV (k a x y z : Int) : AV := .tup [P3 (mirP k a x y z).1 (mirP k a x y z).2.1 (mirP k a x y z).2.2, I (mirErr k a x y z)]

theorem exports_p3e {x y z e x' y' z' e' : Int} {σ : St} (h : (x, y, z) = (x', y', z') ∧ e = e') : Exports ⟨.tup [P3 x' y' z', I e'], []⟩ (.tup [P3 x y z, I e]) σ := by
  obtain ⟨h1, h2⟩ := h
  simp only [Prod.mk.injEq] at h1
  obtain ⟨rfl, rfl, rfl⟩ := h1
  subst h2
  exact exports_of rfl rfl

set_option maxHeartbeats 2000000 in
set_option maxRecDepth 100000 in
theorem c32 (k a x y z : Int) : PCall Tryz.prog 32 [P2 k a, P3 x y z] ⟨mirV k a x y z, []⟩ := by
  refine bs.pcall (sx := nos) k93_ok Tryz.func32 (by kernel_rfl) (by kernel_rfl) rfl ?_
  refine Br.intro (fun h1 => ?_) (fun h1 => ?_)
  · exact Got.intro rfl (exports_p3e (by simp_all [mirP, mirErr, mir]))
  · refine Br.intro (fun h2 => ?_) (fun h2 => ?_)
    · exact Got.intro rfl (exports_p3e (by simp_all [mirP, mirErr, mir]))
    · refine Br.intro (fun h3 => ?_) (fun h3 => ?_)
      · exact Got.intro rfl (exports_p3e (by simp_all [mirP, mirErr, mir]))
      · refine Br.intro (fun h4 => ?_) (fun h4 => ?_)
        · refine Br.intro (fun h5 => ?_) (fun h5 => ?_)
          · exact Got.intro rfl (exports_p3e (by simp_all [mirP, mirErr, mir]))
          · exact Got.intro rfl (exports_p3e (by simp_all [mirP, mirErr, mir]))
        · refine Br.intro (fun h6 => ?_) (fun h6 => ?_)
          · refine Br.intro (fun h7 => ?_) (fun h7 => ?_)
            · exact Got.intro rfl (exports_p3e (by simp_all [mirP, mirErr, mir]))
            · exact Got.intro rfl (exports_p3e (by simp_all [mirP, mirErr, mir]))
          · refine Br.intro (fun h8 => ?_) (fun h8 => ?_)
            · refine Br.intro (fun h9 => ?_) (fun h9 => ?_)
              · exact Got.intro rfl (exports_p3e (by simp_all [mirP, mirErr, mir]))
              · exact Got.intro rfl (exports_p3e (by simp_all [mirP, mirErr, mir]))
            · refine Br.intro (fun h10 => ?_) (fun h10 => ?_)
              · refine Dr.intro (by kernel_rfl) ?_
                refine Br.intro (fun h11 => ?_) (fun h11 => ?_)
                · exact Got.intro rfl (exports_p3e (by simp_all [mirP, mirErr, mir]))
                · exact Got.intro rfl (exports_p3e (by simp_all [mirP, mirErr, mir]))
              · refine Br.intro (fun h12 => ?_) (fun h12 => ?_)
                · refine Dr.intro (by kernel_rfl) ?_
                  refine Br.intro (fun h13 => ?_) (fun h13 => ?_)
                  · exact Got.intro rfl (exports_p3e (by simp_all [mirP, mirErr, mir]))
                  · exact Got.intro rfl (exports_p3e (by simp_all [mirP, mirErr, mir]))
                · refine Br.intro (fun h14 => ?_) (fun h14 => ?_)
                  · exact Got.intro rfl (exports_p3e (by simp_all [mirP, mirErr, mir]))
                  · exact Got.intro rfl (exports_p3e (by simp_all [mirP, mirErr, mir]))
end Go.Proofs.YtjpmeaagnhojgaaGreat
namespace Go.Proofs.YtjpmeaagnhojgaaGreat
open Go Go.Sx

def planeErr (k a : Int) : Int := if within k 0 4 = false then 15 else if within a (-10000) 10000 = false then 2 else 0
def img (n : Int) : Bool := within n (-45000) 45000
def placeErr (x y z : Int) : Int := if img x && img y && img z then 0 else 2
def rmir (k a x y z : Int) : Int × Int × Int :=
  if k = 0 then (IntKind.i64.wrap (IntKind.i64.wrap (2 * a) - x), y, z) else if k = 1 then (x, IntKind.i64.wrap (IntKind.i64.wrap (2 * a) - y), z) else if k = 2 then (x, y, IntKind.i64.wrap (IntKind.i64.wrap (2 * a) - z)) else if k = 3 then (IntKind.i64.wrap (a - y), IntKind.i64.wrap (a - x), z) else (IntKind.i64.wrap (y + a), IntKind.i64.wrap (x - a), z)

set_option maxHeartbeats 400000 in
theorem c94 (k a : Int) : PCall Tryz.prog 94 [P2 k a] ⟨I (planeErr k a), []⟩ := by
  refine bs.pv (sx := nos) k93_ok Tryz.func94 (by kernel_rfl) (by kernel_rfl) rfl ?_
  repeat' ((conv => whnf); (fail_if_success with_reducible refine Ret.mk ?_); first | with_reducible refine And.intro (by kernel_rfl) ?_ | refine Br.intro (fun _ => ?_) (fun _ => ?_))
  all_goals exact ret_int (by simp_all [planeErr])
set_option maxHeartbeats 400000 in
set_option maxRecDepth 100000 in
theorem c95 (x y z : Int) : PCall Tryz.prog 95 [P3 x y z] ⟨I (placeErr x y z), []⟩ := by
  refine bs.pv (sx := nos) k93_ok Tryz.func95 (by kernel_rfl) (by kernel_rfl) rfl ?_
  repeat' ((conv => whnf); (fail_if_success with_reducible refine Ret.mk ?_); first | with_reducible refine And.intro (by kernel_rfl) ?_ | refine Br.intro (fun _ => ?_) (fun _ => ?_))
  all_goals exact ret_int (by simp_all [placeErr, img])
set_option maxHeartbeats 400000 in
set_option maxRecDepth 100000 in
theorem c96 (k a x y z : Int) : PCall Tryz.prog 96 [P2 k a, P3 x y z] ⟨P3 (rmir k a x y z).1 (rmir k a x y z).2.1 (rmir k a x y z).2.2, []⟩ := by
  refine bs.pv (sx := nos) k93_ok Tryz.func96 (by kernel_rfl) (by kernel_rfl) rfl ?_
  repeat' ((conv => whnf); (fail_if_success with_reducible refine Ret.mk ?_); first | with_reducible refine And.intro (by kernel_rfl) ?_ | refine Br.intro (fun _ => ?_) (fun _ => ?_))
  all_goals exact ret_of (by simp_all [rmir]) rfl

def r94 : List AV → Option PRes
  | [.agg [.int .i64 k, .int .i64 a]] => some ⟨I (planeErr k a), []⟩
  | _ => none
def r95 : List AV → Option PRes
  | [.agg [.int .i64 x, .int .i64 y, .int .i64 z]] => some ⟨I (placeErr x y z), []⟩
  | _ => none
def r96 : List AV → Option PRes
  | [.agg [.int .i64 k, .int .i64 a], .agg [.int .i64 x, .int .i64 y, .int .i64 z]] => some ⟨P3 (rmir k a x y z).1 (rmir k a x y z).2.1 (rmir k a x y z).2.2, []⟩
  | _ => none
def r32 : List AV → Option PRes
  | [.agg [.int .i64 k, .int .i64 a], .agg [.int .i64 x, .int .i64 y, .int .i64 z]] => some ⟨mirV k a x y z, []⟩
  | _ => none
def k96 : PC := ins 94 r94 (ins 95 r95 (ins 96 r96 (ins 32 r32 k93)))
theorem k96_ok : PCOK Tryz.prog k96 := by
  refine ins_ok (fun a res h => ?_) (ins_ok (fun a res h => ?_) (ins_ok (fun a res h => ?_) (ins_ok (fun a res h => ?_) k93_ok)))
  · unfold r94 at h; split at h <;> cases h; exact c94 _ _
  · unfold r95 at h; split at h <;> cases h; exact c95 _ _ _
  · unfold r96 at h; split at h <;> cases h; exact c96 _ _ _ _ _
  · unfold r32 at h; split at h <;> cases h; exact c32 _ _ _ _ _

def rmirErr (k a x y z : Int) : Int :=
  if planeErr k a = 0 then (if placeErr x y z = 0 then (if placeErr (rmir k a x y z).1 (rmir k a x y z).2.1 (rmir k a x y z).2.2 = 0 then 0 else 8) else placeErr x y z) else planeErr k a
def rmirP (k a x y z : Int) : Int × Int × Int := if rmirErr k a x y z = 0 then rmir k a x y z else (0, 0, 0)
set_option maxHeartbeats 400000 in
set_option maxRecDepth 100000 in
theorem c33 (k a x y z : Int) : PCall Tryz.prog 33 [P2 k a, P3 x y z] ⟨.tup [P3 (rmirP k a x y z).1 (rmirP k a x y z).2.1 (rmirP k a x y z).2.2, I (rmirErr k a x y z)], []⟩ := by
  refine bs.pv (sx := nos) k96_ok Tryz.func33 (by kernel_rfl) (by kernel_rfl) rfl ?_
  repeat' ((conv => whnf); (fail_if_success with_reducible refine Ret.mk ?_); first | with_reducible refine And.intro (by kernel_rfl) ?_ | refine Br.intro (fun _ => ?_) (fun _ => ?_))
  all_goals exact ret_of (by simp_all [rmirP, rmirErr]) rfl

def offN (k x y z : Int) : Int := if k = 0 then x else if k = 1 then y else if k = 2 then z else if k = 3 then IntKind.i64.wrap (x + y) else IntKind.i64.wrap (x - y)
def off (k a x y z d : Int) : Int := IntKind.i64.wrap (offN k x y z - IntKind.i64.wrap (a * d))
set_option maxHeartbeats 400000 in
set_option maxRecDepth 100000 in
theorem c35 {k : Int} (a x y z d : Int) (h0 : 0 ≤ k) (h4 : k < 5) : PCall Tryz.prog 35 [P2 k a, P4 x y z d] ⟨I (off k a x y z d), []⟩ := by
  have : k = 0 ∨ k = 1 ∨ k = 2 ∨ k = 3 ∨ k = 4 := by omega
  rcases this with rfl | rfl | rfl | rfl | rfl
  all_goals
    refine bs.pv (sx := nos) k96_ok Tryz.func35 (by kernel_rfl) (by kernel_rfl) rfl ?_
    repeat' ((conv => whnf); (fail_if_success with_reducible refine Ret.mk ?_); first | with_reducible refine And.intro (by kernel_rfl) ?_ | refine Br.intro (fun _ => ?_) (fun _ => ?_))
    all_goals exact ret_int rfl
set_option maxRecDepth 100000 in
theorem c36 (x y z : Int) : PCall Tryz.prog 36 [P3 x y z] ⟨P4 x y z 1, []⟩ := by
  refine bs.pv (sx := nos) k96_ok Tryz.func36 (by kernel_rfl) (by kernel_rfl) rfl ?_
  repeat' ((conv => whnf); (fail_if_success with_reducible refine Ret.mk ?_); first | with_reducible refine And.intro (by kernel_rfl) ?_ | refine Br.intro (fun _ => ?_) (fun _ => ?_))
  all_goals exact ret_of rfl rfl
def sqd (a b : Int) : Int := IntKind.i64.wrap (IntKind.i64.wrap (a - b) * IntKind.i64.wrap (a - b))
def square (x y z u v w : Int) : Int := IntKind.i64.wrap (IntKind.i64.wrap (sqd x u + sqd y v) + sqd z w)
set_option maxRecDepth 100000 in
theorem c34 (x y z u v w : Int) : PCall Tryz.prog 34 [P3 x y z, P3 u v w] ⟨I (square x y z u v w), []⟩ := by
  refine bs.pv (sx := nos) k96_ok Tryz.func34 (by kernel_rfl) (by kernel_rfl) rfl ?_
  repeat' ((conv => whnf); (fail_if_success with_reducible refine Ret.mk ?_); first | with_reducible refine And.intro (by kernel_rfl) ?_ | refine Br.intro (fun _ => ?_) (fun _ => ?_))
  all_goals exact ret_int rfl
end Go.Proofs.YtjpmeaagnhojgaaGreat
namespace Go.Proofs.YtjpmeaagnhojgaaGreat
open Go Go.Sx

/-! ### The plain law of mirrors -/
theorem W_eq {n : Int} (h1 : -9223372036854775808 ≤ n) (h2 : n ≤ 9223372036854775807) : IntKind.i64.wrap n = n := IntWalk.i64_in _ ⟨h1, by omega⟩
theorem within_iff {n lo hi : Int} : within n lo hi = true ↔ lo ≤ n ∧ n ≤ hi := by simp [within]
theorem within_not {n lo hi : Int} : within n lo hi = false ↔ n < lo ∨ hi < n := by simp [within]; omega

theorem isImage_eq (x y z : Int) : isImage x y z = (img x && img y && img z) := by
  have : IntKind.i64.wrap (0 - 45000) = -45000 := by decide
  simp only [isImage, small, img, this]
theorem mirErr_eq (k a x y z : Int) : mirErr k a x y z = rmirErr k a x y z := by
  have e1 : IntKind.i64.wrap (0 - 10000) = -10000 := by decide
  unfold mirErr rmirErr planeErr placeErr
  rw [isImage_eq, isImage_eq]
  simp only [small, e1]
  by_cases hk : within k 0 4 = true
  · have hm : mir k a x y z = rmir k a x y z := by
      have := within_iff.1 hk
      have : k = 0 ∨ k = 1 ∨ k = 2 ∨ k = 3 ∨ k = 4 := by omega
      rcases this with rfl | rfl | rfl | rfl | rfl <;> rfl
    rw [hm]
    cases h1 : within a (-10000) 10000 <;> cases h2 : (img x && img y && img z) <;> cases h3 : (img (rmir k a x y z).1 && img (rmir k a x y z).2.1 && img (rmir k a x y z).2.2) <;> simp_all
  · simp at hk; simp [hk]
theorem mirP_eq (k a x y z : Int) : mirP k a x y z = rmirP k a x y z := by
  unfold mirP rmirP
  rw [mirErr_eq]
  by_cases h : rmirErr k a x y z = 0
  · rw [if_pos h, if_pos h]
    have hk : within k 0 4 = true := by
      cases hk : within k 0 4 with
      | true => rfl
      | false => simp [rmirErr, planeErr, hk] at h
    have := within_iff.1 hk
    have : k = 0 ∨ k = 1 ∨ k = 2 ∨ k = 3 ∨ k = 4 := by omega
    rcases this with rfl | rfl | rfl | rfl | rfl <;> rfl
  · rw [if_neg h, if_neg h]

theorem rmirErr_zero {k a x y z : Int} (h : rmirErr k a x y z = 0) : (0 ≤ k ∧ k ≤ 4) ∧ (-10000 ≤ a ∧ a ≤ 10000) ∧ (-45000 ≤ x ∧ x ≤ 45000) ∧ (-45000 ≤ y ∧ y ≤ 45000) ∧ (-45000 ≤ z ∧ z ≤ 45000) ∧
    (-45000 ≤ (rmir k a x y z).1 ∧ (rmir k a x y z).1 ≤ 45000) ∧ (-45000 ≤ (rmir k a x y z).2.1 ∧ (rmir k a x y z).2.1 ≤ 45000) ∧ (-45000 ≤ (rmir k a x y z).2.2 ∧ (rmir k a x y z).2.2 ≤ 45000) := by
  unfold rmirErr planeErr placeErr at h
  cases h1 : within k 0 4 with
  | false => simp [h1] at h
  | true =>
    cases h2 : within a (-10000) 10000 with
    | false => simp [h1, h2] at h
    | true =>
      cases h3 : (img x && img y && img z) with
      | false => simp [h1, h2, h3] at h
      | true =>
        cases h4 : (img (rmir k a x y z).1 && img (rmir k a x y z).2.1 && img (rmir k a x y z).2.2) with
        | false => simp [h1, h2, h3, h4] at h
        | true =>
          simp only [Bool.and_eq_true, img] at h3 h4
          exact ⟨within_iff.1 h1, within_iff.1 h2, within_iff.1 h3.1.1, within_iff.1 h3.1.2, within_iff.1 h3.2, within_iff.1 h4.1.1, within_iff.1 h4.1.2, within_iff.1 h4.2⟩

theorem rmirErr_of {k a x y z : Int} (hk : 0 ≤ k ∧ k ≤ 4) (ha : -10000 ≤ a ∧ a ≤ 10000) (hx : -45000 ≤ x ∧ x ≤ 45000) (hy : -45000 ≤ y ∧ y ≤ 45000) (hz : -45000 ≤ z ∧ z ≤ 45000) {u v w : Int} (e : rmir k a x y z = (u, v, w)) (hu : -45000 ≤ u ∧ u ≤ 45000) (hv : -45000 ≤ v ∧ v ≤ 45000) (hw : -45000 ≤ w ∧ w ≤ 45000) : rmirErr k a x y z = 0 := by
  have i1 : ∀ {n : Int}, -45000 ≤ n ∧ n ≤ 45000 → img n = true := fun h => within_iff.2 h
  simp [rmirErr, planeErr, placeErr, within_iff.2 hk, within_iff.2 ha, i1 hx, i1 hy, i1 hz, e, i1 hu, i1 hv, i1 hw]

/-- The mirror image, without roundings. -/
theorem rmir_plain {k a x y z : Int} (hk : 0 ≤ k ∧ k ≤ 4) (ha : -10000 ≤ a ∧ a ≤ 10000) (hx : -45000 ≤ x ∧ x ≤ 45000) (hy : -45000 ≤ y ∧ y ≤ 45000) (hz : -45000 ≤ z ∧ z ≤ 45000) :
    rmir k a x y z = if k = 0 then (2 * a - x, y, z) else if k = 1 then (x, 2 * a - y, z) else if k = 2 then (x, y, 2 * a - z) else if k = 3 then (a - y, a - x, z) else (y + a, x - a, z) := by
  have e1 : IntKind.i64.wrap (2 * a) = 2 * a := W_eq (by omega) (by omega)
  have e2 : IntKind.i64.wrap (2 * a - x) = 2 * a - x := W_eq (by omega) (by omega)
  have e3 : IntKind.i64.wrap (2 * a - y) = 2 * a - y := W_eq (by omega) (by omega)
  have e4 : IntKind.i64.wrap (2 * a - z) = 2 * a - z := W_eq (by omega) (by omega)
  have e5 : IntKind.i64.wrap (a - y) = a - y := W_eq (by omega) (by omega)
  have e6 : IntKind.i64.wrap (a - x) = a - x := W_eq (by omega) (by omega)
  have e7 : IntKind.i64.wrap (y + a) = y + a := W_eq (by omega) (by omega)
  have e8 : IntKind.i64.wrap (x - a) = x - a := W_eq (by omega) (by omega)
  simp only [rmir, e1, e2, e3, e4, e5, e6, e7, e8]

theorem rmir_back {k a x y z : Int} (h : rmirErr k a x y z = 0) : rmirErr k a (rmir k a x y z).1 (rmir k a x y z).2.1 (rmir k a x y z).2.2 = 0 ∧ rmir k a (rmir k a x y z).1 (rmir k a x y z).2.1 (rmir k a x y z).2.2 = (x, y, z) := by
  obtain ⟨hk, ha, hx, hy, hz, hu, hv, hw⟩ := rmirErr_zero h
  have key : rmir k a (rmir k a x y z).1 (rmir k a x y z).2.1 (rmir k a x y z).2.2 = (x, y, z) := by
    rw [rmir_plain hk ha hu hv hw, rmir_plain hk ha hx hy hz]
    have : k = 0 ∨ k = 1 ∨ k = 2 ∨ k = 3 ∨ k = 4 := by omega
    rcases this with rfl | rfl | rfl | rfl | rfl <;> simp <;> omega
  exact ⟨rmirErr_of hk ha hu hv hw key hx hy hz, key⟩

theorem sq_bnd {p M : Int} (h1 : -M ≤ p) (h2 : p ≤ M) : 0 ≤ p * p ∧ p * p ≤ M * M := by
  refine ⟨?_, ?_⟩
  · by_cases h : 0 ≤ p
    · exact Int.mul_nonneg h h
    · have := Int.mul_nonneg (a := -p) (b := -p) (by omega) (by omega); rwa [Int.neg_mul_neg] at this
  · by_cases h : 0 ≤ p
    · exact Int.mul_le_mul h2 h2 h (by omega)
    · have := Int.mul_le_mul (a := -p) (b := -p) (c := M) (d := M) (by omega) (by omega) (by omega) (by omega); rwa [Int.neg_mul_neg] at this

theorem sqd_plain {a b : Int} (ha : -45000 ≤ a ∧ a ≤ 45000) (hb : -45000 ≤ b ∧ b ≤ 45000) : sqd a b = (a - b) * (a - b) ∧ 0 ≤ (a - b) * (a - b) ∧ (a - b) * (a - b) ≤ 8100000000 := by
  have e : IntKind.i64.wrap (a - b) = a - b := W_eq (by omega) (by omega)
  have := sq_bnd (p := a - b) (M := 90000) (by omega) (by omega)
  refine ⟨?_, this.1, by omega⟩
  unfold sqd
  rw [e]
  exact W_eq (by omega) (by omega)
theorem square_plain {x y z u v w : Int} (hx : -45000 ≤ x ∧ x ≤ 45000) (hy : -45000 ≤ y ∧ y ≤ 45000) (hz : -45000 ≤ z ∧ z ≤ 45000) (hu : -45000 ≤ u ∧ u ≤ 45000) (hv : -45000 ≤ v ∧ v ≤ 45000) (hw : -45000 ≤ w ∧ w ≤ 45000) :
    square x y z u v w = (x - u) * (x - u) + (y - v) * (y - v) + (z - w) * (z - w) := by
  obtain ⟨e1, a1, b1⟩ := sqd_plain hx hu
  obtain ⟨e2, a2, b2⟩ := sqd_plain hy hv
  obtain ⟨e3, a3, b3⟩ := sqd_plain hz hw
  unfold square
  rw [e1, e2, e3]
  generalize (x - u) * (x - u) = p at *
  generalize (y - v) * (y - v) = q at *
  generalize (z - w) * (z - w) = r at *
  rw [W_eq (n := p + q) (by omega) (by omega)]
  exact W_eq (by omega) (by omega)

theorem rmir_square {k a x y z u v w : Int} (h : rmirErr k a x y z = 0) (h' : rmirErr k a u v w = 0) :
    square x y z u v w = square (rmir k a x y z).1 (rmir k a x y z).2.1 (rmir k a x y z).2.2 (rmir k a u v w).1 (rmir k a u v w).2.1 (rmir k a u v w).2.2 := by
  obtain ⟨hk, ha, hx, hy, hz, h1, h2, h3⟩ := rmirErr_zero h
  obtain ⟨_, _, hu, hv, hw, h4, h5, h6⟩ := rmirErr_zero h'
  rw [square_plain hx hy hz hu hv hw, square_plain h1 h2 h3 h4 h5 h6, rmir_plain hk ha hx hy hz, rmir_plain hk ha hu hv hw]
  have hn : ∀ p q : Int, p = -q → p * p = q * q := fun p q e => by rw [e, Int.neg_mul_neg]
  have : k = 0 ∨ k = 1 ∨ k = 2 ∨ k = 3 ∨ k = 4 := by omega
  rcases this with rfl | rfl | rfl | rfl | rfl
  · simp; rw [hn (2 * a - x - (2 * a - u)) (x - u) (by omega)]
  · simp; rw [hn (2 * a - y - (2 * a - v)) (y - v) (by omega)]
  · simp; rw [hn (2 * a - z - (2 * a - w)) (z - w) (by omega)]
  · simp; rw [hn (a - y - (a - v)) (y - v) (by omega), hn (a - x - (a - u)) (x - u) (by omega), Int.add_comm ((y - v) * (y - v))]
  · simp; rw [show y + a - (v + a) = y - v by omega, show x - a - (u - a) = x - u by omega, Int.add_comm ((y - v) * (y - v))]

theorem rmir_off {k a x y z : Int} (h : rmirErr k a x y z = 0) : (off k a x y z 1 = 0) ↔ (rmir k a x y z = (x, y, z)) := by
  obtain ⟨hk, ha, hx, hy, hz, _⟩ := rmirErr_zero h
  rw [rmir_plain hk ha hx hy hz]
  have e1 : IntKind.i64.wrap (a * 1) = a := by rw [Int.mul_one]; exact W_eq (by omega) (by omega)
  have e2 : IntKind.i64.wrap (x + y) = x + y := W_eq (by omega) (by omega)
  have e3 : IntKind.i64.wrap (x - y) = x - y := W_eq (by omega) (by omega)
  unfold off offN
  rw [e1, e2, e3]
  have : k = 0 ∨ k = 1 ∨ k = 2 ∨ k = 3 ∨ k = 4 := by omega
  rcases this with rfl | rfl | rfl | rfl | rfl <;> simp <;> rw [W_eq (by omega) (by omega)] <;> omega
end Go.Proofs.YtjpmeaagnhojgaaGreat
namespace Go.Proofs.YtjpmeaagnhojgaaGreat
open Go Go.Sx

def r17 : List AV → Option PRes
  | [] => some ⟨Bo true, []⟩
  | _ => none
def r33 : List AV → Option PRes
  | [.agg [.int .i64 k, .int .i64 a], .agg [.int .i64 x, .int .i64 y, .int .i64 z]] => some ⟨.tup [P3 (rmirP k a x y z).1 (rmirP k a x y z).2.1 (rmirP k a x y z).2.2, I (rmirErr k a x y z)], []⟩
  | _ => none
def r34 : List AV → Option PRes
  | [.agg [.int .i64 x, .int .i64 y, .int .i64 z], .agg [.int .i64 u, .int .i64 v, .int .i64 w]] => some ⟨I (square x y z u v w), []⟩
  | _ => none
def r35 : List AV → Option PRes
  | [.agg [.int .i64 k, .int .i64 a], .agg [.int .i64 x, .int .i64 y, .int .i64 z, .int .i64 d]] => asr (decide (0 ≤ k ∧ k < 5)) ⟨I (off k a x y z d), []⟩
  | _ => none
def r36 : List AV → Option PRes
  | [.agg [.int .i64 x, .int .i64 y, .int .i64 z]] => some ⟨P4 x y z 1, []⟩
  | _ => none
def k5 : PC := ins 17 r17 (ins 33 r33 (ins 34 r34 (ins 35 r35 (ins 36 r36 k96))))
theorem k5_ok : PCOK Tryz.prog k5 := by
  refine ins_ok (fun a res h => ?_) (ins_ok (fun a res h => ?_) (ins_ok (fun a res h => ?_) (ins_ok (fun a res h => ?_) (ins_ok (fun a res h => ?_) k96_ok))))
  · unfold r17 at h; split at h <;> cases h; exact awake_ok
  · unfold r33 at h; split at h <;> cases h; exact c33 _ _ _ _ _
  · unfold r34 at h; split at h <;> cases h; exact c34 _ _ _ _ _ _
  · unfold r35 at h; split at h
    · obtain ⟨h1, rfl⟩ := asr_some h
      have := of_decide_eq_true h1
      exact c35 _ _ _ _ _ this.1 this.2
    · cases h
  · unfold r36 at h; split at h <;> cases h; exact c36 _ _ _

theorem bo_true {b : Bool} {σ : St} (h : b = true) : Ret ⟨Bo true, []⟩ (.bool b) σ := ret_bool h

set_option maxHeartbeats 1000000 in
set_option maxRecDepth 100000 in
theorem c5a {k a x y z u v w : Int} (h1 : rmirErr k a x y z = 0) (h2 : rmirErr k a u v w = 0) : PCall Tryz.prog 5 [P2 k a, P3 x y z, P3 u v w] ⟨Bo true, []⟩ := by
  have hk : 0 ≤ k ∧ k < 5 := by have := (rmirErr_zero h1).1; omega
  have e1 := (mirErr_eq k a x y z).trans h1
  have e2 := (mirErr_eq k a u v w).trans h2
  have e3 := mirP_eq k a x y z
  have e4 := mirP_eq k a u v w
  have p1 : rmirP k a x y z = rmir k a x y z := by simp [rmirP, h1]
  have p2 : rmirP k a u v w = rmir k a u v w := by simp [rmirP, h2]
  have q1 := rmir_square h1 h2
  have q2 := rmir_off h1
  obtain ⟨b1, b2⟩ := rmir_back h1
  have b3 := (mirErr_eq k a (rmir k a x y z).1 (rmir k a x y z).2.1 (rmir k a x y z).2.2).trans b1
  have b4 : mirP k a (rmir k a x y z).1 (rmir k a x y z).2.1 (rmir k a x y z).2.2 = (x, y, z) := by rw [mirP_eq]; simp [rmirP, b1, b2]
  refine bs.pv (sx := nos) k5_ok Tryz.func5 (by kernel_rfl) (by kernel_rfl) rfl ?_
  repeat' ((conv => whnf); (fail_if_success with_reducible refine Ret.mk ?_); first | with_reducible refine And.intro (by kernel_rfl) ?_ | refine Br.intro (fun _ => ?_) (fun _ => ?_) | refine Got.intro (asr_of hk) ?_)
  all_goals refine bo_true ?_
  all_goals simp_all [Prod.ext_iff]
set_option maxHeartbeats 1000000 in
set_option maxRecDepth 100000 in
theorem c5b {k a x y z u v w : Int} (h1 : rmirErr k a x y z ≠ 0 ∨ rmirErr k a u v w ≠ 0) : PCall Tryz.prog 5 [P2 k a, P3 x y z, P3 u v w] ⟨Bo true, []⟩ := by
  have e1 := mirErr_eq k a x y z
  have e2 := mirErr_eq k a u v w
  have e3 := mirP_eq k a x y z
  have e4 := mirP_eq k a u v w
  refine bs.pv (sx := nos) k5_ok Tryz.func5 (by kernel_rfl) (by kernel_rfl) rfl ?_
  repeat' ((conv => whnf); (fail_if_success with_reducible refine Ret.mk ?_); first | with_reducible refine And.intro (by kernel_rfl) ?_ | refine Br.intro (fun _ => ?_) (fun _ => ?_))
  all_goals first | refine bo_true ?_ | exfalso
  all_goals simp_all
theorem c5 (k a x y z u v w : Int) : PCall Tryz.prog 5 [P2 k a, P3 x y z, P3 u v w] ⟨Bo true, []⟩ := by
  by_cases h1 : rmirErr k a x y z = 0
  · by_cases h2 : rmirErr k a u v w = 0
    · exact c5a h1 h2
    · exact c5b (.inr h2)
  · exact c5b (.inl h1)
end Go.Proofs.YtjpmeaagnhojgaaGreat
