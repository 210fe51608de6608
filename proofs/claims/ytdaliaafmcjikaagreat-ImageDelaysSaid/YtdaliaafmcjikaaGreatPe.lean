/- A part of the proof: lemmas. -/
import Derived.Test.YtdaliaafmcjikaaGreatZx6
import Lean
set_option linter.unusedVariables false
set_option linter.unusedSimpArgs false
open Lean Meta Elab Tactic
/-! For looking only (not for a claim): prints the temporaries and blocks of a goal. -/
partial def listOf (e : Expr) : MetaM (List Expr) := do
  let e ← whnf e
  match e.getAppFnArgs with
  | (``List.cons, #[_, a, l]) => return a :: (← listOf l)
  | _ => return []
partial def evN (e : Expr) : MetaM String := do
  match ← evalNat e with
  | some n => return toString n
  | none =>
    let e ← whnf e
    match e.getAppFnArgs with
    | (``Nat.succ, #[a]) => do
      let s ← evN a
      return s!"{s.toNat! + 1}"
    | _ => match e.rawNatLit? with
      | some n => return toString n
      | none => if e.isConstOf ``Nat.zero then return "0" else return s!"?({(← ppExpr e).pretty.take 40})"
partial def showAV (v : Expr) : MetaM String := do
  let v ← whnf v
  let nm := v.getAppFn.constName?.getD `x
  let s := nm.getString!
  let as := v.getAppArgs
  if s == "ptr" then return s!"ptr {← evN as[0]!} {← evN as[1]!} {← evN as[2]!}"
  if s == "asl" then return s!"asl {← evN as[0]!} {← evN as[1]!} {(← ppExpr as[2]!).pretty.take 60}"
  if s == "agg" || s == "tup" then
    let l ← listOf as[0]!
    let l2 ← l.mapM showAV
    return s!"{s} {l2}"
  if s == "func" then
    let l ← listOf as[1]!
    let l2 ← l.mapM showAV
    let m ← listOf as[2]!
    let m2 ← m.mapM showAV
    return s!"func {← evN as[0]!} {l2} {m2}"
  return ((← ppExpr v).pretty.take 110).toString
elab "penv" : tactic => withMainContext do
  let g ← getMainTarget
  let g ← instantiateMVars g
  for a in g.getAppArgs do
    let t ← inferType a
    let t ← whnfR t
    if t.isAppOf `Go.Sx.St || t.isConstOf `Go.Sx.St then
      let heap ← mkProjection a `heap
      let nx ← mkProjection a `next
      IO.println s!"next {← evN nx}"
      for p in (← listOf heap) do
        let p ← whnf p
        match p.getAppFnArgs with
        | (``Prod.mk, #[_, _, k, b]) => do
          let b ← whnf b
          let as := b.getAppArgs
          let nm := (b.getAppFn.constName?.getD `x).getString!
          if nm == "row" then
            let rows ← (listOf as[1]! : MetaM _)
            let mut rs := ""
            for r in rows do
              for c in (← (listOf r : MetaM _)) do
                let s ← (showAV c : MetaM String)
                rs := rs ++ s ++ ", "
              rs := rs ++ "; "
            let tl ← ppExpr as[1]!
            let tail := if rows.isEmpty then (tl.pretty.take 80).toString else ""
            let f1 := (← ppExpr (← whnf as[2]!)).pretty
            let f2 := (← ppExpr (← whnf as[3]!)).pretty
            IO.println s!"  blk {← evN k} row {← evN as[0]!} [{rs}] {f1} {f2} :: {tail}"
          else IO.println s!"  blk {← evN k} {((← ppExpr b).pretty.take 100).toString}"
        | _ => pure ()
    else
      let ts := (← ppExpr t).pretty
      if ts == "Go.Sx.Env" || ts == "Env" || ts == "List (Nat × AV)" || ts == "List (Go.Tmp × Go.Sx.AV)" || ts == "List (Tmp × AV)" then
        let mut seen : List String := []
        for p in (← listOf a) do
          let p ← whnf p
          match p.getAppFnArgs with
          | (``Prod.mk, #[_, _, k, v]) => do
            let ks ← evN k
            unless seen.contains ks do
              seen := ks :: seen
              IO.println s!"  t{ks} = {← showAV v}"
          | _ => pure ()

elab "pheap" : tactic => withMainContext do
  let g ← instantiateMVars (← getMainTarget)
  let some s := g.find? (fun e => e.isAppOf ``Go.Sx.St.get && e.getAppNumArgs == 1) | IO.println "no state"
  let a := s.getAppArgs[0]!
  let hp ← whnf (mkApp (mkConst ``Go.Sx.St.heap) a)
  let nx ← whnf (mkApp (mkConst ``Go.Sx.St.next) a)
  IO.println s!"next {← evN nx}"
  for p in (← listOf hp) do
    let p ← whnf p
    match p.getAppFnArgs with
    | (``Prod.mk, #[_, _, k, b]) =>
      let b ← whnf b
      let as := b.getAppArgs
      let nm := (b.getAppFn.constName?.getD `x).getString!
      if nm == "row" then
        let rows ← (listOf as[1]! : MetaM _)
        let mut rs := ""
        for r in rows do
          for c in (← (listOf r : MetaM _)) do
            let s ← (showAV c : MetaM String)
            rs := rs ++ s ++ ", "
          rs := rs ++ "; "
        let f1 := (← ppExpr (← whnf as[2]!)).pretty
        let f2 := (← ppExpr (← whnf as[3]!)).pretty
        IO.println s!"  blk {← evN k} row {← evN as[0]!} [{rs}] {f1} {f2}"
      else IO.println s!"  blk {← evN k} {((← ppExpr b).pretty.take 100).toString}"
    | _ => pure ()

elab "phead" : tactic => withMainContext do
  let g ← instantiateMVars (← getMainTarget)
  IO.println s!"head {g.getAppFn.constName?}"
  let g2 ← whnfR g
  IO.println s!"head {g2.getAppFn.constName?} {((← ppExpr g2).pretty.take 700).toString}"
