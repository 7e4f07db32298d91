/- The model: what a term is worth (numbers, truths, functions, comparisons), the spec; app. -/
import Derived.Test.YtiokmnabkccpcaaD1
import Derived.Deep.RegionHeld3
set_option linter.unusedVariables false
set_option linter.unusedSimpArgs false
namespace Go.Proofs.Ytiokmnabkccpcaa.Kit
open Go.RowKit Go.Proofs.YtiokmnabkccpcaaW.PrintWords Go.Proofs.YtiokmnabkccpcaaW.PrintLast Go.Proofs.YtiokmnabkccpcaaW.PrintMore

def txtS : Vl → ByteArray
  | .num z => decS z
  | .tru b => truthS b
  | .obj _ => ⟨#[]⟩
def rowS (rows : List Rw) (args : List ByteArray) (els : ByteArray) : ByteArray :=
  match rows.find? (fun r => decide (listsOf r.f0 = listsOf args)) with
  | some r => r.f1
  | none => els
def appS (sig : List Sg) (tb : List Tb) (name : ByteArray) (args : List ByteArray) : Option Vl :=
  if idxOf (fun x : Tb => x.f0.toList == name.toList) tb < 0 then none
  else readS (rowS (rd_TTb tb (idxOf (fun x => x.f0.toList == name.toList) tb)).f1 args (rd_TTb tb (idxOf (fun x => x.f0.toList == name.toList) tb)).f2) (rd_TSg sig (idxOf (fun f => f.f0.toList == name.toList) sig)).f2
mutual
/-- What a term is worth; none: it can't be told. -/
def valT (sig : List Sg) (tb : List Tb) : Tm → Option Vl
  | ⟨op, name, _, n, l, _, _⟩ =>
    if op = 1 then some (.num ((parseS n).getD 0))
    else if op = 17 then match valL sig tb l with
      | none => none
      | some vs => appS sig tb name (vs.map txtS)
    else match valL sig tb l with
      | none => none
      | some vs =>
        if op = 2 then some (.tru true)
        else if op = 11 then match vs with
          | [.num a, .num b] => some (.tru (decide (a < b)))
          | _ => none
        else none
def valL (sig : List Sg) (tb : List Tb) : List Tm → Option (List Vl)
  | [] => some []
  | x :: r => match valT sig tb x with
    | none => none
    | some v => match valL sig tb r with
      | none => none
      | some vs => some (v :: vs)
end
/-- The panic by which a reckoning ends that can't be told. -/
def failV : Value := .iface 59 (.agg #[.int .i64 40])
def GivesVl (w : World) (r : Option Vl) : Ending → World → Prop := fun e w' => Below w.heap.size w w' ∧ match r with
  | some u => ∃ v, e = .returned v ∧ VlV w' v u
  | none => e = .panicked [{ v := failV, recovered := false }]
end Go.Proofs.Ytiokmnabkccpcaa.Kit
