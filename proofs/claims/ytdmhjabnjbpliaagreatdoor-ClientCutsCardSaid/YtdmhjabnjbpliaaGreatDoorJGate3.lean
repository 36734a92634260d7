/- Several texts in one (their own heads say what each is). No conditions but those that each theorem names. -/
import Derived.Test.YtdmhjabnjbpliaaGreatDoorJGate1
set_option linter.unusedVariables false
set_option linter.unusedSimpArgs false
/- XGate3 -/
namespace Go.Proofs.YtdmhjabnjbpliaaGreatDoor
open Go.RowKit
/-- is a part there? -/
def gIn1 (obj : List UInt8) (p : PartT) : Bool := !p.1.isEmpty || (spanB p.2.1 p.2.2 && decide (p.2.2 ≤ (obj.length : Int)))
/-- are all parts there? -/
def gIn (obj : List UInt8) (ps : List PartT) : Bool := ps.all (gIn1 obj)
end Go.Proofs.YtdmhjabnjbpliaaGreatDoor
/- XGate4 -/
namespace Go.Proofs.YtdmhjabnjbpliaaGreatDoor
open Go.RowKit
/-- may an answer be told whole? -/
def wholeOk (st : Int) (fs : List Fld) (ps : List PartT) (sz : Int) (obj : List UInt8) : Bool := tellB st fs sz && gIn obj ps && !(bodB st && (decide (0 ≤ sz) && sz != ((fillL obj ps).length : Int)))
/-- a whole answer's bytes -/
def wholeR (st : Int) (fs : List Fld) (ps : List PartT) (sz : Int) (obj : List UInt8) : List UInt8 × Nat :=
  if wholeOk st fs ps sz obj then (if (headR st fs sz).2 = 0 ∧ bodB st = true then ((headR st fs sz).1 ++ gBody sz (fillL obj ps) ++ gEnd sz true, 0) else headR st fs sz) else ([], 1)
end Go.Proofs.YtdmhjabnjbpliaaGreatDoor
/- XGate5 -/
namespace Go.Proofs.YtdmhjabnjbpliaaGreatDoor
open Go.RowKit
end Go.Proofs.YtdmhjabnjbpliaaGreatDoor
