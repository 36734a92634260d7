/- The items of values, told one by one to a function: what comes of it. -/
import Derived.Test.YtidijgofoklejaaDoorField8
namespace Go.Proofs.YtidijgofoklejaaDoor
open Go.RowKit
theorem tell_cons (go : List (List UInt8) → List UInt8 → Bool) (done : List (List UInt8)) (x : List UInt8) (r : List (List UInt8)) : tell go done (x :: r) = if go done x then tell go (done ++ [x]) r else done ++ [x] := rfl
end Go.Proofs.YtidijgofoklejaaDoor
