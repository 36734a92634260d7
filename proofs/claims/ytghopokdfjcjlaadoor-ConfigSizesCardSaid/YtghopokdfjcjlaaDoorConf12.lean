/- Layer 39: what the laws on numbers share. -/
import Derived.Test.YtghopokdfjcjlaaDoorConf9
import Derived.Test.YtghopokdfjcjlaaDoorConf11
namespace Go.Proofs.YtghopokdfjcjlaaDoor
open Go.RowKit
theorem refDefault39_lit (w : World) : Calls Tryd.prog 12 #[] w fun e w' => e = .returned (.agg #[.int .i64 65536, .int .i64 131072, .int .i64 8388608, .int .i64 16, .int .i64 2, .int .i64 2, .int .i64 262144, .int .i64 1073741824, .int .i64 536870912, .int .i64 32768]) ∧ Gr w w' := refDefault39_any w
end Go.Proofs.YtghopokdfjcjlaaDoor
