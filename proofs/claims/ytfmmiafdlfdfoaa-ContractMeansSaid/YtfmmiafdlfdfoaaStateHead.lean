/- The walk over belief.IsState. Conditions: cars and duties that can be read. -/
import Derived.Test.YtfmmiafdlfdfoaaState
import Derived.IntWalk
namespace Go.Proofs.Ytfmmiafdlfdfoaa
open Go.RowKit
end Go.Proofs.Ytfmmiafdlfdfoaa
