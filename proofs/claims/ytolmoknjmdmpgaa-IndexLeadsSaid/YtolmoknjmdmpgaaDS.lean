/- The walk of the reference's Bounds, of trees. -/
import Derived.Test.YtolmoknjmdmpgaaDR
set_option linter.unusedSimpArgs false
set_option linter.unusedVariables false
namespace Go.Proofs.Ytolmoknjmdmpgaa
open Go.RowKit Dsd
end Go.Proofs.Ytolmoknjmdmpgaa
