/- The walks of slices.IndexFunc with steps' closure: the first entry with a page. -/
import Derived.Test.YtolmoknjmdmpgaaGreatAF
import Derived.BigQuiet
import Derived.Test.YtolmoknjmdmpgaaGreatFF
import Derived.Test.YtolmoknjmdmpgaaGreatDF
set_option linter.unusedSimpArgs false
set_option linter.unusedVariables false
namespace Dsd
end Dsd
namespace Go.Proofs.YtolmoknjmdmpgaaGreat
open Go.RowKit Dsd
end Go.Proofs.YtolmoknjmdmpgaaGreat
/- The walk of package index's steps, on a key's path. -/
namespace Dsd
end Dsd
namespace Go.Proofs.YtolmoknjmdmpgaaGreat
open Go.RowKit Dsd
end Go.Proofs.YtolmoknjmdmpgaaGreat
/- The walk of package index's writer.add, at any steps. -/
namespace Dsd
end Dsd
namespace Go.Proofs.YtolmoknjmdmpgaaGreat
open Go.RowKit Dsd
end Go.Proofs.YtolmoknjmdmpgaaGreat
