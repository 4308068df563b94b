/- The walk of package index's writer.add: its recursion. -/
import Derived.Test.YtolmoknjmdmpgaaGreatFK
import Derived.Test.YtolmoknjmdmpgaaGreatFG
import Derived.Test.YtolmoknjmdmpgaaGreatFT
set_option linter.unusedSimpArgs false
set_option linter.unusedVariables false
namespace Dsd
end Dsd
namespace Go.Proofs.YtolmoknjmdmpgaaGreat
open Go.RowKit Dsd
theorem WrS.chgT {B wb g : Nat} {h : Hd} {d : DS} {L : List Wr} {w w' : World} {t : TypeId} {cs : Array Value} (k : WrS B wb h d L w) (hb : Blk w g (.cells cs t)) (h1 : 93 ≠ t) (h2 : 65 ≠ t) (c : Chg g w w') : WrS B wb h d L w' := by
  obtain ⟨q, c0, a1, a2, a3⟩ := k
  exact ⟨q, c0, c.blk a1 (ndBlk a1 hb h1), own_chgT a2 h2 hb c, a3⟩
end Go.Proofs.YtolmoknjmdmpgaaGreat
/- The walk of package index's Add, where it does not fail. -/
namespace Dsd
end Dsd
namespace Go.Proofs.YtolmoknjmdmpgaaGreat
open Go.RowKit Dsd
end Go.Proofs.YtolmoknjmdmpgaaGreat
