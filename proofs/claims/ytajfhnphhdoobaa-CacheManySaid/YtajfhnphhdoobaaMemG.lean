/- The laws of the space: what is asked first; MemRooms, the walk. No condition. -/
import Derived.Test.YtajfhnphhdoobaaMemF
import Derived.Test.YtajfhnphhdoobaaRoomPlain
set_option linter.unusedVariables false
set_option linter.unusedSimpArgs false
namespace Go.SX.G
open Go Go.SX Go.Proofs
set_option maxRecDepth 100000
set_option maxHeartbeats 2000000
end Go.SX.G
