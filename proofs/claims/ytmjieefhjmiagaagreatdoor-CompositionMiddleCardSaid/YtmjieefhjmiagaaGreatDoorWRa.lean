/- Walks of the program's functions. -/
import Derived.Test.YtmjieefhjmiagaaGreatDoorWA
import Derived.Test.YtmjieefhjmiagaaGreatDoorGRls
set_option linter.all false
namespace Go.Proofs.YtmjieefhjmiagaaGreatDoor.G
open Go Go.RowKit
end Go.Proofs.YtmjieefhjmiagaaGreatDoor.G
