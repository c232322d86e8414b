/- Walks of the program's functions. -/
import Derived.Test.YtmjieefhjmiagaaGreatDoorWRa
set_option linter.all false
namespace Go.Proofs.YtmjieefhjmiagaaGreatDoor.G
open Go Go.RowKit
end Go.Proofs.YtmjieefhjmiagaaGreatDoor.G
