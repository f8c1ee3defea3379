import Derived.Test.YtcfcfblbpnpclaaGreatDoorSLibG
import Derived.Test.YtcfcfblbpnpclaaGreatDoorSShelf
import Derived.Shelf.Unicode.ValidAny
namespace Go.Proofs.YtcfcfblbpnpclaaGreatDoor
open Sy Go
variable {G:qK}
end Go.Proofs.YtcfcfblbpnpclaaGreatDoor
