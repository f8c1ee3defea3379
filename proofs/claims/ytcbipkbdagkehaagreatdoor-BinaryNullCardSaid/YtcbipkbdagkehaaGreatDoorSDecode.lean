import Derived.Test.YtcbipkbdagkehaaGreatDoorK1
import Derived.Shelf.Unicode.DecodeAny
import Derived.Lib.MapLaws
namespace Go.Proofs.YtcbipkbdagkehaaGreatDoor
open Sy Go
variable {G : Glob}
end Go.Proofs.YtcbipkbdagkehaaGreatDoor
