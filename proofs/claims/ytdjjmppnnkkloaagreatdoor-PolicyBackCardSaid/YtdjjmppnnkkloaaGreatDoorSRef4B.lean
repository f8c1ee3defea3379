import Derived.Test.YtdjjmppnnkkloaaGreatDoorSRef4A
import Derived.Test.YtdjjmppnnkkloaaGreatDoorM3
namespace Go.Proofs.YtdjjmppnnkkloaaGreatDoor
open Sy Go
set_option maxRecDepth 100000
set_option maxHeartbeats 4000000
set_option linter.unusedSimpArgs false
set_option linter.unusedVariables false
variable {G : Glob}
structure Item where
 kind : Int
 many : Int
 mask : Int
 num : List UInt8
 text : List UInt8
 keys : List (List UInt8)
@[simp] def Item.enc (x : Item) : PD := .agg [.int .i64 x.kind, .int .i64 x.many, .int .u64 x.mask, .str x.num, .str x.text, .sl 1 (x.keys.map PD.str)]
end Go.Proofs.YtdjjmppnnkkloaaGreatDoor
