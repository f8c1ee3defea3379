import Derived.Test.YtdjjmppnnkkloaaGreatDoorM3
import Derived.Laws.RangeString
import Derived.Lib.RuneCount
namespace Go.Proofs.YtdjjmppnnkkloaaGreatDoor
open Sy Go
set_option linter.unusedSimpArgs false
set_option linter.unusedVariables false
theorem decL_pos {s : List UInt8} {pos : Nat} (h : pos < s.length) : 1 ≤ (decL s pos).2 := Lib.decode_width_pos _ _ (by simpa [ByteArray.size] using h)
end Go.Proofs.YtdjjmppnnkkloaaGreatDoor
