import Derived.Test.YtdjjmppnnkkloaaDoorSLibG
import Derived.Test.YtdjjmppnnkkloaaDoorSShelf
import Derived.Shelf.Unicode.ValidAny
/-
  OUR OWN LAYER: contracts of the kit's shelf as ours: which texts are UTF-8.
-/
namespace Go.Proofs.YtdjjmppnnkkloaaDoor
open Sy Go
variable {G : Glob}
theorem ValidString_ev (hG : U8 G) (s : List UInt8) : AFn Tryd.prog G 26 [.str s] (.bool (Lib.validD s)) := by
  refine AFn.of_calls (callable_of Tryd.func26 (by kernel_rfl) rfl) fun M w vs hg hmem hsz hrd => ?_
  obtain ⟨b, rfl, rfl, hm⟩ := arg_str hsz hrd
  refine (Any.utf8_ValidString Tryd.lays196 b w hm (u8_tabs hG hg hmem)).mono ?_
  rintro e w' ⟨rfl, hb⟩
  exact ⟨_, rfl, .bool _, hb⟩
end Go.Proofs.YtdjjmppnnkkloaaDoor
