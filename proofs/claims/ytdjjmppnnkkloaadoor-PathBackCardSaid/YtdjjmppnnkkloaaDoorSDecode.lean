import Derived.Test.YtdjjmppnnkkloaaDoorSLibG
import Derived.Test.YtdjjmppnnkkloaaDoorSShelf
import Derived.Shelf.Unicode.DecodeAny
import Derived.Lib.MapLaws
/-
  OUR OWN LAYER: contracts of the kit's shelf as ours: utf8.DecodeRuneInString.
-/
namespace Go.Proofs.YtdjjmppnnkkloaaDoor
open Sy Go
variable {G : Glob}
theorem decodeL_max (l : List UInt8) : (Lib.decodeL l).1 ≤ 1114111 := decode_range _ _
theorem DecodeRune_ev (hG : U8 G) (s : List UInt8) (hs : s ≠ []) : AFn Tryd.prog G 28 [.str s] (.tup [.int .i32 (Lib.decodeL s).1, .int .i64 (Lib.decodeL s).2]) := by
  refine AFn.of_calls (callable_of Tryd.func28 (by kernel_rfl) rfl) fun M w vs hg hmem hsz hrd => ?_
  obtain ⟨b, rfl, rfl, hm⟩ := arg_str hsz hrd
  refine (Any.utf8_DecodeRuneInString Tryd.lays197 b w (u8_tabs hG hg hmem)).mono ?_
  rintro e w' ⟨rfl, hb⟩
  have h0 : b.size ≠ 0 := fun h => hs (List.eq_nil_of_length_eq_zero (by simpa using h))
  have e : Lib.decodeGo b = Lib.decodeL b.data.toList := by
    unfold Lib.decodeGo Lib.decodeL
    rw [if_neg h0]
  rw [e]
  have h1 := decodeL_max b.data.toList
  have h2 := Lib.decodeL_le b.data.toList hs
  have h3 : b.data.toList.length ≤ maxLen := by simpa using hm
  refine ⟨_, rfl, .tup rfl fun i u d hu hd => ?_, hb⟩
  match i, hu, hd with
  | 0, hu, hd => simp at hu hd; subst hu; subst hd; exact .int (by rw [kmin_eq]; simp only [kmin]; omega) (by rw [kmax_eq]; simp only [kmax]; omega)
  | 1, hu, hd => simp at hu hd; subst hu; subst hd; exact .int (by rw [kmin_eq]; simp only [kmin]; omega) (by rw [kmax_eq]; simp only [kmax]; unfold maxLen at h3; omega)
  | i + 2, hu, hd => simp at hu
end Go.Proofs.YtdjjmppnnkkloaaDoor
