import Derived.Test.YtdjjmppnnkkloaaGreatDoorK2
import Derived.Test.YtdjjmppnnkkloaaGreatDoorSRefPol
import Derived.Test.YtdjjmppnnkkloaaGreatDoorSLab
import Derived.Test.YtdjjmppnnkkloaaGreatDoorSLabLaw
import Derived.Test.YtdjjmppnnkkloaaGreatDoorSBuiltL
import Derived.Test.YtdjjmppnnkkloaaGreatDoorSRefSB
import Derived.Test.YtdjjmppnnkkloaaGreatDoorSRefDeep
namespace Go.Proofs.YtdjjmppnnkkloaaGreatDoor
open Sy Go
set_option linter.unusedSimpArgs false
set_option linter.unusedVariables false
variable {G : Glob}
structure PolFew (p : Pol) : Prop where
 masks : ∀ m ∈ p.marks, InM m.mask
 keys : ∀ m ∈ p.marks, ∀ t ∈ m.path, t.key.length ≤ 1000
 paths : ∀ m ∈ p.marks, m.path.length ≤ 1000
 marks : p.marks.length ≤ 1000
 cats : ∀ c ∈ p.cats, c.length ≤ 1000000000
 token : p.token.length ≤ 1000000000
theorem polFew {p : Pol} (hm : ∀ m ∈ p.marks, InM m.mask) : PolFew (fewPol p) where
 masks := fewPol_masks hm
 keys m hm t ht := by have := fewPol_keys m hm t ht; omega
 paths m hm := by have := fewPol_paths m hm; omega
 marks := by have := fewPol_marks p; omega
 cats c hc := by have := fewPol_cats c hc; omega
 token := by have := fewPol_token p; omega
theorem PolFew.may {p : Pol} (h : PolFew p) : AFn Tryz.prog G 14 [p.enc] (.int .i64 (polMay p)) := refPolMay_ev p h.masks h.keys h.cats h.token
theorem PolFew.with {p : Pol} (h : PolFew p) (ms : List Mk) (hs : ∀ m ∈ ms, m ∈ p.marks ∨ (m.path.length ≤ 1 ∧ m.mask = 1 ∧ ∀ t ∈ m.path, t.key.length ≤ 1000)) (hl : ms.length ≤ 1000) : PolFew { p with marks := ms } where
 masks m hm := by
  rcases hs m hm with h1 | ⟨_, h1, _⟩
  ·exact h.masks m h1
  ·rw [h1]; exact one_in
 keys m hm t ht := by
  rcases hs m hm with h1 | ⟨_, _, h1⟩
  ·exact h.keys m h1 t ht
  ·exact h1 t ht
 paths m hm := by
  rcases hs m hm with h1 | ⟨h1, _, _⟩
  ·exact h.paths m h1
  ·omega
 marks := hl
 cats := h.cats
 token := h.token
theorem PolFew.label {p : Pol} (h : PolFew p) {v : Val} (hv : mayT v = true) (hs : v.sz ≤ 80) : AFn Tryz.prog G 19 [p.enc, v.enc] (labT p.marks v []).enc := label_ev p v h.paths (by have := h.marks; omega) hv (by omega)
end Go.Proofs.YtdjjmppnnkkloaaGreatDoor
