import Derived.Test.YtdjjmppnnkkloaaGreatDoorK2
import Derived.Test.YtdjjmppnnkkloaaGreatDoorSItemIn2
namespace Go.Proofs.YtdjjmppnnkkloaaGreatDoor
open Sy Go
set_option maxRecDepth 100000
set_option linter.unusedSimpArgs false
/-- A policy that is handed in. -/
theorem in_pol {n : Nat} {cs : List PD} (h : ShC T (n + 6) 25 cs) : ∃ p : Pol, cs = [.sl 1 (p.cats.map PD.str), .sl 2 (p.marks.map Mk.enc), .str p.token, .int .i64 p.fuel, .int .i64 p.quota] ∧ ∀ m ∈ p.marks, InM m.mask := by
  simp only [ShC] at h
  simp [ShF] at h
  obtain ⟨_, _, rfl, ⟨e1, rfl, _, h1⟩, _, _, rfl, ⟨e2, rfl, _, h2⟩, _, _, rfl, ⟨tk, rfl, _⟩, _, _, rfl, ⟨fu, rfl, _⟩, qu, rfl, _⟩ := h
  obtain ⟨cats, rfl⟩ := list_of (f := PD.str) (es := e1) (fun x hx => by
    obtain ⟨cs, rfl, s, rfl, _⟩ := h1 x hx
    exact ⟨s, by simp [packD]⟩)
  obtain ⟨ms, rfl, hm⟩ := list_of_p (f := Mk.enc) (p := fun x => InM x.mask) (es := e2) (fun x hx => by
    obtain ⟨cs, rfl, _, _, rfl, ⟨e3, rfl, _, h3⟩, mk, rfl, hk⟩ := h2 x hx
    obtain ⟨l, rfl⟩ := list_of (f := Step.enc) (es := e3) (fun x hx => by
      obtain ⟨cs, rfl, h⟩ := h3 x hx
      obtain ⟨_, _, rfl, ⟨k, rfl, _⟩, _, _, rfl, ⟨s, rfl, _⟩, n, rfl, _⟩ := h
      exact ⟨⟨k, s, n⟩, by simp [packD]⟩)
    refine ⟨⟨l, mk⟩, by simp [packD], ?_⟩
    unfold InM
    show 0 ≤ mk ∧ mk < 18446744073709551616
    omega)
  exact ⟨⟨cats, ms, tk, fu, qu⟩, rfl, hm⟩
end Go.Proofs.YtdjjmppnnkkloaaGreatDoor
