import Derived.Test.YtdlejiiiifhiiaaGreatDoorSPrintAll
import Derived.Test.YtdlejiiiifhiiaaGreatDoorSShelf2
import Derived.Shelf.Strconv.Itoa3
/-
  OUR OWN LAYER: strconv.Itoa of small numbers.
-/
namespace Go.Proofs.YtdlejiiiifhiiaaGreatDoor
open Sy Go
variable {G : Glob}
theorem itoa_dec : ∀ k : Fin 100, Lib.decDigits k.val = itoa2 (k.val : Int) := by decide +kernel
theorem arg_int {M : FMap} {vs : Array Value} {n : Int} (hsz : vs.size = 1) (h : ∀ (i : Nat) u d, vs[i]? = some u → [PD.int .i64 n][i]? = some d → Rd M u d) : vs = #[.int .i64 n] := by
  obtain ⟨l⟩ := vs
  match l, hsz with
  | [u], _ =>
    have h1 := h 0 u (.int .i64 n) rfl rfl
    cases h1 with
    | int h3 h4 => rfl
theorem Itoa_ok (c : Int) (h0 : 0 ≤ c) (h1 : c ≤ 99) : ItoaOK G c := by
  refine ⟨?_, h0, h1⟩
  obtain ⟨n, rfl⟩ : ∃ n : Nat, c = n := ⟨c.toNat, by omega⟩
  refine AFn.of_calls (callable_of Tryz.func23 (by kernel_rfl) rfl) fun M w vs hg hmem hsz hrd => ?_
  obtain rfl := arg_int hsz hrd
  refine (Any.strconv_Itoa_small Tryz.lays171 n (by omega) w).mono ?_
  rintro e w' ⟨rfl, rfl⟩
  rw [itoa_dec ⟨n, by omega⟩]
  have hl : (itoa2 (n : Int)).length ≤ 2 := by unfold itoa2; split <;> simp
  exact ⟨_, rfl, .str (by simp) (by simp; omega), RowKit.Below.refl _ _⟩
end Go.Proofs.YtdlejiiiifhiiaaGreatDoor
