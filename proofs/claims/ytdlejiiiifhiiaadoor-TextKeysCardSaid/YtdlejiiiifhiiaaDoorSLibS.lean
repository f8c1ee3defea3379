import Derived.Test.YtdlejiiiifhiiaaDoorSLibG
import Derived.Test.YtdlejiiiifhiiaaDoorSShelf
import Derived.Shelf.Small.Strs
import Derived.Shelf.Strings.Repeat
/-
  OUR OWN LAYER: contracts of the kit's shelf as ours: strings.Compare, strings.Repeat.
-/
namespace Go.Proofs.YtdlejiiiifhiiaaDoor
open Sy Go
variable {G : Glob}
theorem arg_str2 {M : FMap} {vs : Array Value} {s t : List UInt8} (hsz : vs.size = 2) (h : ∀ (i : Nat) u d, vs[i]? = some u → [PD.str s, PD.str t][i]? = some d → Rd M u d) : ∃ a b : ByteArray, vs = #[.string a, .string b] ∧ a.data.toList = s ∧ b.data.toList = t := by
  obtain ⟨l⟩ := vs
  match l, hsz with
  | [u, v], _ =>
    have h1 := h 0 u (.str s) rfl rfl
    have h2 := h 1 v (.str t) rfl rfl
    cases h1 with
    | @str a _ ha _ =>
    cases h2 with
    | @str b _ hb _ => exact ⟨a, b, rfl, ha, hb⟩
theorem arg_strInt {M : FMap} {vs : Array Value} {s : List UInt8} {n : Int} (hsz : vs.size = 2) (h : ∀ (i : Nat) u d, vs[i]? = some u → [PD.str s, PD.int .i64 n][i]? = some d → Rd M u d) : ∃ a : ByteArray, vs = #[.string a, .int .i64 n] ∧ a.data.toList = s ∧ n ≤ 9223372036854775807 := by
  obtain ⟨l⟩ := vs
  match l, hsz with
  | [u, v], _ =>
    have h1 := h 0 u (.str s) rfl rfl
    have h2 := h 1 v (.int .i64 n) rfl rfl
    cases h1 with
    | @str a _ ha _ =>
    cases h2 with
    | int h3 h4 => exact ⟨a, rfl, ha, by rw [kmax_eq] at h4; exact h4⟩
theorem builder_extra : Builder.Extra Tryd.prog Tryd.lays105_ren where
  sizeBuilder := by kernel_rfl
  liesBuilder := by kernel_rfl
  t5 := Tryd.underlying5
  a5 := Tryd.isAgg5
  z5 := Tryd.sizeOf5
  v5 := Tryd.zeroValue5
  infoByte := by kernel_rfl
  cellsByte := by kernel_rfl
  sizeByte := by kernel_rfl
  neB5 := by decide
theorem Repeat_ev (s : List UInt8) (n : Nat) (h : s.length * n ≤ 140737488355328) : AFn Tryd.prog G 31 [.str s, .int .i64 n] (.str (Lib.repeatL s n)) := by
  refine AFn.of_calls (callable_of Tryd.func31 (by kernel_rfl) rfl) fun M w vs hg hmem hsz hrd => ?_
  obtain ⟨x, rfl, rfl, hn⟩ := arg_strInt hsz hrd
  refine (Any.strings_Repeat Tryd.lays105 builder_extra x n w (by omega) (by rw [str_size rfl]; exact h)).mono ?_
  rintro e w' ⟨rfl, hb⟩
  refine ⟨_, rfl, .str (by simp) ?_, hb⟩
  rw [Lib.repeatL_length, Nat.mul_comm]; simp only [maxLen]; omega
end Go.Proofs.YtdlejiiiifhiiaaDoor
