import Derived.Test.YtgoepemmcibdaaaGreatDoorSLibU
import Derived.Shelf.Small.Strs
import Derived.Shelf.Strings.Repeat
/-
  OUR OWN LAYER: contracts of the kit's shelf as ours: strings.Compare, strings.Repeat.
-/
namespace Go.Proofs.YtgoepemmcibdaaaGreatDoor
open Sy Go
variable {G : Glob}
theorem arg_str2 {M : FMap} {vs : Array Value} {s t : List UInt8} (hsz : vs.size = 2) (h : ∀ (i : Nat) u d, vs[i]? = some u → [PD.str s, PD.str t][i]? = some d → Rd M u d) : ∃ a b : ByteArray, vs = #[.string a, .string b] ∧ a.data.toList = s ∧ b.data.toList = t := by
  obtain ⟨l⟩ := vs
  match l, hsz with
  | [u, v], _ =>
    have h1 := h 0 u (.str s) rfl rfl
    have h2 := h 1 v (.str t) rfl rfl
    cases h1 with
    | @str a _ ha _ =>
    cases h2 with
    | @str b _ hb _ => exact ⟨a, b, rfl, ha, hb⟩
theorem arg_strInt {M : FMap} {vs : Array Value} {s : List UInt8} {n : Int} (hsz : vs.size = 2) (h : ∀ (i : Nat) u d, vs[i]? = some u → [PD.str s, PD.int .i64 n][i]? = some d → Rd M u d) : ∃ a : ByteArray, vs = #[.string a, .int .i64 n] ∧ a.data.toList = s ∧ n ≤ 9223372036854775807 := by
  obtain ⟨l⟩ := vs
  match l, hsz with
  | [u, v], _ =>
    have h1 := h 0 u (.str s) rfl rfl
    have h2 := h 1 v (.int .i64 n) rfl rfl
    cases h1 with
    | @str a _ ha _ =>
    cases h2 with
    | int h3 h4 => exact ⟨a, rfl, ha, by rw [kmax_eq] at h4; exact h4⟩
theorem Compare_ev (a b : List UInt8) : AFn Tryz.prog G 45 [.str a, .str b] (.int .i64 (Lib.compareBytes a b)) := by
  refine AFn.of_calls (callable_of Tryz.func45 (by kernel_rfl) rfl) fun M w vs hg hmem hsz hrd => ?_
  obtain ⟨x, y, rfl, rfl, rfl⟩ := arg_str2 hsz hrd
  refine (Any.strings_Compare Tryz.lays106 x y w).mono ?_
  rintro e w' ⟨rfl, rfl⟩
  have hb : -1 ≤ Lib.compareBytes x.data.toList y.data.toList ∧ Lib.compareBytes x.data.toList y.data.toList ≤ 1 := by
    generalize x.data.toList = l; generalize y.data.toList = m
    induction l generalizing m with
    | nil => cases m <;> simp [Lib.compareBytes]
    | cons a l ih =>
      cases m with
      | nil => simp [Lib.compareBytes]
      | cons b m =>
        simp only [Lib.compareBytes]
        split
        · omega
        · split
          · omega
          · exact ih m
  exact ⟨_, rfl, .int (by rw [kmin_eq]; simp only [kmin]; omega) (by rw [kmax_eq]; simp only [kmax]; omega), RowKit.Below.refl _ _⟩
theorem builder_extra : Builder.Extra Tryz.prog Tryz.lays105_ren where
  sizeBuilder := by kernel_rfl
  liesBuilder := by kernel_rfl
  t5 := Tryz.underlying5
  a5 := Tryz.isAgg5
  z5 := Tryz.sizeOf5
  v5 := Tryz.zeroValue5
  infoByte := by kernel_rfl
  cellsByte := by kernel_rfl
  sizeByte := by kernel_rfl
  neB5 := by decide
theorem Repeat_ev (s : List UInt8) (n : Nat) (h : s.length * n ≤ 140737488355328) : AFn Tryz.prog G 90 [.str s, .int .i64 n] (.str (Lib.repeatL s n)) := by
  refine AFn.of_calls (callable_of Tryz.func90 (by kernel_rfl) rfl) fun M w vs hg hmem hsz hrd => ?_
  obtain ⟨x, rfl, rfl, hn⟩ := arg_strInt hsz hrd
  refine (Any.strings_Repeat Tryz.lays105 builder_extra x n w (by omega) (by rw [str_size rfl]; exact h)).mono ?_
  rintro e w' ⟨rfl, hb⟩
  refine ⟨_, rfl, .str (by simp) ?_, hb⟩
  rw [Lib.repeatL_length, Nat.mul_comm]; simp only [maxLen]; omega
end Go.Proofs.YtgoepemmcibdaaaGreatDoor
