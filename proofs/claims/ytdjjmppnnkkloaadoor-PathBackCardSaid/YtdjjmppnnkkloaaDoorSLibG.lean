import Derived.Test.YtdjjmppnnkkloaaDoorM4
import Derived.Lib.ValidU
import Derived.Lib.LaidU8T
/-
  OUR OWN LAYER: how contracts of the kit's shelf become ours; the tables of unicode/utf8.
-/
namespace Go.Proofs.YtdjjmppnnkkloaaDoor
open Sy Go
namespace Sy
variable {P : Program} {G : Glob}
theorem AFn.of_calls {f : FuncId} {args : List PD} {r : PD} (hc : Callable P f) (h : ∀ (M : FMap) (w : World) (vs : Array Value), GOK G M w → (∀ b o v, M b o = some v → w.cell? ⟨b, o, none⟩ = some v) → vs.size = args.length →
    (∀ (i : Nat) u d, vs[i]? = some u → args[i]? = some d → Rd M u d) → Calls P f vs w fun e w' => ∃ v, e = .returned v ∧ Rd M v r ∧ RowKit.Below w.heap.size w w') : AFn P G f args r := by
  refine ⟨hc, fun M w vs hg hmem hsz hrd => (h M w vs hg hmem hsz hrd).mono ?_⟩
  rintro e w' ⟨v, rfl, hv, hb⟩
  refine ⟨v, M, rfl, hv, fun b o u hu => ?_, fun _ _ _ h => h, fun _ _ _ => rfl, hb⟩
  have h1 := hmem b o u hu
  exact (World.cell?_of_block (w := w) (hb.block b (lt_of_cell h1))).trans h1
theorem callable_of {f : FuncId} {fn : Func} {c : Code} (hf : P.funcs[f]? = some fn) (hn : (fn.name == "runtime.NumGoroutine") = false) (hb : fn.body = some c) : Callable P f := ⟨fn, c, hf, hn, hb⟩
theorem arg_str {M : FMap} {vs : Array Value} {s : List UInt8} (hsz : vs.size = 1) (h : ∀ (i : Nat) u d, vs[i]? = some u → [PD.str s][i]? = some d → Rd M u d) : ∃ b : ByteArray, vs = #[.string b] ∧ b.data.toList = s ∧ b.size ≤ maxLen := by
  obtain ⟨l⟩ := vs
  match l, hsz with
  | [u], _ =>
    have := h 0 u (.str s) rfl rfl
    cases this with
    | @str b _ hs hm => exact ⟨b, rfl, hs, by rw [str_size hs]; exact hm⟩
/-- The tables of unicode/utf8. -/
def firstP : List PD := (List.range 256).map fun c => .int .u8 (Lib.firstT c)
def accP : List PD := (List.range 32).map fun i => .int .u8 (if i % 2 = 0 then Lib.accLo (i / 2) else Lib.accHi (i / 2))
def HasU8 (g3 g4 : Nat) (G : Glob) : Prop := G g3 = some firstP ∧ G g4 = some accP
theorem u8_tabs {g3 g4 : Nat} {M : FMap} {w : World} (hG : HasU8 g3 g4 G) (hg : GOK G M w) (hmem : ∀ b o v, M b o = some v → w.cell? ⟨b, o, none⟩ = some v) : Lib.Utf8Tabs g3 g4 w := by
  have key : ∀ (g : Nat) (cs : List PD) (j : Nat) (n : Int), G g = some cs → cs[j]? = some (.int .u8 n) → w.cell? ⟨g, j, none⟩ = some (.int .u8 n) := by
    intro g cs j n h1 h2
    obtain ⟨h3, h4⟩ := hg.1 g cs h1
    obtain ⟨u, hu, _⟩ := h3 j _ h2
    have := h4 j _ u h2 hu
    cases this
    exact hmem _ _ _ hu
  refine ⟨fun c hc => key _ _ _ _ hG.1 (by simp [firstP, hc]), fun i hi => ⟨key _ _ _ _ hG.2 ?_, key _ _ _ _ hG.2 ?_⟩⟩
  · simp [accP, show 2 * i < 32 by omega]
  · simp only [accP, List.getElem?_map, List.getElem?_range (show 2 * i + 1 < 32 by omega), Option.map_some]
    rw [if_neg (by omega), show (2 * i + 1) / 2 = i by omega]
def u8G (g3 g4 : Nat) : Glob := fun g => if g = g3 then some firstP else if g = g4 then some accP else none
theorem u8G_has {g3 g4 : Nat} (h : g4 ≠ g3) : HasU8 g3 g4 (u8G g3 g4) := ⟨by simp [u8G], by simp [u8G, h]⟩
theorem u8G_ok {g3 g4 : Nat} {W : World} (h : Lib.Utf8Tabs g3 g4 W) (hne : g4 ≠ g3) : GOK (u8G g3 g4) (memOf W) W := by
  have one : ∀ (g j : Nat) (cs : List PD), (∀ (j : Nat) d, cs[j]? = some d → ∃ n : Int, d = .int .u8 n ∧ 0 ≤ n ∧ n ≤ 255 ∧ W.cell? ⟨g, j, none⟩ = some (.int .u8 n)) →
      (∀ (j : Nat) d, cs[j]? = some d → ∃ u, memOf W g j = some u ∧ u.oneCell' = true) ∧ (∀ (j : Nat) d u, cs[j]? = some d → memOf W g j = some u → Rd (memOf W) u d) := by
    intro g _ cs hc
    refine ⟨fun j d hd => ?_, fun j d u hd hu => ?_⟩
    · obtain ⟨n, rfl, _, _, h⟩ := hc j d hd; exact ⟨_, h, rfl⟩
    · obtain ⟨n, rfl, h0, h1, h⟩ := hc j d hd
      have : some u = some (Value.int .u8 n) := hu.symm.trans h
      cases this
      exact .int (by rw [kmin_eq]; exact h0) (by rw [kmax_eq]; exact h1)
  have hft : ∀ c, (0 : Int) ≤ Lib.firstT c ∧ (Lib.firstT c : Int) ≤ 255 := fun c => by
    rcases Lib.firstT_cases c with h | h | h | h | h | h | h | h | h <;> rw [h] <;> omega
  have hno : GX (u8G g3 g4) W := fun g cs hg ht => by
    simp only [u8G] at hg
    split at hg
    · cases hg; exact absurd ht (by rw [show isTab firstP = false from rfl]; simp)
    · split at hg
      · cases hg; exact absurd ht (by rw [show isTab accP = false from rfl]; simp)
      · cases hg
  refine ⟨?_, hno⟩
  intro g cs hg
  simp only [u8G] at hg
  split at hg
  · rename_i e
    subst e
    cases hg
    refine one g 0 _ fun j d hd => ?_
    have hj : j < 256 := by have := (List.getElem?_eq_some_iff.1 hd).1; simpa [firstP] using this
    simp [firstP, hj] at hd
    exact ⟨_, hd.symm, (hft j).1, (hft j).2, h.1 j hj⟩
  · split at hg
    · rename_i _ e
      subst e
      cases hg
      refine one g 0 _ fun j d hd => ?_
      have hj : j < 32 := by have := (List.getElem?_eq_some_iff.1 hd).1; simpa [accP] using this
      simp only [accP, List.getElem?_map, List.getElem?_range hj, Option.map_some, Option.some.injEq] at hd
      have hb := h.2 (j / 2) (by omega)
      have hacc : ∀ i, i < 16 → (0 : Int) ≤ Lib.accLo i ∧ (Lib.accLo i : Int) ≤ 255 ∧ (0 : Int) ≤ Lib.accHi i ∧ (Lib.accHi i : Int) ≤ 255 := by decide
      have hac := hacc (j / 2) (by omega)
      by_cases h2 : j % 2 = 0
      · rw [if_pos h2] at hd
        exact ⟨_, hd.symm, hac.1, hac.2.1, by have := hb.1; rwa [show 2 * (j / 2) = j by omega] at this⟩
      · rw [if_neg h2] at hd
        exact ⟨_, hd.symm, hac.2.2.1, hac.2.2.2, by have := hb.2; rwa [show 2 * (j / 2) + 1 = j by omega] at this⟩
    · cases hg
end Sy
variable {G : Glob}
abbrev U8 (G : Glob) : Prop := HasU8 0 1 G
end Go.Proofs.YtdjjmppnnkkloaaDoor
