import Derived.Test.YtgoepemmcibdaaaDoorM3
import Derived.RangeFuncBox
import Derived.RangeFuncLeaves
import Derived.Shelf.Abstract
import Derived.WalkKit
import Derived.OwnWalkIn
import Derived.TacticsInMore
import Derived.LoopNIn
import Derived.LoopIn
import Derived.Maps.AppendAt
import Derived.Shelf.Sort.Plain
import Derived.Test.YtgoepemmcibdaaaDoorProg
import Derived.Test.YtgoepemmcibdaaaDoorRows
import Derived.Shelf.Unicode.ValidAny
import Derived.Shelf.Small.Strs
import Derived.Shelf.Strings.Repeat
import Derived.Lib.LaidU8T
import Derived.Shelf.Slices.In.SortNone
import Derived.Sort.OwnSorted
import Derived.Laws.RangeString
import Derived.Lib.RuneCount
/-
  OUR OWN LAYER: the iterator over a slice of texts, and what is collected from it (a worked proof of the kit, turned to texts).
-/
namespace Go.Proofs.YtgoepemmcibdaaaDoor
open Go Go.RowKit Go.Shelf Go.Maps Go.Sort
attribute [local go_sem] Oper.semAt_some
def upto {α : Type} (f : Nat → α) (k : Nat) : List α := (List.range k).map f
theorem upto_succ {α : Type} (f : Nat → α) (k : Nat) : upto f (k + 1) = upto f k ++ [f k] := by simp [upto, List.range_succ]
theorem upto_length {α : Type} (f : Nat → α) (k : Nat) : (upto f k).length = k := by simp [upto]
theorem upto_take (zs : List (List UInt8)) {k : Nat} (hk : k ≤ zs.length) : upto (fun j => zs[j]?.getD []) k = zs.take k := by
  apply List.ext_getElem
  · simp [upto, hk]
  · intro i h1 h2
    have : i < zs.length := by simp [upto] at h1; omega
    simp [upto, this]
theorem upto_all (zs : List (List UInt8)) : upto (fun j => zs[j]?.getD []) zs.length = zs := by rw [upto_take zs (Nat.le_refl _), List.take_length]

set_option maxRecDepth 100000 in
set_option maxHeartbeats 2000000 in
theorem values1_in (F : Fence) (n : Nat) (h7 : F.fn 66) (hro : F.round = none) (hn : 1 ≤ n) (l Bs n₀ b off len cap : Nat) (zs : List (List UInt8)) (hreach : len * 16 ≤ 140737488351232) (hb : b < n₀) (J Jx : List (List UInt8) → World → Prop)
    (hY : ∀ pre x W, J pre W → pre.length < len → YieldAt F (n - 1) Tryd.prog l #[encStr x] W fun e W' =>
      (e = .returned (.bool true) ∧ J (pre ++ [x]) W' ∧ Below n₀ W W') ∨ (e = .returned (.bool false) ∧ Jx (pre ++ [x]) W'))
    (W : World) (hBs : W.cell? ⟨Bs, 0, none⟩ = some (.slice (some ⟨b, off, none⟩) len cap)) (hc : ∀ j, j < len → W.cell? ⟨b, off + j, none⟩ = some (encStr (zs[j]?.getD []))) (h0 : J [] W) :
    CallsIn F n Tryd.prog 66 #[.func (.yield l) #[] #[], .pointer (some ⟨Bs, 0, none⟩)] W fun e W' => (∃ v, e = .returned v) ∧
      ((∃ ys, ys = upto (fun j => zs[j]?.getD []) len ∧ J ys W') ∨ (∃ pre, (∃ k, k ≤ len ∧ pre = upto (fun j => zs[j]?.getD []) k) ∧ Jx pre W')) := by
  refine callsIn_of_wp Tryd.func66 rfl h7 ?_ hro
  simp only [Tryd.ntmps66, List.size_toArray, List.length_cons, List.length_nil, Nat.reduceAdd, Nat.reduceSub, Array.replicate_succ, Array.replicate_zero, List.push_toArray, List.append_toArray, List.nil_append, List.cons_append]
  gi_wp2
  gi_loopw [7] (fun i wr => ∃ k : Nat, k ≤ len ∧ i = .int .i64 k ∧ J (upto (fun j => zs[j]?.getD []) k) wr ∧ Below n₀ W wr)
    (fun i _ => len - (intOf i).toNat)
  case atStart => exact ⟨0, Nat.zero_le _, rfl, h0, Below.refl _ _⟩
  case round =>
    obtain ⟨k, hk, rfl, hJs, hnx⟩ := hrel
    have hcx : k < len → wr.cell? ⟨b, off + k, none⟩ = some (encStr (zs[k]?.getD [])) := fun h => (hnx.cell (p := ⟨b, off + k, none⟩) hb).trans (hc k h)
    by_cases hlt : k < len
    · obtain ⟨fn, tmps, assign, body, hy, hR⟩ := hY _ (zs[k]?.getD []) wr hJs (by rw [upto_length]; exact hlt)
      have hcx' := hcx hlt
      gi_wp2
      refine hR.mono ?_
      rintro e W3 (⟨rfl, hJ3, hk3⟩ | ⟨rfl, hJx3⟩)
      · gi_wp2
        go_roundw
        case rel => exact ⟨k + 1, by omega, by simp, by rw [upto_succ]; exact hJ3, hnx.trans hk3⟩
        case measure => simp [intOf]; omega
      · gi_wp2
        refine bodyPost_ret (results_none rfl _ _ _) rfl ?_
        exact ⟨⟨_, rfl⟩, .inr ⟨_, ⟨k + 1, by omega, (upto_succ _ _).symm⟩, hJx3⟩⟩
    · obtain rfl : k = len := by omega
      gi_wp2
      go_end0
      exact ⟨⟨_, rfl⟩, .inl ⟨_, rfl, hJs⟩⟩
/-- The slice value 'sv' holds the texts 'zs', in a block below 'n₀'; or there are none. -/
def Strs (n₀ : Nat) (W : World) (sv : Value) (zs : List (List UInt8)) : Prop :=
  (zs = [] ∧ ∃ a c, sv = .slice a 0 c) ∨ ∃ b off cap, sv = .slice (some ⟨b, off, none⟩) zs.length cap ∧ b < n₀ ∧ ∀ j, j < zs.length → W.cell? ⟨b, off + j, none⟩ = some (encStr (zs[j]?.getD []))
theorem Strs.below {n₀ : Nat} {A B : World} (h : Below n₀ A B) {sv : Value} {zs : List (List UInt8)} : Strs n₀ A sv zs → Strs n₀ B sv zs
  | .inl e => .inl e
  | .inr ⟨b, off, cap, e, hb, hc⟩ => .inr ⟨b, off, cap, e, hb, fun j hj => (h.cell (p := ⟨b, off + j, none⟩) hb).trans (hc j hj)⟩
set_option maxRecDepth 100000 in
set_option maxHeartbeats 1000000 in
theorem values1_nil_in (F : Fence) (n : Nat) (h7 : F.fn 66) (hro : F.round = none) (l Bs : Nat) (a : Option Addr) (c : Nat) (J : List (List UInt8) → World → Prop) (W : World) (hBs : W.cell? ⟨Bs, 0, none⟩ = some (.slice a 0 c)) (h0 : J [] W) :
    CallsIn F n Tryd.prog 66 #[.func (.yield l) #[] #[], .pointer (some ⟨Bs, 0, none⟩)] W fun e W' => (∃ v, e = .returned v) ∧ J [] W' := by
  refine callsIn_of_wp Tryd.func66 rfl h7 ?_ hro
  simp only [Tryd.ntmps66, List.size_toArray, List.length_cons, List.length_nil, Nat.reduceAdd, Nat.reduceSub, Array.replicate_succ, Array.replicate_zero, List.push_toArray, List.append_toArray, List.nil_append, List.cons_append]
  gi_wp2
  gi_loopw [7] (fun i wr => i = .int .i64 0 ∧ J [] wr) (fun _ _ => 0)
  case atStart => exact ⟨rfl, h0⟩
  case round =>
    obtain ⟨rfl, hJs⟩ := hrel
    gi_wp2
    go_end0
    exact ⟨⟨_, rfl⟩, hJs⟩
theorem values_stops (F : Fence) (n : Nat) (h7 : F.fn 66) (hro : F.round = none) (hn : 1 ≤ n) (Bs n₀ : Nat) (sv : Value) (zs : List (List UInt8)) (hreach : zs.length * 16 ≤ 140737488351232) (w : World) (hBs : Bs < w.heap.size) (hn₀ : n₀ ≤ w.heap.size)
    (hc : w.cell? ⟨Bs, 0, none⟩ = some sv) (hI : Strs n₀ w sv zs) :
    SeqStopsK F n Tryd.prog 66 #[.pointer (some ⟨Bs, 0, none⟩)] (fun x : List UInt8 => #[encStr x]) (Below n₀) (fun ys => ys = zs) (fun pre => pre <+: zs) zs.length w := fun l J Jx W hW _ _ hY h0 => by
  have hc' := (hW.cell (p := ⟨Bs, 0, none⟩) hBs).trans hc
  rcases hI.below (hW.mono hn₀) with ⟨rfl, a, c, rfl⟩ | ⟨b, off, cap, rfl, hb, hcs⟩
  · exact (values1_nil_in F n h7 hro l Bs a c J W hc' h0).mono fun e W' ⟨he, hj⟩ => ⟨he, .inl ⟨_, rfl, hj⟩⟩
  · refine (values1_in F n h7 hro hn l Bs n₀ b off zs.length cap zs hreach hb J Jx hY W hc' hcs h0).mono ?_
    rintro e W' ⟨he, ⟨ys, rfl, hj⟩ | ⟨pre, ⟨k, hk, rfl⟩, hj⟩⟩
    · exact ⟨he, .inl ⟨_, upto_all zs, hj⟩⟩
    · exact ⟨he, .inr ⟨_, by rw [upto_take zs hk]; exact List.take_prefix _ _, hj⟩⟩
theorem strInfo : (Tryd.prog.info? 9).map (fun i => (i.zero, i.size, i.bytes)) = some (some (.string .empty), 1, 16) := by kernel_rfl
set_option maxRecDepth 100000 in
set_option maxHeartbeats 2000000 in
theorem appendSeq_in (F : Fence) (n : Nat) (h3 : F.fn 77) (h5 : F.fn 66) (hro : F.round = none) (hn : 3 ≤ n) (Bs : Nat) (sv : Value) (zs : List (List UInt8)) (hlen : zs.length ≤ maxLen) (hbytes : zs.length * 16 ≤ 140737488351232) (w : World)
    (hBs : Bs < w.heap.size) (hc0 : w.cell? ⟨Bs, 0, none⟩ = some sv) (hI : Strs w.heap.size w sv zs) :
    CallsIn F n Tryd.prog 77 #[.slice none 0 0, .func (.func 66) #[] #[.pointer (some ⟨Bs, 0, none⟩)]] w fun e W' => ∃ v, e = .returned v ∧ W'.ownsRow w.heap.size 9 1 v zs.length (zs.map encStr) ∧ Below w.heap.size w W' := by
  have h1 : 1 ≤ n := by omega
  obtain ⟨i0, hi, hz0, hz1, hz2⟩ := info_parts strInfo
  refine callsIn_of_wp_marks Tryd.func77 rfl h3 ?_ hro
  simp only [Tryd.ntmps77, List.size_toArray, List.length_cons, List.length_nil, Nat.reduceAdd, Nat.reduceSub, Array.replicate_succ, Array.replicate_zero, List.push_toArray, List.append_toArray, List.nil_append, List.cons_append]
  gi_wp2
  have bO := Boxed.new w 25 (.slice none 0 0)
  have hB0 : Below w.heap.size w (w.alloc (.cells #[.slice none 0 0] 25)) := (Below.refl _ w).alloc (Nat.le_refl _) _
  refine wpIn_rangeFunc_ownG hro h1 (gf := 66) (lb := #[.pointer (some ⟨Bs, 0, none⟩)]) rfl h5 (enters_of Tryd.func66 (by kernel_rfl) rfl)
    (values_stops F (n - 1) h5 hro (by omega) Bs w.heap.size sv zs hbytes _ (by simp; omega) (by simp) ((hB0.cell (p := ⟨Bs, 0, none⟩) hBs).trans hc0) (hI.below hB0)) belowK_t (belowK_b (by simp)) (Below.refl _ _) (fun _ => rfl)
    (fun pre W => (∃ v, Boxed W w.heap.size 25 v ∧ W.ownsRow w.heap.size 9 1 v pre.length (pre.map encStr) ∧ True) ∧ Below w.heap.size w W)
    (fun _ _ _ => False)
    (OwnFrom.and (Own.from (holdsRow_own w.heap.size w.heap.size 25 9 1 (fun pre : List (List UInt8) => pre.length) (fun pre => pre.map encStr) (fun _ _ => True)) _) (ownFrom_below (Nat.le_refl _) (by simp)))
    (fun _ _ _ _ _ hs _ _ => hs)
    ⟨⟨_, bO, World.ownsRow_nil _ _ _ _, trivial⟩, hB0⟩
    (fun x => { tmps := #[.slice none 0 0, .func (.func 66) #[] #[.pointer (some ⟨Bs, 0, none⟩)], .pointer (some ⟨w.heap.size, 0, none⟩), undef, .slice none 0 0, encStr x, .func (.func 66) #[] #[.pointer (some ⟨Bs, 0, none⟩)], encStr x, undef, undef, undef, undef, undef], defers := [] }) ?assign ?body ?done ?stop
  case assign =>
    intro l x W K hK
    gi_wp2
    exact hK
  case body =>
    rintro l pre x W ⟨⟨v, hv, hrow, _⟩, hB⟩ hlt
    have hc := hv.cell
    gi_wp2_with (gi_at_builtin; refine wpListIn_append_own _ rfl _ _ 25 rfl w.heap.size 9 i0 (.string .empty) 1 16 Tryd.underlying25 hi hz0 hz1 hz2 rfl (by decide) _ _ _ rfl (hrow.alloc _) ⟨W.heap.size, 0, none⟩ 1 1 [encStr x] rfl rfl (cell_one_new _ _ _) (by simp [Value.oneCell']) (by omega) (by omega) (by have := hB.size; simp; omega) ?_; intro v' w1 hown' hgrow _; obtain ⟨g', cap', rfl⟩ := ownsRow_succ hown'; obtain ⟨hv1, hv2, hr2, hk2, hb2⟩ := hv.appended (by decide) hrow hB.size (Nat.le_refl _) hown' hgrow; have hc1 := hv1.cell; have hf1 := hv1.frozen)
    exact ⟨hk2.from _, hb2, ⟨_, hv2, by simpa using hr2, trivial⟩, hB.trans hb2⟩
  case done =>
    rintro D ys W hD rfl ⟨⟨v, hv, hrow, _⟩, hB⟩ hK
    have hc := hv.cell
    gi_wp2
    refine ⟨by simp, .inl ⟨_, _, rfl, run_takeDeferred hK, ?_⟩⟩
    exact ⟨_, results_tmp rfl _ _ _, v, rfl, ownsRow_putObj hrow _ hK rfl, hB.trans (belowK_b (w := w) (Nat.le_refl _) W D _ _ (by simp at hD; omega) hK rfl rfl)⟩
  case stop =>
    rintro D c pre W _ _ h _
    exact h.elim
set_option maxRecDepth 100000 in
set_option maxHeartbeats 2000000 in
theorem collect_in (F : Fence) (n : Nat) (h2 : F.fn 64) (h3 : F.fn 77) (h5 : F.fn 66) (hro : F.round = none) (hn : 4 ≤ n) (Bs : Nat) (sv : Value) (zs : List (List UInt8)) (hlen : zs.length ≤ maxLen) (hbytes : zs.length * 16 ≤ 140737488351232) (w : World)
    (hBs : Bs < w.heap.size) (hc0 : w.cell? ⟨Bs, 0, none⟩ = some sv) (hI : Strs w.heap.size w sv zs) :
    CallsIn F n Tryd.prog 64 #[.func (.func 66) #[] #[.pointer (some ⟨Bs, 0, none⟩)]] w fun e W' => ∃ v, e = .returned v ∧ W'.ownsRow w.heap.size 9 1 v zs.length (zs.map encStr) ∧ Below w.heap.size w W' := by
  have h1 : 1 ≤ n := by omega
  refine callsIn_of_wp Tryd.func64 rfl h2 ?_ hro
  simp only [Tryd.ntmps64, List.size_toArray, List.length_cons, List.length_nil, Nat.reduceAdd, Nat.reduceSub, Array.replicate_succ, Array.replicate_zero, List.push_toArray, List.append_toArray, List.nil_append, List.cons_append]
  gi_wp2_with (gi_at_call 77; refine (appendSeq_in F (n - 1) h3 h5 hro (by omega) Bs sv zs hlen hbytes _ hBs hc0 hI).mono ?_; rintro e W ⟨v, rfl, hrow, hb⟩)
  go_ret
  exact ⟨v, rfl, hrow, hb⟩
theorem collect_calls (Bs : Nat) (sv : Value) (zs : List (List UInt8)) (hlen : zs.length ≤ maxLen) (hbytes : zs.length * 16 ≤ 140737488351232) (w : World) (hBs : Bs < w.heap.size) (hc0 : w.cell? ⟨Bs, 0, none⟩ = some sv) (hI : Strs w.heap.size w sv zs) :
    Calls Tryd.prog 64 #[.func (.func 66) #[] #[.pointer (some ⟨Bs, 0, none⟩)]] w fun e W' => ∃ v, e = .returned v ∧ W'.ownsRow w.heap.size 9 1 v zs.length (zs.map encStr) ∧ Below w.heap.size w W' :=
  (callsIn_wide (n := 4)).1 (collect_in _ 4 trivial trivial trivial rfl (Nat.le_refl _) Bs sv zs hlen hbytes w hBs hc0 hI)
end Go.Proofs.YtgoepemmcibdaaaDoor
/-
  OUR OWN LAYER: the table of the types of this translation, by program (gentab.py).
-/
namespace Go.Proofs.YtgoepemmcibdaaaDoor
open Sy
def tbl : List (Option TI) := [
  none,
  some ⟨.fn, 1, 8, .p .nilf, true⟩,
  some ⟨.int .i64, 1, 8, .p (.int .i64 0), true⟩,
  some ⟨.int .i64, 1, 8, .p (.int .i64 0), true⟩,
  some ⟨.bool, 1, 1, .p (.bool false), true⟩,
  some ⟨.int .u8, 1, 1, .p (.int .u8 0), true⟩,
  none,
  none,
  none,
  some ⟨.str, 1, 16, .p (.str []), true⟩,
  none,
  none,
  some ⟨.int .u64, 1, 8, .p (.int .u64 0), true⟩,
  none,
  none,
  none,
  none,
  none,
  none,
  none,
  none,
  some ⟨.int .i32, 1, 4, .p (.int .i32 0), true⟩,
  some ⟨.sl 43, 1, 24, .nilsl, true⟩,
  some ⟨.st [(0, 4), (1, 9), (2, 3)], 3, 32, .agg [.p (.bool false), .p (.str []), .p (.int .i64 0)], true⟩,
  some ⟨.st [(0, 4), (1, 9), (2, 3)], 3, 32, .agg [.p (.bool false), .p (.str []), .p (.int .i64 0)], true⟩,
  some ⟨.sl 9, 1, 24, .nilsl, true⟩,
  some ⟨.st [(0, 3), (1, 3), (2, 24), (5, 9), (6, 25)], 7, 88, .agg [.p (.int .i64 0), .p (.int .i64 0), .p (.bool false), .p (.str []), .p (.int .i64 0), .p (.str []), .nilsl], true⟩,
  some ⟨.st [(0, 3), (1, 3), (2, 24), (5, 9), (6, 25)], 7, 88, .agg [.p (.int .i64 0), .p (.int .i64 0), .p (.bool false), .p (.str []), .p (.int .i64 0), .p (.str []), .nilsl], true⟩,
  some ⟨.fn, 1, 8, .p .nilf, true⟩,
  some ⟨.int .u64, 1, 8, .p (.int .u64 0), true⟩,
  some ⟨.sl 33, 1, 24, .nilsl, true⟩,
  some ⟨.int .i64, 1, 8, .p (.int .i64 0), true⟩,
  some ⟨.st [(0, 3), (1, 29), (2, 24), (5, 9), (6, 25), (7, 30), (8, 31)], 9, 120, .agg [.p (.int .i64 0), .p (.int .u64 0), .p (.bool false), .p (.str []), .p (.int .i64 0), .p (.str []), .nilsl, .nilsl, .p (.int .i64 0)], true⟩,
  some ⟨.st [(0, 3), (1, 29), (2, 24), (5, 9), (6, 25), (7, 30), (8, 31)], 9, 120, .agg [.p (.int .i64 0), .p (.int .u64 0), .p (.bool false), .p (.str []), .p (.int .i64 0), .p (.str []), .nilsl, .nilsl, .p (.int .i64 0)], true⟩,
  some ⟨.fn, 1, 8, .p .nilf, true⟩,
  some ⟨.fn, 1, 8, .p .nilf, true⟩,
  some ⟨.fn, 1, 8, .p .nilf, true⟩,
  some ⟨.fn, 1, 8, .p .nilf, true⟩,
  some ⟨.fn, 1, 8, .p .nilf, true⟩,
  some ⟨.fn, 1, 8, .p .nilf, true⟩,
  some ⟨.fn, 1, 8, .p .nilf, true⟩,
  some ⟨.fn, 1, 8, .p .nilf, true⟩,
  some ⟨.st [(0, 3), (1, 3), (2, 29), (3, 9), (4, 9), (5, 25)], 6, 80, .agg [.p (.int .i64 0), .p (.int .i64 0), .p (.int .u64 0), .p (.str []), .p (.str []), .nilsl], true⟩,
  some ⟨.st [(0, 3), (1, 3), (2, 29), (3, 9), (4, 9), (5, 25)], 6, 80, .agg [.p (.int .i64 0), .p (.int .i64 0), .p (.int .u64 0), .p (.str []), .p (.str []), .nilsl], true⟩,
  none,
  some ⟨.fn, 1, 8, .p .nilf, true⟩,
  some ⟨.fn, 1, 8, .p .nilf, true⟩,
  some ⟨.fn, 1, 8, .p .nilf, true⟩,
  some ⟨.fn, 1, 8, .p .nilf, true⟩,
  some ⟨.fn, 1, 8, .p .nilf, true⟩,
  some ⟨.fn, 1, 8, .p .nilf, true⟩,
  some ⟨.fn, 1, 8, .p .nilf, true⟩,
  some ⟨.fn, 1, 8, .p .nilf, true⟩,
  some ⟨.fn, 1, 8, .p .nilf, true⟩,
  some ⟨.fn, 1, 8, .p .nilf, true⟩,
  some ⟨.fn, 1, 8, .p .nilf, true⟩,
  some ⟨.fn, 1, 8, .p .nilf, true⟩,
  none,
  some ⟨.fn, 1, 8, .p .nilf, true⟩,
  some ⟨.fn, 1, 8, .p .nilf, true⟩,
  some ⟨.fn, 1, 8, .p .nilf, true⟩,
  some ⟨.fn, 1, 8, .p .nilf, true⟩,
  some ⟨.fn, 1, 8, .p .nilf, true⟩,
  some ⟨.fn, 1, 8, .p .nilf, true⟩,
  some ⟨.ptr 33, 1, 8, .p .nilp, true⟩,
  some ⟨.fn, 1, 8, .p .nilf, true⟩,
  some ⟨.fn, 1, 8, .p .nilf, true⟩,
  some ⟨.fn, 1, 8, .p .nilf, true⟩,
  some ⟨.fn, 1, 8, .p .nilf, true⟩,
  some ⟨.fn, 1, 8, .p .nilf, true⟩,
  some ⟨.fn, 1, 8, .p .nilf, true⟩,
  some ⟨.fn, 1, 8, .p .nilf, true⟩,
  some ⟨.sl 29, 1, 24, .nilsl, true⟩,
  some ⟨.sl 29, 1, 24, .nilsl, true⟩,
  none,
  some ⟨.fn, 1, 8, .p .nilf, true⟩,
  some ⟨.fn, 1, 8, .p .nilf, true⟩,
  some ⟨.fn, 1, 8, .p .nilf, true⟩,
  some ⟨.fn, 1, 8, .p .nilf, true⟩,
  some ⟨.fn, 1, 8, .p .nilf, true⟩,
  some ⟨.fn, 1, 8, .p .nilf, true⟩,
  some ⟨.fn, 1, 8, .p .nilf, true⟩,
  some ⟨.fn, 1, 8, .p .nilf, true⟩,
  some ⟨.sl 3, 1, 24, .nilsl, true⟩,
  some ⟨.fn, 1, 8, .p .nilf, true⟩,
  some ⟨.fn, 1, 8, .p .nilf, true⟩,
  none,
  some ⟨.fn, 1, 8, .p .nilf, true⟩,
  some ⟨.fn, 1, 8, .p .nilf, true⟩,
  some ⟨.fn, 1, 8, .p .nilf, true⟩,
  some ⟨.map 9 4, 1, 8, .dead, true⟩,
  some ⟨.fn, 1, 8, .p .nilf, true⟩,
  some ⟨.fn, 1, 8, .p .nilf, true⟩,
  some ⟨.fn, 1, 8, .p .nilf, true⟩,
  some ⟨.fn, 1, 8, .p .nilf, true⟩,
  some ⟨.fn, 1, 8, .p .nilf, true⟩,
  some ⟨.sl 5, 1, 24, .nilsl, true⟩,
  some ⟨.fn, 1, 8, .p .nilf, true⟩,
  some ⟨.int .u64, 1, 8, .p (.int .u64 0), true⟩,
  none,
  some ⟨.fn, 1, 8, .p .nilf, true⟩,
  some ⟨.fn, 1, 8, .p .nilf, true⟩,
  some ⟨.ptr 104, 1, 8, .p .nilp, true⟩,
  some ⟨.st [(0, 102), (1, 96)], 2, 32, .agg [.p .nilp, .nilsl], true⟩,
  some ⟨.st [(0, 102), (1, 96)], 2, 32, .agg [.p .nilp, .nilsl], true⟩,
  some ⟨.fn, 1, 8, .p .nilf, true⟩,
  none,
  none,
  none,
  some ⟨.fn, 1, 8, .p .nilf, true⟩,
  some ⟨.fn, 1, 8, .p .nilf, true⟩,
  some ⟨.fn, 1, 8, .p .nilf, true⟩,
  some ⟨.fn, 1, 8, .p .nilf, true⟩,
  some ⟨.fn, 1, 8, .p .nilf, true⟩,
  some ⟨.fn, 1, 8, .p .nilf, true⟩,
  some ⟨.fn, 1, 8, .p .nilf, true⟩,
  some ⟨.fn, 1, 8, .p .nilf, true⟩,
  some ⟨.ar 256 5, 256, 256, .agg (pcells (reps 256 (.int .u8 0))), true⟩,
  some ⟨.st [(0, 5), (1, 5)], 2, 2, .agg [.p (.int .u8 0), .p (.int .u8 0)], true⟩,
  some ⟨.st [(0, 5), (1, 5)], 2, 2, .agg [.p (.int .u8 0), .p (.int .u8 0)], true⟩,
  some ⟨.ar 16 119, 32, 32, .agg (pcells (reps 32 (.int .u8 0))), true⟩,
  some ⟨.int .u32, 1, 4, .p (.int .u32 0), true⟩,
  none,
  some ⟨.fn, 1, 8, .p .nilf, true⟩,
  none,
  some ⟨.fn, 1, 8, .p .nilf, true⟩,
  some ⟨.ptr 5, 1, 8, .p .nilp, true⟩,
  some ⟨.fn, 1, 8, .p .nilf, true⟩,
  some ⟨.int .i64, 1, 8, .p (.int .i64 0), true⟩,
  none,
  some ⟨.fn, 1, 8, .p .nilf, true⟩,
  some ⟨.fn, 1, 8, .p .nilf, true⟩,
  some ⟨.fn, 1, 8, .p .nilf, true⟩,
  none,
  some ⟨.fn, 1, 8, .p .nilf, true⟩,
  some ⟨.fn, 1, 8, .p .nilf, true⟩,
  some ⟨.fn, 1, 8, .p .nilf, true⟩,
  none,
  some ⟨.fn, 1, 8, .p .nilf, true⟩,
  some ⟨.fn, 1, 8, .p .nilf, true⟩,
  some ⟨.int .u64, 1, 8, .p (.int .u64 0), true⟩,
  some ⟨.fn, 1, 8, .p .nilf, true⟩,
  some ⟨.fn, 1, 8, .p .nilf, true⟩,
  some ⟨.fn, 1, 8, .p .nilf, true⟩,
  some ⟨.ptr 3, 1, 8, .p .nilp, true⟩,
  some ⟨.fn, 1, 8, .p .nilf, true⟩,
  some ⟨.ptr 140, 1, 8, .p .nilp, true⟩,
  some ⟨.fn, 1, 8, .p .nilf, true⟩,
  none,
  none,
  none,
  none,
  none,
  none,
  none,
  some ⟨.fn, 1, 8, .p .nilf, true⟩,
  none,
  none,
  none,
  none]
def T : Tab := fun t => (tbl[t]?).getD none
def tblOK (P : Program) : Nat → List (Option TI) → Prop
  | _, [] => True
  | k, none :: r => tblOK P (k + 1) r
  | k, some ti :: r => tinfo P k = some ti ∧ tblOK P (k + 1) r
theorem tblOK_get {P : Program} : ∀ {l : List (Option TI)} {k : Nat}, tblOK P k l → ∀ {i : Nat} {ti : TI}, l[i]? = some (some ti) → tinfo P (k + i) = some ti
  | [], _, _, i, ti, h => by simp at h
  | none :: r, k, hk, i, ti, h => by
    cases i with
    | zero => simp at h
    | succ i => have := tblOK_get (l := r) (k := k + 1) hk (i := i) (ti := ti) (by simpa using h); rw [← this, show k + (i + 1) = k + 1 + i from by omega]
  | some t0 :: r, k, hk, i, ti, h => by
    cases i with
    | zero => simp at h; subst h; exact hk.1
    | succ i => have := tblOK_get (l := r) (k := k + 1) hk.2 (i := i) (ti := ti) (by simpa using h); rw [← this, show k + (i + 1) = k + 1 + i from by omega]

theorem ti1 : tinfo Tryd.prog 1 = some ⟨.fn, 1, 8, .p .nilf, true⟩ := by kernel_rfl
theorem ti2 : tinfo Tryd.prog 2 = some ⟨.int .i64, 1, 8, .p (.int .i64 0), true⟩ := by kernel_rfl
theorem ti3 : tinfo Tryd.prog 3 = some ⟨.int .i64, 1, 8, .p (.int .i64 0), true⟩ := by kernel_rfl
theorem ti4 : tinfo Tryd.prog 4 = some ⟨.bool, 1, 1, .p (.bool false), true⟩ := by kernel_rfl
theorem ti5 : tinfo Tryd.prog 5 = some ⟨.int .u8, 1, 1, .p (.int .u8 0), true⟩ := by kernel_rfl
theorem ti9 : tinfo Tryd.prog 9 = some ⟨.str, 1, 16, .p (.str []), true⟩ := by kernel_rfl
theorem ti12 : tinfo Tryd.prog 12 = some ⟨.int .u64, 1, 8, .p (.int .u64 0), true⟩ := by kernel_rfl
theorem ti21 : tinfo Tryd.prog 21 = some ⟨.int .i32, 1, 4, .p (.int .i32 0), true⟩ := by kernel_rfl
theorem ti22 : tinfo Tryd.prog 22 = some ⟨.sl 43, 1, 24, .nilsl, true⟩ := by kernel_rfl
theorem ti23 : tinfo Tryd.prog 23 = some ⟨.st [(0, 4), (1, 9), (2, 3)], 3, 32, .agg [.p (.bool false), .p (.str []), .p (.int .i64 0)], true⟩ := by kernel_rfl
theorem ti24 : tinfo Tryd.prog 24 = some ⟨.st [(0, 4), (1, 9), (2, 3)], 3, 32, .agg [.p (.bool false), .p (.str []), .p (.int .i64 0)], true⟩ := by kernel_rfl
theorem ti25 : tinfo Tryd.prog 25 = some ⟨.sl 9, 1, 24, .nilsl, true⟩ := by kernel_rfl
theorem ti26 : tinfo Tryd.prog 26 = some ⟨.st [(0, 3), (1, 3), (2, 24), (5, 9), (6, 25)], 7, 88, .agg [.p (.int .i64 0), .p (.int .i64 0), .p (.bool false), .p (.str []), .p (.int .i64 0), .p (.str []), .nilsl], true⟩ := by kernel_rfl
theorem ti27 : tinfo Tryd.prog 27 = some ⟨.st [(0, 3), (1, 3), (2, 24), (5, 9), (6, 25)], 7, 88, .agg [.p (.int .i64 0), .p (.int .i64 0), .p (.bool false), .p (.str []), .p (.int .i64 0), .p (.str []), .nilsl], true⟩ := by kernel_rfl
theorem ti28 : tinfo Tryd.prog 28 = some ⟨.fn, 1, 8, .p .nilf, true⟩ := by kernel_rfl
theorem ti29 : tinfo Tryd.prog 29 = some ⟨.int .u64, 1, 8, .p (.int .u64 0), true⟩ := by kernel_rfl
theorem ti30 : tinfo Tryd.prog 30 = some ⟨.sl 33, 1, 24, .nilsl, true⟩ := by kernel_rfl
theorem ti31 : tinfo Tryd.prog 31 = some ⟨.int .i64, 1, 8, .p (.int .i64 0), true⟩ := by kernel_rfl
theorem ti32 : tinfo Tryd.prog 32 = some ⟨.st [(0, 3), (1, 29), (2, 24), (5, 9), (6, 25), (7, 30), (8, 31)], 9, 120, .agg [.p (.int .i64 0), .p (.int .u64 0), .p (.bool false), .p (.str []), .p (.int .i64 0), .p (.str []), .nilsl, .nilsl, .p (.int .i64 0)], true⟩ := by kernel_rfl
theorem ti33 : tinfo Tryd.prog 33 = some ⟨.st [(0, 3), (1, 29), (2, 24), (5, 9), (6, 25), (7, 30), (8, 31)], 9, 120, .agg [.p (.int .i64 0), .p (.int .u64 0), .p (.bool false), .p (.str []), .p (.int .i64 0), .p (.str []), .nilsl, .nilsl, .p (.int .i64 0)], true⟩ := by kernel_rfl
theorem ti34 : tinfo Tryd.prog 34 = some ⟨.fn, 1, 8, .p .nilf, true⟩ := by kernel_rfl
theorem ti35 : tinfo Tryd.prog 35 = some ⟨.fn, 1, 8, .p .nilf, true⟩ := by kernel_rfl
theorem ti36 : tinfo Tryd.prog 36 = some ⟨.fn, 1, 8, .p .nilf, true⟩ := by kernel_rfl
theorem ti37 : tinfo Tryd.prog 37 = some ⟨.fn, 1, 8, .p .nilf, true⟩ := by kernel_rfl
theorem ti38 : tinfo Tryd.prog 38 = some ⟨.fn, 1, 8, .p .nilf, true⟩ := by kernel_rfl
theorem ti39 : tinfo Tryd.prog 39 = some ⟨.fn, 1, 8, .p .nilf, true⟩ := by kernel_rfl
theorem ti40 : tinfo Tryd.prog 40 = some ⟨.fn, 1, 8, .p .nilf, true⟩ := by kernel_rfl
theorem ti41 : tinfo Tryd.prog 41 = some ⟨.fn, 1, 8, .p .nilf, true⟩ := by kernel_rfl
theorem ti42 : tinfo Tryd.prog 42 = some ⟨.st [(0, 3), (1, 3), (2, 29), (3, 9), (4, 9), (5, 25)], 6, 80, .agg [.p (.int .i64 0), .p (.int .i64 0), .p (.int .u64 0), .p (.str []), .p (.str []), .nilsl], true⟩ := by kernel_rfl
theorem ti43 : tinfo Tryd.prog 43 = some ⟨.st [(0, 3), (1, 3), (2, 29), (3, 9), (4, 9), (5, 25)], 6, 80, .agg [.p (.int .i64 0), .p (.int .i64 0), .p (.int .u64 0), .p (.str []), .p (.str []), .nilsl], true⟩ := by kernel_rfl
theorem ti45 : tinfo Tryd.prog 45 = some ⟨.fn, 1, 8, .p .nilf, true⟩ := by kernel_rfl
theorem ti46 : tinfo Tryd.prog 46 = some ⟨.fn, 1, 8, .p .nilf, true⟩ := by kernel_rfl
theorem ti47 : tinfo Tryd.prog 47 = some ⟨.fn, 1, 8, .p .nilf, true⟩ := by kernel_rfl
theorem ti48 : tinfo Tryd.prog 48 = some ⟨.fn, 1, 8, .p .nilf, true⟩ := by kernel_rfl
theorem ti49 : tinfo Tryd.prog 49 = some ⟨.fn, 1, 8, .p .nilf, true⟩ := by kernel_rfl
theorem ti50 : tinfo Tryd.prog 50 = some ⟨.fn, 1, 8, .p .nilf, true⟩ := by kernel_rfl
theorem ti51 : tinfo Tryd.prog 51 = some ⟨.fn, 1, 8, .p .nilf, true⟩ := by kernel_rfl
theorem ti52 : tinfo Tryd.prog 52 = some ⟨.fn, 1, 8, .p .nilf, true⟩ := by kernel_rfl
theorem ti53 : tinfo Tryd.prog 53 = some ⟨.fn, 1, 8, .p .nilf, true⟩ := by kernel_rfl
theorem ti54 : tinfo Tryd.prog 54 = some ⟨.fn, 1, 8, .p .nilf, true⟩ := by kernel_rfl
theorem ti55 : tinfo Tryd.prog 55 = some ⟨.fn, 1, 8, .p .nilf, true⟩ := by kernel_rfl
theorem ti56 : tinfo Tryd.prog 56 = some ⟨.fn, 1, 8, .p .nilf, true⟩ := by kernel_rfl
theorem ti58 : tinfo Tryd.prog 58 = some ⟨.fn, 1, 8, .p .nilf, true⟩ := by kernel_rfl
theorem ti59 : tinfo Tryd.prog 59 = some ⟨.fn, 1, 8, .p .nilf, true⟩ := by kernel_rfl
theorem ti60 : tinfo Tryd.prog 60 = some ⟨.fn, 1, 8, .p .nilf, true⟩ := by kernel_rfl
theorem ti61 : tinfo Tryd.prog 61 = some ⟨.fn, 1, 8, .p .nilf, true⟩ := by kernel_rfl
theorem ti62 : tinfo Tryd.prog 62 = some ⟨.fn, 1, 8, .p .nilf, true⟩ := by kernel_rfl
theorem ti63 : tinfo Tryd.prog 63 = some ⟨.fn, 1, 8, .p .nilf, true⟩ := by kernel_rfl
theorem ti64 : tinfo Tryd.prog 64 = some ⟨.ptr 33, 1, 8, .p .nilp, true⟩ := by kernel_rfl
theorem ti65 : tinfo Tryd.prog 65 = some ⟨.fn, 1, 8, .p .nilf, true⟩ := by kernel_rfl
theorem ti66 : tinfo Tryd.prog 66 = some ⟨.fn, 1, 8, .p .nilf, true⟩ := by kernel_rfl
theorem ti67 : tinfo Tryd.prog 67 = some ⟨.fn, 1, 8, .p .nilf, true⟩ := by kernel_rfl
theorem ti68 : tinfo Tryd.prog 68 = some ⟨.fn, 1, 8, .p .nilf, true⟩ := by kernel_rfl
theorem ti69 : tinfo Tryd.prog 69 = some ⟨.fn, 1, 8, .p .nilf, true⟩ := by kernel_rfl
theorem ti70 : tinfo Tryd.prog 70 = some ⟨.fn, 1, 8, .p .nilf, true⟩ := by kernel_rfl
theorem ti71 : tinfo Tryd.prog 71 = some ⟨.fn, 1, 8, .p .nilf, true⟩ := by kernel_rfl
theorem ti72 : tinfo Tryd.prog 72 = some ⟨.sl 29, 1, 24, .nilsl, true⟩ := by kernel_rfl
theorem ti73 : tinfo Tryd.prog 73 = some ⟨.sl 29, 1, 24, .nilsl, true⟩ := by kernel_rfl
theorem ti75 : tinfo Tryd.prog 75 = some ⟨.fn, 1, 8, .p .nilf, true⟩ := by kernel_rfl
theorem ti76 : tinfo Tryd.prog 76 = some ⟨.fn, 1, 8, .p .nilf, true⟩ := by kernel_rfl
theorem ti77 : tinfo Tryd.prog 77 = some ⟨.fn, 1, 8, .p .nilf, true⟩ := by kernel_rfl
theorem ti78 : tinfo Tryd.prog 78 = some ⟨.fn, 1, 8, .p .nilf, true⟩ := by kernel_rfl
theorem ti79 : tinfo Tryd.prog 79 = some ⟨.fn, 1, 8, .p .nilf, true⟩ := by kernel_rfl
theorem ti80 : tinfo Tryd.prog 80 = some ⟨.fn, 1, 8, .p .nilf, true⟩ := by kernel_rfl
theorem ti81 : tinfo Tryd.prog 81 = some ⟨.fn, 1, 8, .p .nilf, true⟩ := by kernel_rfl
theorem ti82 : tinfo Tryd.prog 82 = some ⟨.fn, 1, 8, .p .nilf, true⟩ := by kernel_rfl
theorem ti83 : tinfo Tryd.prog 83 = some ⟨.sl 3, 1, 24, .nilsl, true⟩ := by kernel_rfl
theorem ti84 : tinfo Tryd.prog 84 = some ⟨.fn, 1, 8, .p .nilf, true⟩ := by kernel_rfl
theorem ti85 : tinfo Tryd.prog 85 = some ⟨.fn, 1, 8, .p .nilf, true⟩ := by kernel_rfl
theorem ti87 : tinfo Tryd.prog 87 = some ⟨.fn, 1, 8, .p .nilf, true⟩ := by kernel_rfl
theorem ti88 : tinfo Tryd.prog 88 = some ⟨.fn, 1, 8, .p .nilf, true⟩ := by kernel_rfl
theorem ti89 : tinfo Tryd.prog 89 = some ⟨.fn, 1, 8, .p .nilf, true⟩ := by kernel_rfl
theorem ti90 : tinfo Tryd.prog 90 = some ⟨.map 9 4, 1, 8, .dead, true⟩ := by kernel_rfl
theorem ti91 : tinfo Tryd.prog 91 = some ⟨.fn, 1, 8, .p .nilf, true⟩ := by kernel_rfl
theorem ti92 : tinfo Tryd.prog 92 = some ⟨.fn, 1, 8, .p .nilf, true⟩ := by kernel_rfl
theorem ti93 : tinfo Tryd.prog 93 = some ⟨.fn, 1, 8, .p .nilf, true⟩ := by kernel_rfl
theorem ti94 : tinfo Tryd.prog 94 = some ⟨.fn, 1, 8, .p .nilf, true⟩ := by kernel_rfl
theorem ti95 : tinfo Tryd.prog 95 = some ⟨.fn, 1, 8, .p .nilf, true⟩ := by kernel_rfl
theorem ti96 : tinfo Tryd.prog 96 = some ⟨.sl 5, 1, 24, .nilsl, true⟩ := by kernel_rfl
theorem ti97 : tinfo Tryd.prog 97 = some ⟨.fn, 1, 8, .p .nilf, true⟩ := by kernel_rfl
theorem ti98 : tinfo Tryd.prog 98 = some ⟨.int .u64, 1, 8, .p (.int .u64 0), true⟩ := by kernel_rfl
theorem ti100 : tinfo Tryd.prog 100 = some ⟨.fn, 1, 8, .p .nilf, true⟩ := by kernel_rfl
theorem ti101 : tinfo Tryd.prog 101 = some ⟨.fn, 1, 8, .p .nilf, true⟩ := by kernel_rfl
theorem ti102 : tinfo Tryd.prog 102 = some ⟨.ptr 104, 1, 8, .p .nilp, true⟩ := by kernel_rfl
theorem ti103 : tinfo Tryd.prog 103 = some ⟨.st [(0, 102), (1, 96)], 2, 32, .agg [.p .nilp, .nilsl], true⟩ := by kernel_rfl
theorem ti104 : tinfo Tryd.prog 104 = some ⟨.st [(0, 102), (1, 96)], 2, 32, .agg [.p .nilp, .nilsl], true⟩ := by kernel_rfl
theorem ti105 : tinfo Tryd.prog 105 = some ⟨.fn, 1, 8, .p .nilf, true⟩ := by kernel_rfl
theorem ti109 : tinfo Tryd.prog 109 = some ⟨.fn, 1, 8, .p .nilf, true⟩ := by kernel_rfl
theorem ti110 : tinfo Tryd.prog 110 = some ⟨.fn, 1, 8, .p .nilf, true⟩ := by kernel_rfl
theorem ti111 : tinfo Tryd.prog 111 = some ⟨.fn, 1, 8, .p .nilf, true⟩ := by kernel_rfl
theorem ti112 : tinfo Tryd.prog 112 = some ⟨.fn, 1, 8, .p .nilf, true⟩ := by kernel_rfl
theorem ti113 : tinfo Tryd.prog 113 = some ⟨.fn, 1, 8, .p .nilf, true⟩ := by kernel_rfl
theorem ti114 : tinfo Tryd.prog 114 = some ⟨.fn, 1, 8, .p .nilf, true⟩ := by kernel_rfl
theorem ti115 : tinfo Tryd.prog 115 = some ⟨.fn, 1, 8, .p .nilf, true⟩ := by kernel_rfl
theorem ti116 : tinfo Tryd.prog 116 = some ⟨.fn, 1, 8, .p .nilf, true⟩ := by kernel_rfl
theorem ti117 : tinfo Tryd.prog 117 = some ⟨.ar 256 5, 256, 256, .agg (pcells (reps 256 (.int .u8 0))), true⟩ := by kernel_rfl
theorem ti118 : tinfo Tryd.prog 118 = some ⟨.st [(0, 5), (1, 5)], 2, 2, .agg [.p (.int .u8 0), .p (.int .u8 0)], true⟩ := by kernel_rfl
theorem ti119 : tinfo Tryd.prog 119 = some ⟨.st [(0, 5), (1, 5)], 2, 2, .agg [.p (.int .u8 0), .p (.int .u8 0)], true⟩ := by kernel_rfl
theorem ti120 : tinfo Tryd.prog 120 = some ⟨.ar 16 119, 32, 32, .agg (pcells (reps 32 (.int .u8 0))), true⟩ := by kernel_rfl
theorem ti121 : tinfo Tryd.prog 121 = some ⟨.int .u32, 1, 4, .p (.int .u32 0), true⟩ := by kernel_rfl
theorem ti123 : tinfo Tryd.prog 123 = some ⟨.fn, 1, 8, .p .nilf, true⟩ := by kernel_rfl
theorem ti125 : tinfo Tryd.prog 125 = some ⟨.fn, 1, 8, .p .nilf, true⟩ := by kernel_rfl
theorem ti126 : tinfo Tryd.prog 126 = some ⟨.ptr 5, 1, 8, .p .nilp, true⟩ := by kernel_rfl
theorem ti127 : tinfo Tryd.prog 127 = some ⟨.fn, 1, 8, .p .nilf, true⟩ := by kernel_rfl
theorem ti128 : tinfo Tryd.prog 128 = some ⟨.int .i64, 1, 8, .p (.int .i64 0), true⟩ := by kernel_rfl
theorem ti130 : tinfo Tryd.prog 130 = some ⟨.fn, 1, 8, .p .nilf, true⟩ := by kernel_rfl
theorem ti131 : tinfo Tryd.prog 131 = some ⟨.fn, 1, 8, .p .nilf, true⟩ := by kernel_rfl
theorem ti132 : tinfo Tryd.prog 132 = some ⟨.fn, 1, 8, .p .nilf, true⟩ := by kernel_rfl
theorem ti134 : tinfo Tryd.prog 134 = some ⟨.fn, 1, 8, .p .nilf, true⟩ := by kernel_rfl
theorem ti135 : tinfo Tryd.prog 135 = some ⟨.fn, 1, 8, .p .nilf, true⟩ := by kernel_rfl
theorem ti136 : tinfo Tryd.prog 136 = some ⟨.fn, 1, 8, .p .nilf, true⟩ := by kernel_rfl
theorem ti138 : tinfo Tryd.prog 138 = some ⟨.fn, 1, 8, .p .nilf, true⟩ := by kernel_rfl
theorem ti139 : tinfo Tryd.prog 139 = some ⟨.fn, 1, 8, .p .nilf, true⟩ := by kernel_rfl
theorem ti140 : tinfo Tryd.prog 140 = some ⟨.int .u64, 1, 8, .p (.int .u64 0), true⟩ := by kernel_rfl
theorem ti141 : tinfo Tryd.prog 141 = some ⟨.fn, 1, 8, .p .nilf, true⟩ := by kernel_rfl
theorem ti142 : tinfo Tryd.prog 142 = some ⟨.fn, 1, 8, .p .nilf, true⟩ := by kernel_rfl
theorem ti143 : tinfo Tryd.prog 143 = some ⟨.fn, 1, 8, .p .nilf, true⟩ := by kernel_rfl
theorem ti144 : tinfo Tryd.prog 144 = some ⟨.ptr 3, 1, 8, .p .nilp, true⟩ := by kernel_rfl
theorem ti145 : tinfo Tryd.prog 145 = some ⟨.fn, 1, 8, .p .nilf, true⟩ := by kernel_rfl
theorem ti146 : tinfo Tryd.prog 146 = some ⟨.ptr 140, 1, 8, .p .nilp, true⟩ := by kernel_rfl
theorem ti147 : tinfo Tryd.prog 147 = some ⟨.fn, 1, 8, .p .nilf, true⟩ := by kernel_rfl
theorem ti155 : tinfo Tryd.prog 155 = some ⟨.fn, 1, 8, .p .nilf, true⟩ := by kernel_rfl
@[simp] theorem T_0 : T 0 = none := rfl
@[simp] theorem T_1 : T 1 = some ⟨.fn, 1, 8, .p .nilf, true⟩ := rfl
@[simp] theorem T_2 : T 2 = some ⟨.int .i64, 1, 8, .p (.int .i64 0), true⟩ := rfl
@[simp] theorem T_3 : T 3 = some ⟨.int .i64, 1, 8, .p (.int .i64 0), true⟩ := rfl
@[simp] theorem T_4 : T 4 = some ⟨.bool, 1, 1, .p (.bool false), true⟩ := rfl
@[simp] theorem T_5 : T 5 = some ⟨.int .u8, 1, 1, .p (.int .u8 0), true⟩ := rfl
@[simp] theorem T_6 : T 6 = none := rfl
@[simp] theorem T_7 : T 7 = none := rfl
@[simp] theorem T_8 : T 8 = none := rfl
@[simp] theorem T_9 : T 9 = some ⟨.str, 1, 16, .p (.str []), true⟩ := rfl
@[simp] theorem T_10 : T 10 = none := rfl
@[simp] theorem T_11 : T 11 = none := rfl
@[simp] theorem T_12 : T 12 = some ⟨.int .u64, 1, 8, .p (.int .u64 0), true⟩ := rfl
@[simp] theorem T_13 : T 13 = none := rfl
@[simp] theorem T_14 : T 14 = none := rfl
@[simp] theorem T_15 : T 15 = none := rfl
@[simp] theorem T_16 : T 16 = none := rfl
@[simp] theorem T_17 : T 17 = none := rfl
@[simp] theorem T_18 : T 18 = none := rfl
@[simp] theorem T_19 : T 19 = none := rfl
@[simp] theorem T_20 : T 20 = none := rfl
@[simp] theorem T_21 : T 21 = some ⟨.int .i32, 1, 4, .p (.int .i32 0), true⟩ := rfl
@[simp] theorem T_22 : T 22 = some ⟨.sl 43, 1, 24, .nilsl, true⟩ := rfl
@[simp] theorem T_23 : T 23 = some ⟨.st [(0, 4), (1, 9), (2, 3)], 3, 32, .agg [.p (.bool false), .p (.str []), .p (.int .i64 0)], true⟩ := rfl
@[simp] theorem T_24 : T 24 = some ⟨.st [(0, 4), (1, 9), (2, 3)], 3, 32, .agg [.p (.bool false), .p (.str []), .p (.int .i64 0)], true⟩ := rfl
@[simp] theorem T_25 : T 25 = some ⟨.sl 9, 1, 24, .nilsl, true⟩ := rfl
@[simp] theorem T_26 : T 26 = some ⟨.st [(0, 3), (1, 3), (2, 24), (5, 9), (6, 25)], 7, 88, .agg [.p (.int .i64 0), .p (.int .i64 0), .p (.bool false), .p (.str []), .p (.int .i64 0), .p (.str []), .nilsl], true⟩ := rfl
@[simp] theorem T_27 : T 27 = some ⟨.st [(0, 3), (1, 3), (2, 24), (5, 9), (6, 25)], 7, 88, .agg [.p (.int .i64 0), .p (.int .i64 0), .p (.bool false), .p (.str []), .p (.int .i64 0), .p (.str []), .nilsl], true⟩ := rfl
@[simp] theorem T_28 : T 28 = some ⟨.fn, 1, 8, .p .nilf, true⟩ := rfl
@[simp] theorem T_29 : T 29 = some ⟨.int .u64, 1, 8, .p (.int .u64 0), true⟩ := rfl
@[simp] theorem T_30 : T 30 = some ⟨.sl 33, 1, 24, .nilsl, true⟩ := rfl
@[simp] theorem T_31 : T 31 = some ⟨.int .i64, 1, 8, .p (.int .i64 0), true⟩ := rfl
@[simp] theorem T_32 : T 32 = some ⟨.st [(0, 3), (1, 29), (2, 24), (5, 9), (6, 25), (7, 30), (8, 31)], 9, 120, .agg [.p (.int .i64 0), .p (.int .u64 0), .p (.bool false), .p (.str []), .p (.int .i64 0), .p (.str []), .nilsl, .nilsl, .p (.int .i64 0)], true⟩ := rfl
@[simp] theorem T_33 : T 33 = some ⟨.st [(0, 3), (1, 29), (2, 24), (5, 9), (6, 25), (7, 30), (8, 31)], 9, 120, .agg [.p (.int .i64 0), .p (.int .u64 0), .p (.bool false), .p (.str []), .p (.int .i64 0), .p (.str []), .nilsl, .nilsl, .p (.int .i64 0)], true⟩ := rfl
@[simp] theorem T_34 : T 34 = some ⟨.fn, 1, 8, .p .nilf, true⟩ := rfl
@[simp] theorem T_35 : T 35 = some ⟨.fn, 1, 8, .p .nilf, true⟩ := rfl
@[simp] theorem T_36 : T 36 = some ⟨.fn, 1, 8, .p .nilf, true⟩ := rfl
@[simp] theorem T_37 : T 37 = some ⟨.fn, 1, 8, .p .nilf, true⟩ := rfl
@[simp] theorem T_38 : T 38 = some ⟨.fn, 1, 8, .p .nilf, true⟩ := rfl
@[simp] theorem T_39 : T 39 = some ⟨.fn, 1, 8, .p .nilf, true⟩ := rfl
@[simp] theorem T_40 : T 40 = some ⟨.fn, 1, 8, .p .nilf, true⟩ := rfl
@[simp] theorem T_41 : T 41 = some ⟨.fn, 1, 8, .p .nilf, true⟩ := rfl
@[simp] theorem T_42 : T 42 = some ⟨.st [(0, 3), (1, 3), (2, 29), (3, 9), (4, 9), (5, 25)], 6, 80, .agg [.p (.int .i64 0), .p (.int .i64 0), .p (.int .u64 0), .p (.str []), .p (.str []), .nilsl], true⟩ := rfl
@[simp] theorem T_43 : T 43 = some ⟨.st [(0, 3), (1, 3), (2, 29), (3, 9), (4, 9), (5, 25)], 6, 80, .agg [.p (.int .i64 0), .p (.int .i64 0), .p (.int .u64 0), .p (.str []), .p (.str []), .nilsl], true⟩ := rfl
@[simp] theorem T_44 : T 44 = none := rfl
@[simp] theorem T_45 : T 45 = some ⟨.fn, 1, 8, .p .nilf, true⟩ := rfl
@[simp] theorem T_46 : T 46 = some ⟨.fn, 1, 8, .p .nilf, true⟩ := rfl
@[simp] theorem T_47 : T 47 = some ⟨.fn, 1, 8, .p .nilf, true⟩ := rfl
@[simp] theorem T_48 : T 48 = some ⟨.fn, 1, 8, .p .nilf, true⟩ := rfl
@[simp] theorem T_49 : T 49 = some ⟨.fn, 1, 8, .p .nilf, true⟩ := rfl
@[simp] theorem T_50 : T 50 = some ⟨.fn, 1, 8, .p .nilf, true⟩ := rfl
@[simp] theorem T_51 : T 51 = some ⟨.fn, 1, 8, .p .nilf, true⟩ := rfl
@[simp] theorem T_52 : T 52 = some ⟨.fn, 1, 8, .p .nilf, true⟩ := rfl
@[simp] theorem T_53 : T 53 = some ⟨.fn, 1, 8, .p .nilf, true⟩ := rfl
@[simp] theorem T_54 : T 54 = some ⟨.fn, 1, 8, .p .nilf, true⟩ := rfl
@[simp] theorem T_55 : T 55 = some ⟨.fn, 1, 8, .p .nilf, true⟩ := rfl
@[simp] theorem T_56 : T 56 = some ⟨.fn, 1, 8, .p .nilf, true⟩ := rfl
@[simp] theorem T_57 : T 57 = none := rfl
@[simp] theorem T_58 : T 58 = some ⟨.fn, 1, 8, .p .nilf, true⟩ := rfl
@[simp] theorem T_59 : T 59 = some ⟨.fn, 1, 8, .p .nilf, true⟩ := rfl
@[simp] theorem T_60 : T 60 = some ⟨.fn, 1, 8, .p .nilf, true⟩ := rfl
@[simp] theorem T_61 : T 61 = some ⟨.fn, 1, 8, .p .nilf, true⟩ := rfl
@[simp] theorem T_62 : T 62 = some ⟨.fn, 1, 8, .p .nilf, true⟩ := rfl
@[simp] theorem T_63 : T 63 = some ⟨.fn, 1, 8, .p .nilf, true⟩ := rfl
@[simp] theorem T_64 : T 64 = some ⟨.ptr 33, 1, 8, .p .nilp, true⟩ := rfl
@[simp] theorem T_65 : T 65 = some ⟨.fn, 1, 8, .p .nilf, true⟩ := rfl
@[simp] theorem T_66 : T 66 = some ⟨.fn, 1, 8, .p .nilf, true⟩ := rfl
@[simp] theorem T_67 : T 67 = some ⟨.fn, 1, 8, .p .nilf, true⟩ := rfl
@[simp] theorem T_68 : T 68 = some ⟨.fn, 1, 8, .p .nilf, true⟩ := rfl
@[simp] theorem T_69 : T 69 = some ⟨.fn, 1, 8, .p .nilf, true⟩ := rfl
@[simp] theorem T_70 : T 70 = some ⟨.fn, 1, 8, .p .nilf, true⟩ := rfl
@[simp] theorem T_71 : T 71 = some ⟨.fn, 1, 8, .p .nilf, true⟩ := rfl
@[simp] theorem T_72 : T 72 = some ⟨.sl 29, 1, 24, .nilsl, true⟩ := rfl
@[simp] theorem T_73 : T 73 = some ⟨.sl 29, 1, 24, .nilsl, true⟩ := rfl
@[simp] theorem T_74 : T 74 = none := rfl
@[simp] theorem T_75 : T 75 = some ⟨.fn, 1, 8, .p .nilf, true⟩ := rfl
@[simp] theorem T_76 : T 76 = some ⟨.fn, 1, 8, .p .nilf, true⟩ := rfl
@[simp] theorem T_77 : T 77 = some ⟨.fn, 1, 8, .p .nilf, true⟩ := rfl
@[simp] theorem T_78 : T 78 = some ⟨.fn, 1, 8, .p .nilf, true⟩ := rfl
@[simp] theorem T_79 : T 79 = some ⟨.fn, 1, 8, .p .nilf, true⟩ := rfl
@[simp] theorem T_80 : T 80 = some ⟨.fn, 1, 8, .p .nilf, true⟩ := rfl
@[simp] theorem T_81 : T 81 = some ⟨.fn, 1, 8, .p .nilf, true⟩ := rfl
@[simp] theorem T_82 : T 82 = some ⟨.fn, 1, 8, .p .nilf, true⟩ := rfl
@[simp] theorem T_83 : T 83 = some ⟨.sl 3, 1, 24, .nilsl, true⟩ := rfl
@[simp] theorem T_84 : T 84 = some ⟨.fn, 1, 8, .p .nilf, true⟩ := rfl
@[simp] theorem T_85 : T 85 = some ⟨.fn, 1, 8, .p .nilf, true⟩ := rfl
@[simp] theorem T_86 : T 86 = none := rfl
@[simp] theorem T_87 : T 87 = some ⟨.fn, 1, 8, .p .nilf, true⟩ := rfl
@[simp] theorem T_88 : T 88 = some ⟨.fn, 1, 8, .p .nilf, true⟩ := rfl
@[simp] theorem T_89 : T 89 = some ⟨.fn, 1, 8, .p .nilf, true⟩ := rfl
@[simp] theorem T_90 : T 90 = some ⟨.map 9 4, 1, 8, .dead, true⟩ := rfl
@[simp] theorem T_91 : T 91 = some ⟨.fn, 1, 8, .p .nilf, true⟩ := rfl
@[simp] theorem T_92 : T 92 = some ⟨.fn, 1, 8, .p .nilf, true⟩ := rfl
@[simp] theorem T_93 : T 93 = some ⟨.fn, 1, 8, .p .nilf, true⟩ := rfl
@[simp] theorem T_94 : T 94 = some ⟨.fn, 1, 8, .p .nilf, true⟩ := rfl
@[simp] theorem T_95 : T 95 = some ⟨.fn, 1, 8, .p .nilf, true⟩ := rfl
@[simp] theorem T_96 : T 96 = some ⟨.sl 5, 1, 24, .nilsl, true⟩ := rfl
@[simp] theorem T_97 : T 97 = some ⟨.fn, 1, 8, .p .nilf, true⟩ := rfl
@[simp] theorem T_98 : T 98 = some ⟨.int .u64, 1, 8, .p (.int .u64 0), true⟩ := rfl
@[simp] theorem T_99 : T 99 = none := rfl
@[simp] theorem T_100 : T 100 = some ⟨.fn, 1, 8, .p .nilf, true⟩ := rfl
@[simp] theorem T_101 : T 101 = some ⟨.fn, 1, 8, .p .nilf, true⟩ := rfl
@[simp] theorem T_102 : T 102 = some ⟨.ptr 104, 1, 8, .p .nilp, true⟩ := rfl
@[simp] theorem T_103 : T 103 = some ⟨.st [(0, 102), (1, 96)], 2, 32, .agg [.p .nilp, .nilsl], true⟩ := rfl
@[simp] theorem T_104 : T 104 = some ⟨.st [(0, 102), (1, 96)], 2, 32, .agg [.p .nilp, .nilsl], true⟩ := rfl
@[simp] theorem T_105 : T 105 = some ⟨.fn, 1, 8, .p .nilf, true⟩ := rfl
@[simp] theorem T_106 : T 106 = none := rfl
@[simp] theorem T_107 : T 107 = none := rfl
@[simp] theorem T_108 : T 108 = none := rfl
@[simp] theorem T_109 : T 109 = some ⟨.fn, 1, 8, .p .nilf, true⟩ := rfl
@[simp] theorem T_110 : T 110 = some ⟨.fn, 1, 8, .p .nilf, true⟩ := rfl
@[simp] theorem T_111 : T 111 = some ⟨.fn, 1, 8, .p .nilf, true⟩ := rfl
@[simp] theorem T_112 : T 112 = some ⟨.fn, 1, 8, .p .nilf, true⟩ := rfl
@[simp] theorem T_113 : T 113 = some ⟨.fn, 1, 8, .p .nilf, true⟩ := rfl
@[simp] theorem T_114 : T 114 = some ⟨.fn, 1, 8, .p .nilf, true⟩ := rfl
@[simp] theorem T_115 : T 115 = some ⟨.fn, 1, 8, .p .nilf, true⟩ := rfl
@[simp] theorem T_116 : T 116 = some ⟨.fn, 1, 8, .p .nilf, true⟩ := rfl
@[simp] theorem T_117 : T 117 = some ⟨.ar 256 5, 256, 256, .agg (pcells (reps 256 (.int .u8 0))), true⟩ := rfl
@[simp] theorem T_118 : T 118 = some ⟨.st [(0, 5), (1, 5)], 2, 2, .agg [.p (.int .u8 0), .p (.int .u8 0)], true⟩ := rfl
@[simp] theorem T_119 : T 119 = some ⟨.st [(0, 5), (1, 5)], 2, 2, .agg [.p (.int .u8 0), .p (.int .u8 0)], true⟩ := rfl
@[simp] theorem T_120 : T 120 = some ⟨.ar 16 119, 32, 32, .agg (pcells (reps 32 (.int .u8 0))), true⟩ := rfl
@[simp] theorem T_121 : T 121 = some ⟨.int .u32, 1, 4, .p (.int .u32 0), true⟩ := rfl
@[simp] theorem T_122 : T 122 = none := rfl
@[simp] theorem T_123 : T 123 = some ⟨.fn, 1, 8, .p .nilf, true⟩ := rfl
@[simp] theorem T_124 : T 124 = none := rfl
@[simp] theorem T_125 : T 125 = some ⟨.fn, 1, 8, .p .nilf, true⟩ := rfl
@[simp] theorem T_126 : T 126 = some ⟨.ptr 5, 1, 8, .p .nilp, true⟩ := rfl
@[simp] theorem T_127 : T 127 = some ⟨.fn, 1, 8, .p .nilf, true⟩ := rfl
@[simp] theorem T_128 : T 128 = some ⟨.int .i64, 1, 8, .p (.int .i64 0), true⟩ := rfl
@[simp] theorem T_129 : T 129 = none := rfl
@[simp] theorem T_130 : T 130 = some ⟨.fn, 1, 8, .p .nilf, true⟩ := rfl
@[simp] theorem T_131 : T 131 = some ⟨.fn, 1, 8, .p .nilf, true⟩ := rfl
@[simp] theorem T_132 : T 132 = some ⟨.fn, 1, 8, .p .nilf, true⟩ := rfl
@[simp] theorem T_133 : T 133 = none := rfl
@[simp] theorem T_134 : T 134 = some ⟨.fn, 1, 8, .p .nilf, true⟩ := rfl
@[simp] theorem T_135 : T 135 = some ⟨.fn, 1, 8, .p .nilf, true⟩ := rfl
@[simp] theorem T_136 : T 136 = some ⟨.fn, 1, 8, .p .nilf, true⟩ := rfl
@[simp] theorem T_137 : T 137 = none := rfl
@[simp] theorem T_138 : T 138 = some ⟨.fn, 1, 8, .p .nilf, true⟩ := rfl
@[simp] theorem T_139 : T 139 = some ⟨.fn, 1, 8, .p .nilf, true⟩ := rfl
@[simp] theorem T_140 : T 140 = some ⟨.int .u64, 1, 8, .p (.int .u64 0), true⟩ := rfl
@[simp] theorem T_141 : T 141 = some ⟨.fn, 1, 8, .p .nilf, true⟩ := rfl
@[simp] theorem T_142 : T 142 = some ⟨.fn, 1, 8, .p .nilf, true⟩ := rfl
@[simp] theorem T_143 : T 143 = some ⟨.fn, 1, 8, .p .nilf, true⟩ := rfl
@[simp] theorem T_144 : T 144 = some ⟨.ptr 3, 1, 8, .p .nilp, true⟩ := rfl
@[simp] theorem T_145 : T 145 = some ⟨.fn, 1, 8, .p .nilf, true⟩ := rfl
@[simp] theorem T_146 : T 146 = some ⟨.ptr 140, 1, 8, .p .nilp, true⟩ := rfl
@[simp] theorem T_147 : T 147 = some ⟨.fn, 1, 8, .p .nilf, true⟩ := rfl
@[simp] theorem T_148 : T 148 = none := rfl
@[simp] theorem T_149 : T 149 = none := rfl
@[simp] theorem T_150 : T 150 = none := rfl
@[simp] theorem T_151 : T 151 = none := rfl
@[simp] theorem T_152 : T 152 = none := rfl
@[simp] theorem T_153 : T 153 = none := rfl
@[simp] theorem T_154 : T 154 = none := rfl
@[simp] theorem T_155 : T 155 = some ⟨.fn, 1, 8, .p .nilf, true⟩ := rfl
@[simp] theorem T_156 : T 156 = none := rfl
@[simp] theorem T_157 : T 157 = none := rfl
@[simp] theorem T_158 : T 158 = none := rfl
@[simp] theorem T_159 : T 159 = none := rfl
theorem tbl_ok : tblOK Tryd.prog 0 tbl := ⟨ti1, ti2, ti3, ti4, ti5, ti9, ti12, ti21, ti22, ti23, ti24, ti25, ti26, ti27, ti28, ti29, ti30, ti31, ti32, ti33, ti34, ti35, ti36, ti37, ti38, ti39, ti40, ti41, ti42, ti43, ti45, ti46, ti47, ti48, ti49, ti50, ti51, ti52, ti53, ti54, ti55, ti56, ti58, ti59, ti60, ti61, ti62, ti63, ti64, ti65, ti66, ti67, ti68, ti69, ti70, ti71, ti72, ti73, ti75, ti76, ti77, ti78, ti79, ti80, ti81, ti82, ti83, ti84, ti85, ti87, ti88, ti89, ti90, ti91, ti92, ti93, ti94, ti95, ti96, ti97, ti98, ti100, ti101, ti102, ti103, ti104, ti105, ti109, ti110, ti111, ti112, ti113, ti114, ti115, ti116, ti117, ti118, ti119, ti120, ti121, ti123, ti125, ti126, ti127, ti128, ti130, ti131, ti132, ti134, ti135, ti136, ti138, ti139, ti140, ti141, ti142, ti143, ti144, ti145, ti146, ti147, ti155, trivial⟩
theorem mixed : Tryd.prog.follows .mixedOrders = true := by kernel_rfl
theorem tok : TOK Tryd.prog T := by
  intro t ti h
  unfold T at h
  cases hx : tbl[t]? with
  | none => rw [hx] at h; cases h
  | some o =>
    rw [hx] at h
    simp only [Option.getD_some] at h
    subst h
    have := tblOK_get tbl_ok hx
    simpa using this
end Go.Proofs.YtgoepemmcibdaaaDoor
/-
  DERIVED: THE SHELF's CONTRACTS AT THIS DUMP, IN PLAIN WORDS (tools/lay-plain.mjs out of 'TrydShelfQ.lean', which tools/lay-shelf.mjs wrote): THE SAME DECLARATIONS UNDER THE SAME NAMES: 'import', 'namespace', 'open', 'def', 'theorem' AND NOTHING ELSE: no command of the shelf's: FOR A HAND-IN. Each laying: the table of numbers ('.._ren') and one theorem, a field a fact of the dump's own or the kernel's comparison; each contract: ONE APPLICATION.
-/
namespace Go.Proofs
open Go.Shelf
def Tryd.lays196_ren : Go.Shelf.Ren := ⟨fun | 196 => 69 | 259 => 81 | n => n, fun | 9 => 9 | 4 => 4 | 3 => 3 | 5 => 5 | 12 => 12 | 119 => 117 | 0 => 0 | 46 => 98 | 139 => 120 | 138 => 119 | 53 => 29 | n => n, fun | 3 => 1 | 4 => 2 | n => n⟩
theorem Tryd.lays196 : Go.Proofs.Lays.n196 Tryd.prog Tryd.lays196_ren := {
  mixed := by kernel_rfl
  f196 := Tryd.func69.trans (congrArg some (by kernel_rfl))
  f259 := Tryd.func81.trans (congrArg some (by kernel_rfl))
  t0 := Tryd.underlying0
  a0 := Tryd.isAgg0
  z0 := Tryd.sizeOf0
  v0 := Tryd.zeroValue0
  t3 := Tryd.underlying3
  a3 := Tryd.isAgg3
  z3 := Tryd.sizeOf3
  v3 := Tryd.zeroValue3
  t4 := Tryd.underlying4
  a4 := Tryd.isAgg4
  z4 := Tryd.sizeOf4
  v4 := Tryd.zeroValue4
  t5 := Tryd.underlying5
  a5 := Tryd.isAgg5
  z5 := Tryd.sizeOf5
  v5 := Tryd.zeroValue5
  t9 := Tryd.underlying9
  a9 := Tryd.isAgg9
  z9 := Tryd.sizeOf9
  v9 := Tryd.zeroValue9
  t12 := Tryd.underlying12
  a12 := Tryd.isAgg12
  z12 := Tryd.sizeOf12
  v12 := Tryd.zeroValue12
  t46 := Tryd.underlying98
  a46 := Tryd.isAgg98
  z46 := Tryd.sizeOf98
  v46 := Tryd.zeroValue98
  t53 := Tryd.underlying29
  a53 := Tryd.isAgg29
  z53 := Tryd.sizeOf29
  v53 := Tryd.zeroValue29
  t119 := Tryd.underlying117
  a119 := Tryd.isAgg117
  z119 := Tryd.sizeOf117
  t138 := Tryd.underlying119
  a138 := Tryd.isAgg119
  z138 := Tryd.sizeOf119
  v138 := Tryd.zeroValue119
  t139 := Tryd.underlying120
  a139 := Tryd.isAgg120
  z139 := Tryd.sizeOf120
  v139 := Tryd.zeroValue120
  g3 := by kernel_rfl
  g4 := by kernel_rfl }
def Tryd.lays106_ren : Go.Shelf.Ren := ⟨fun | 106 => 26 | 213 => 48 | 265 => 63 | n => n, fun | 9 => 9 | 3 => 3 | n => n, fun | n => n⟩
theorem Tryd.lays106 : Go.Proofs.Lays.n106 Tryd.prog Tryd.lays106_ren := {
  mixed := by kernel_rfl
  f106 := Tryd.func26.trans (congrArg some (by kernel_rfl))
  f213 := Tryd.func48.trans (congrArg some (by kernel_rfl))
  f265 := Tryd.func63.trans (congrArg some (by kernel_rfl))
  t3 := Tryd.underlying3
  a3 := Tryd.isAgg3
  z3 := Tryd.sizeOf3
  v3 := Tryd.zeroValue3
  t9 := Tryd.underlying9
  a9 := Tryd.isAgg9
  z9 := Tryd.sizeOf9
  v9 := Tryd.zeroValue9 }
def Tryd.lays105_ren : Go.Shelf.Ren := ⟨fun | 105 => 62 | 212 => 71 | 99 => 72 | 165 => 73 | 166 => 74 | 170 => 75 | 169 => 76 | 263 => 82 | 264 => 83 | 206 => 84 | 240 => 85 | 241 => 86 | 276 => 98 | 277 => 99 | n => n, fun | 9 => 9 | 3 => 3 | 4 => 4 | 20 => 20 | 0 => 0 | 46 => 98 | 109 => 99 | 5 => 5 | 72 => 104 | 76 => 108 | 51 => 121 | 146 => 122 | 53 => 29 | 148 => 124 | 70 => 102 | 37 => 96 | 75 => 107 | 127 => 126 | 164 => 137 | 80 => 111 | n => n, fun | n => n⟩
theorem Tryd.lays105 : Go.Proofs.Lays.n105 Tryd.prog Tryd.lays105_ren := {
  mixed := by kernel_rfl
  f99 := Tryd.func72.trans (congrArg some (by kernel_rfl))
  f105 := Tryd.func62.trans (congrArg some (by kernel_rfl))
  f165 := Tryd.func73.trans (congrArg some (by kernel_rfl))
  f166 := Tryd.func74.trans (congrArg some (by kernel_rfl))
  f169 := Tryd.func76.trans (congrArg some (by kernel_rfl))
  f170 := Tryd.func75.trans (congrArg some (by kernel_rfl))
  f206 := Tryd.func84.trans (congrArg some (by kernel_rfl))
  f212 := Tryd.func71.trans (congrArg some (by kernel_rfl))
  f240 := Tryd.func85.trans (congrArg some (by kernel_rfl))
  f241 := Tryd.func86.trans (congrArg some (by kernel_rfl))
  f263 := Tryd.func82.trans (congrArg some (by kernel_rfl))
  f264 := Tryd.func83.trans (congrArg some (by kernel_rfl))
  f276 := Tryd.func98.trans (congrArg some (by kernel_rfl))
  f277 := Tryd.func99.trans (congrArg some (by kernel_rfl))
  t0 := Tryd.underlying0
  a0 := Tryd.isAgg0
  z0 := Tryd.sizeOf0
  v0 := Tryd.zeroValue0
  t3 := Tryd.underlying3
  a3 := Tryd.isAgg3
  z3 := Tryd.sizeOf3
  v3 := Tryd.zeroValue3
  t4 := Tryd.underlying4
  a4 := Tryd.isAgg4
  z4 := Tryd.sizeOf4
  v4 := Tryd.zeroValue4
  t5 := Tryd.underlying5
  a5 := Tryd.isAgg5
  z5 := Tryd.sizeOf5
  v5 := Tryd.zeroValue5
  t9 := Tryd.underlying9
  a9 := Tryd.isAgg9
  z9 := Tryd.sizeOf9
  v9 := Tryd.zeroValue9
  t20 := Tryd.underlying20
  a20 := Tryd.isAgg20
  z20 := Tryd.sizeOf20
  v20 := Tryd.zeroValue20
  t37 := Tryd.underlying96
  a37 := Tryd.isAgg96
  z37 := Tryd.sizeOf96
  v37 := Tryd.zeroValue96
  t46 := Tryd.underlying98
  a46 := Tryd.isAgg98
  z46 := Tryd.sizeOf98
  v46 := Tryd.zeroValue98
  t51 := Tryd.underlying121
  a51 := Tryd.isAgg121
  z51 := Tryd.sizeOf121
  v51 := Tryd.zeroValue121
  t53 := Tryd.underlying29
  a53 := Tryd.isAgg29
  z53 := Tryd.sizeOf29
  v53 := Tryd.zeroValue29
  t70 := Tryd.underlying102
  a70 := Tryd.isAgg102
  z70 := Tryd.sizeOf102
  v70 := Tryd.zeroValue102
  t72 := Tryd.underlying104
  a72 := Tryd.isAgg104
  z72 := Tryd.sizeOf104
  v72 := Tryd.zeroValue104
  t75 := Tryd.underlying107
  a75 := Tryd.isAgg107
  z75 := Tryd.sizeOf107
  v75 := Tryd.zeroValue107
  t76 := Tryd.underlying108
  a76 := Tryd.isAgg108
  z76 := Tryd.sizeOf108
  v76 := Tryd.zeroValue108
  t109 := Tryd.underlying99
  a109 := Tryd.isAgg99
  z109 := Tryd.sizeOf99
  v109 := Tryd.zeroValue99
  t127 := Tryd.underlying126
  a127 := Tryd.isAgg126
  z127 := Tryd.sizeOf126
  v127 := Tryd.zeroValue126
  t146 := Tryd.underlying122
  a146 := Tryd.isAgg122
  z146 := Tryd.sizeOf122
  v146 := Tryd.zeroValue122
  t148 := Tryd.underlying124
  a148 := Tryd.isAgg124
  z148 := Tryd.sizeOf124
  v148 := Tryd.zeroValue124
  t164 := Tryd.underlying137
  a164 := Tryd.isAgg137
  z164 := Tryd.sizeOf137
  v164 := Tryd.zeroValue137 }
def Tryd.lays190_ren : Go.Shelf.Ren := ⟨fun | 190 => 65 | 125 => 79 | 258 => 78 | 128 => 96 | 129 => 97 | 302 => 87 | 303 => 88 | 304 => 89 | 305 => 90 | 306 => 91 | 307 => 92 | 308 => 93 | 309 => 94 | 310 => 95 | 333 => 100 | 329 => 101 | 330 => 102 | 334 => 103 | 335 => 104 | 336 => 67 | 344 => 105 | n => n, fun | 31 => 25 | 9 => 9 | 3 => 3 | 46 => 98 | 0 => 0 | 51 => 121 | 53 => 29 | 4 => 4 | 183 => 129 | 182 => 128 | 131 => 133 | 5 => 5 | 218 => 140 | 222 => 144 | 228 => 146 | 229 => 86 | n => n, fun | n => n⟩
theorem Tryd.lays190 : Go.Proofs.Lays.n190 Tryd.prog Tryd.lays190_ren := {
  mixed := by kernel_rfl
  f125 := Tryd.func79.trans (congrArg some (by kernel_rfl))
  f128 := Tryd.func96.trans (congrArg some (by kernel_rfl))
  f129 := Tryd.func97.trans (congrArg some (by kernel_rfl))
  f190 := Tryd.func65.trans (congrArg some (by kernel_rfl))
  f258 := Tryd.func78.trans (congrArg some (by kernel_rfl))
  f302 := Tryd.func87.trans (congrArg some (by kernel_rfl))
  f303 := Tryd.func88.trans (congrArg some (by kernel_rfl))
  f304 := Tryd.func89.trans (congrArg some (by kernel_rfl))
  f305 := Tryd.func90.trans (congrArg some (by kernel_rfl))
  f306 := Tryd.func91.trans (congrArg some (by kernel_rfl))
  f307 := Tryd.func92.trans (congrArg some (by kernel_rfl))
  f308 := Tryd.func93.trans (congrArg some (by kernel_rfl))
  f309 := Tryd.func94.trans (congrArg some (by kernel_rfl))
  f310 := Tryd.func95.trans (congrArg some (by kernel_rfl))
  f329 := Tryd.func101.trans (congrArg some (by kernel_rfl))
  f330 := Tryd.func102.trans (congrArg some (by kernel_rfl))
  f333 := Tryd.func100.trans (congrArg some (by kernel_rfl))
  f334 := Tryd.func103.trans (congrArg some (by kernel_rfl))
  f335 := Tryd.func104.trans (congrArg some (by kernel_rfl))
  f336 := Tryd.func67.trans (congrArg some (by kernel_rfl))
  f344 := Tryd.func105.trans (congrArg some (by kernel_rfl))
  t0 := Tryd.underlying0
  a0 := Tryd.isAgg0
  z0 := Tryd.sizeOf0
  v0 := Tryd.zeroValue0
  t3 := Tryd.underlying3
  a3 := Tryd.isAgg3
  z3 := Tryd.sizeOf3
  v3 := Tryd.zeroValue3
  t4 := Tryd.underlying4
  a4 := Tryd.isAgg4
  z4 := Tryd.sizeOf4
  v4 := Tryd.zeroValue4
  t5 := Tryd.underlying5
  a5 := Tryd.isAgg5
  z5 := Tryd.sizeOf5
  v5 := Tryd.zeroValue5
  t9 := Tryd.underlying9
  a9 := Tryd.isAgg9
  z9 := Tryd.sizeOf9
  v9 := Tryd.zeroValue9
  t31 := Tryd.underlying25
  a31 := Tryd.isAgg25
  z31 := Tryd.sizeOf25
  v31 := Tryd.zeroValue25
  t46 := Tryd.underlying98
  a46 := Tryd.isAgg98
  z46 := Tryd.sizeOf98
  v46 := Tryd.zeroValue98
  t51 := Tryd.underlying121
  a51 := Tryd.isAgg121
  z51 := Tryd.sizeOf121
  v51 := Tryd.zeroValue121
  t53 := Tryd.underlying29
  a53 := Tryd.isAgg29
  z53 := Tryd.sizeOf29
  v53 := Tryd.zeroValue29
  t131 := Tryd.underlying133
  a131 := Tryd.isAgg133
  z131 := Tryd.sizeOf133
  v131 := Tryd.zeroValue133
  t182 := Tryd.underlying128
  a182 := Tryd.isAgg128
  z182 := Tryd.sizeOf128
  v182 := Tryd.zeroValue128
  t183 := Tryd.underlying129
  a183 := Tryd.isAgg129
  z183 := Tryd.sizeOf129
  v183 := Tryd.zeroValue129
  t218 := Tryd.underlying140
  a218 := Tryd.isAgg140
  z218 := Tryd.sizeOf140
  v218 := Tryd.zeroValue140
  t222 := Tryd.underlying144
  a222 := Tryd.isAgg144
  z222 := Tryd.sizeOf144
  v222 := Tryd.zeroValue144
  t228 := Tryd.underlying146
  a228 := Tryd.isAgg146
  z228 := Tryd.sizeOf146
  v228 := Tryd.zeroValue146
  t229 := Tryd.underlying86
  a229 := Tryd.isAgg86
  z229 := Tryd.sizeOf86
  v229 := Tryd.zeroValue86 }
end Go.Proofs
/-
  OUR OWN LAYER: contracts of the kit's shelf as ours; the tables of unicode/utf8.
-/
namespace Go.Proofs.YtgoepemmcibdaaaDoor
open Sy Go
namespace Sy
variable {P : Program} {G : Glob}
theorem AFn.of_calls {f : FuncId} {args : List PD} {r : PD} (hc : Callable P f) (h : ∀ (M : FMap) (w : World) (vs : Array Value), GOK G M → (∀ b o v, M b o = some v → w.cell? ⟨b, o, none⟩ = some v) → vs.size = args.length →
    (∀ (i : Nat) u d, vs[i]? = some u → args[i]? = some d → Rd M u d) → Calls P f vs w fun e w' => ∃ v, e = .returned v ∧ Rd M v r ∧ RowKit.Below w.heap.size w w') : AFn P G f args r := by
  refine ⟨hc, fun M w vs hg hmem hsz hrd => (h M w vs hg hmem hsz hrd).mono ?_⟩
  rintro e w' ⟨v, rfl, hv, hb⟩
  refine ⟨v, M, rfl, hv, fun b o u hu => ?_, fun _ _ _ h => h, fun _ _ _ => rfl, hb⟩
  have h1 := hmem b o u hu
  exact (World.cell?_of_block (w := w) (hb.block b (lt_of_cell h1))).trans h1
theorem callable_of {f : FuncId} {fn : Func} {c : Code} (hf : P.funcs[f]? = some fn) (hn : (fn.name == "runtime.NumGoroutine") = false) (hb : fn.body = some c) : Callable P f := ⟨fn, c, hf, hn, hb⟩
theorem arg_str {M : FMap} {vs : Array Value} {s : List UInt8} (hsz : vs.size = 1) (h : ∀ (i : Nat) u d, vs[i]? = some u → [PD.str s][i]? = some d → Rd M u d) : ∃ b : ByteArray, vs = #[.string b] ∧ b.data.toList = s ∧ b.size ≤ maxLen := by
  obtain ⟨l⟩ := vs
  match l, hsz with
  | [u], _ =>
    have := h 0 u (.str s) rfl rfl
    cases this with
    | @str b _ hs hm => exact ⟨b, rfl, hs, by rw [str_size hs]; exact hm⟩
/-- The tables of unicode/utf8. -/
def firstP : List PD := (List.range 256).map fun c => .int .u8 (Lib.firstT c)
def accP : List PD := (List.range 32).map fun i => .int .u8 (if i % 2 = 0 then Lib.accLo (i / 2) else Lib.accHi (i / 2))
def HasU8 (g3 g4 : Nat) (G : Glob) : Prop := G g3 = some firstP ∧ G g4 = some accP
theorem u8_tabs {g3 g4 : Nat} {M : FMap} {w : World} (hG : HasU8 g3 g4 G) (hg : GOK G M) (hmem : ∀ b o v, M b o = some v → w.cell? ⟨b, o, none⟩ = some v) : Lib.Utf8Tabs g3 g4 w := by
  have key : ∀ (g : Nat) (cs : List PD) (j : Nat) (n : Int), G g = some cs → cs[j]? = some (.int .u8 n) → w.cell? ⟨g, j, none⟩ = some (.int .u8 n) := by
    intro g cs j n h1 h2
    obtain ⟨h3, h4⟩ := hg g cs h1
    obtain ⟨u, hu, _⟩ := h3 j _ h2
    have := h4 j _ u h2 hu
    cases this
    exact hmem _ _ _ hu
  refine ⟨fun c hc => key _ _ _ _ hG.1 (by simp [firstP, hc]), fun i hi => ⟨key _ _ _ _ hG.2 ?_, key _ _ _ _ hG.2 ?_⟩⟩
  · simp [accP, show 2 * i < 32 by omega]
  · simp only [accP, List.getElem?_map, List.getElem?_range (show 2 * i + 1 < 32 by omega), Option.map_some]
    rw [if_neg (by omega), show (2 * i + 1) / 2 = i by omega]
def u8G (g3 g4 : Nat) : Glob := fun g => if g = g3 then some firstP else if g = g4 then some accP else none
theorem u8G_has {g3 g4 : Nat} (h : g4 ≠ g3) : HasU8 g3 g4 (u8G g3 g4) := ⟨by simp [u8G], by simp [u8G, h]⟩
theorem u8G_ok {g3 g4 : Nat} {W : World} (h : Lib.Utf8Tabs g3 g4 W) (hne : g4 ≠ g3) : GOK (u8G g3 g4) (memOf W) := by
  have one : ∀ (g j : Nat) (cs : List PD), (∀ (j : Nat) d, cs[j]? = some d → ∃ n : Int, d = .int .u8 n ∧ 0 ≤ n ∧ n ≤ 255 ∧ W.cell? ⟨g, j, none⟩ = some (.int .u8 n)) →
      (∀ (j : Nat) d, cs[j]? = some d → ∃ u, memOf W g j = some u ∧ u.oneCell' = true) ∧ (∀ (j : Nat) d u, cs[j]? = some d → memOf W g j = some u → Rd (memOf W) u d) := by
    intro g _ cs hc
    refine ⟨fun j d hd => ?_, fun j d u hd hu => ?_⟩
    · obtain ⟨n, rfl, _, _, h⟩ := hc j d hd; exact ⟨_, h, rfl⟩
    · obtain ⟨n, rfl, h0, h1, h⟩ := hc j d hd
      have : some u = some (Value.int .u8 n) := hu.symm.trans h
      cases this
      exact .int (by rw [kmin_eq]; exact h0) (by rw [kmax_eq]; exact h1)
  have hft : ∀ c, (0 : Int) ≤ Lib.firstT c ∧ (Lib.firstT c : Int) ≤ 255 := fun c => by
    rcases Lib.firstT_cases c with h | h | h | h | h | h | h | h | h <;> rw [h] <;> omega
  intro g cs hg
  simp only [u8G] at hg
  split at hg
  · rename_i e
    subst e
    cases hg
    refine one g 0 _ fun j d hd => ?_
    have hj : j < 256 := by have := (List.getElem?_eq_some_iff.1 hd).1; simpa [firstP] using this
    simp [firstP, hj] at hd
    exact ⟨_, hd.symm, (hft j).1, (hft j).2, h.1 j hj⟩
  · split at hg
    · rename_i _ e
      subst e
      cases hg
      refine one g 0 _ fun j d hd => ?_
      have hj : j < 32 := by have := (List.getElem?_eq_some_iff.1 hd).1; simpa [accP] using this
      simp only [accP, List.getElem?_map, List.getElem?_range hj, Option.map_some, Option.some.injEq] at hd
      have hb := h.2 (j / 2) (by omega)
      have hacc : ∀ i, i < 16 → (0 : Int) ≤ Lib.accLo i ∧ (Lib.accLo i : Int) ≤ 255 ∧ (0 : Int) ≤ Lib.accHi i ∧ (Lib.accHi i : Int) ≤ 255 := by decide
      have hac := hacc (j / 2) (by omega)
      by_cases h2 : j % 2 = 0
      · rw [if_pos h2] at hd
        exact ⟨_, hd.symm, hac.1, hac.2.1, by have := hb.1; rwa [show 2 * (j / 2) = j by omega] at this⟩
      · rw [if_neg h2] at hd
        exact ⟨_, hd.symm, hac.2.2.1, hac.2.2.2, by have := hb.2; rwa [show 2 * (j / 2) + 1 = j by omega] at this⟩
    · cases hg
end Sy
variable {G : Glob}
abbrev U8 (G : Glob) : Prop := HasU8 1 2 G
theorem ValidString_ev (hG : U8 G) (s : List UInt8) : AFn Tryd.prog G 69 [.str s] (.bool (Lib.validD s)) := by
  refine AFn.of_calls (callable_of Tryd.func69 (by kernel_rfl) rfl) fun M w vs hg hmem hsz hrd => ?_
  obtain ⟨b, rfl, rfl, hm⟩ := arg_str hsz hrd
  refine (Any.utf8_ValidString Tryd.lays196 b w hm (u8_tabs hG hg hmem)).mono ?_
  rintro e w' ⟨rfl, hb⟩
  exact ⟨_, rfl, .bool _, hb⟩
end Go.Proofs.YtgoepemmcibdaaaDoor
/-
  OUR OWN LAYER: contracts of the kit's shelf as ours: strings.Compare, strings.Repeat.
-/
namespace Go.Proofs.YtgoepemmcibdaaaDoor
open Sy Go
variable {G : Glob}
theorem arg_str2 {M : FMap} {vs : Array Value} {s t : List UInt8} (hsz : vs.size = 2) (h : ∀ (i : Nat) u d, vs[i]? = some u → [PD.str s, PD.str t][i]? = some d → Rd M u d) : ∃ a b : ByteArray, vs = #[.string a, .string b] ∧ a.data.toList = s ∧ b.data.toList = t := by
  obtain ⟨l⟩ := vs
  match l, hsz with
  | [u, v], _ =>
    have h1 := h 0 u (.str s) rfl rfl
    have h2 := h 1 v (.str t) rfl rfl
    cases h1 with
    | @str a _ ha _ =>
    cases h2 with
    | @str b _ hb _ => exact ⟨a, b, rfl, ha, hb⟩
theorem arg_strInt {M : FMap} {vs : Array Value} {s : List UInt8} {n : Int} (hsz : vs.size = 2) (h : ∀ (i : Nat) u d, vs[i]? = some u → [PD.str s, PD.int .i64 n][i]? = some d → Rd M u d) : ∃ a : ByteArray, vs = #[.string a, .int .i64 n] ∧ a.data.toList = s ∧ n ≤ 9223372036854775807 := by
  obtain ⟨l⟩ := vs
  match l, hsz with
  | [u, v], _ =>
    have h1 := h 0 u (.str s) rfl rfl
    have h2 := h 1 v (.int .i64 n) rfl rfl
    cases h1 with
    | @str a _ ha _ =>
    cases h2 with
    | int h3 h4 => exact ⟨a, rfl, ha, by rw [kmax_eq] at h4; exact h4⟩
theorem Compare_ev (a b : List UInt8) : AFn Tryd.prog G 26 [.str a, .str b] (.int .i64 (Lib.compareBytes a b)) := by
  refine AFn.of_calls (callable_of Tryd.func26 (by kernel_rfl) rfl) fun M w vs hg hmem hsz hrd => ?_
  obtain ⟨x, y, rfl, rfl, rfl⟩ := arg_str2 hsz hrd
  refine (Any.strings_Compare Tryd.lays106 x y w).mono ?_
  rintro e w' ⟨rfl, rfl⟩
  have hb : -1 ≤ Lib.compareBytes x.data.toList y.data.toList ∧ Lib.compareBytes x.data.toList y.data.toList ≤ 1 := by
    generalize x.data.toList = l; generalize y.data.toList = m
    induction l generalizing m with
    | nil => cases m <;> simp [Lib.compareBytes]
    | cons a l ih =>
      cases m with
      | nil => simp [Lib.compareBytes]
      | cons b m =>
        simp only [Lib.compareBytes]
        split
        · omega
        · split
          · omega
          · exact ih m
  exact ⟨_, rfl, .int (by rw [kmin_eq]; simp only [kmin]; omega) (by rw [kmax_eq]; simp only [kmax]; omega), RowKit.Below.refl _ _⟩
theorem builder_extra : Builder.Extra Tryd.prog Tryd.lays105_ren where
  sizeBuilder := by kernel_rfl
  liesBuilder := by kernel_rfl
  t5 := Tryd.underlying5
  a5 := Tryd.isAgg5
  z5 := Tryd.sizeOf5
  v5 := Tryd.zeroValue5
  infoByte := by kernel_rfl
  cellsByte := by kernel_rfl
  sizeByte := by kernel_rfl
  neB5 := by decide
theorem Repeat_ev (s : List UInt8) (n : Nat) (h : s.length * n ≤ 140737488355328) : AFn Tryd.prog G 62 [.str s, .int .i64 n] (.str (Lib.repeatL s n)) := by
  refine AFn.of_calls (callable_of Tryd.func62 (by kernel_rfl) rfl) fun M w vs hg hmem hsz hrd => ?_
  obtain ⟨x, rfl, rfl, hn⟩ := arg_strInt hsz hrd
  refine (Any.strings_Repeat Tryd.lays105 builder_extra x n w (by omega) (by rw [str_size rfl]; exact h)).mono ?_
  rintro e w' ⟨rfl, hb⟩
  refine ⟨_, rfl, .str (by simp) ?_, hb⟩
  rw [Lib.repeatL_length, Nat.mul_comm]; simp only [maxLen]; omega
end Go.Proofs.YtgoepemmcibdaaaDoor
/-
  OUR OWN LAYER: slices.Sorted(slices.Values(..)) of texts, as a contract of ours.
-/
namespace Go.Proofs.YtgoepemmcibdaaaDoor
open Sy Go Go.RowKit Go.Shelf Go.Maps Go.Sort
attribute [local go_sem] Oper.semAt_some
set_option linter.unusedSimpArgs false
set_option linter.unusedVariables false
def sortK (ks : List (List UInt8)) : List (List UInt8) := ks.mergeSort fun x y => decide (x ≤ y)
theorem sortK_len (ks : List (List UInt8)) : (sortK ks).length = ks.length := List.length_mergeSort _
set_option maxRecDepth 100000 in
set_option maxHeartbeats 2000000 in
theorem sorted_calls (Bs : Nat) (sv : Value) (zs : List (List UInt8)) (hlen : zs.length ≤ maxLen) (hbytes : zs.length * 16 ≤ 140737488351232) (w : World) (hBs : Bs < w.heap.size) (hc0 : w.cell? ⟨Bs, 0, none⟩ = some sv) (hI : Strs w.heap.size w sv zs) :
    Calls Tryd.prog 50 #[.func (.func 66) #[] #[.pointer (some ⟨Bs, 0, none⟩)]] w fun e W' => ∃ v, e = .returned v ∧ W'.ownsRow w.heap.size 9 1 v zs.length ((sortK zs).map encStr) ∧ Below w.heap.size w W' := by
  refine (callsIn_wide (n := 6)).1 ?_
  have h1 : 1 ≤ 6 := by omega
  refine callsIn_of_wp Tryd.func50 rfl trivial ?_ rfl
  simp only [Tryd.ntmps50, List.size_toArray, List.length_cons, List.length_nil, Nat.reduceAdd, Nat.reduceSub, Array.replicate_succ, Array.replicate_zero, List.push_toArray, List.append_toArray, List.nil_append, List.cons_append]
  gi_wp2_with (refine ⟨trivial, ?_⟩; gi_at_call 64; refine (collect_in Fence.wide 5 trivial trivial trivial rfl (by omega) Bs sv zs hlen hbytes _ hBs hc0 hI).mono ?_; rintro e W ⟨v, rfl, hrow, hb⟩)
  rcases hrow.2 with ⟨rfl, hz⟩ | ⟨gb, cap, cur, rfl, hbase, hgb, r1, r2, r3, r4⟩
  · have hss : zs = [] := List.eq_nil_of_length_eq_zero hz
    subst hss
    gi_wp2_with (refine ⟨trivial, ?_⟩; gi_at_call 65; refine (callsIn_wide.2 (Any.slices_Sort_string_none Tryd.lays190 none 0 W)).mono ?_; rintro e w' ⟨rfl, rfl⟩)
    go_ret
    exact ⟨.slice none 0 0, rfl, by simpa [sortK] using hrow, hb⟩
  · have hH : Holds encStr W gb 0 zs.toArray := holds_of_block hgb (by simpa using r4)
    have hgl : gb < W.heap.size := (Array.getElem?_eq_some_iff.1 hgb).1
    have cS := Any.slices_Sort_string Tryd.lays190 gb 0 cap zs W hH hgl (by omega)
    gi_wp2_with (refine ⟨trivial, ?_⟩; gi_at_call 65; refine (callsIn_wide.2 cS).mono ?_; rintro e w' ⟨rfl, nn, os, rfl⟩)
    go_ret
    exact ⟨_, rfl, ownsRow_sorted (by simp) hbase hgb r1 r2 r3, hb.grown (grownBy_sorted _) hb.size (fun j hj => by cases hj; exact hbase)⟩
variable {G : Glob}
theorem encStr_eq {ba : ByteArray} {s : List UInt8} (h : ba.data.toList = s) : Value.string ba = encStr s := by
  subst h; rfl
theorem strs_of {M : FMap} {w : World} {u : Value} {ks : List (List UInt8)} (hmem : ∀ b o v, M b o = some v → w.cell? ⟨b, o, none⟩ = some v) (h : Rd M u (.sl 1 (ks.map PD.str))) : Strs w.heap.size w u ks ∧ ks.length ≤ maxLen ∧ ∀ s ∈ ks, s.length ≤ maxLen := by
  cases h with
  | @sl a n c _ _ b o hn hnc hcm ha h5 h6 h7 =>
  rw [List.length_map] at hn
  by_cases hk : ks = []
  · subst hk; simp at hn; subst hn; exact ⟨.inl ⟨rfl, a, c, rfl⟩, by simp, by simp⟩
  · have hpos : 0 < ks.length := List.length_pos_iff.2 hk
    obtain rfl := ha (by omega)
    subst hn
    have hcell : ∀ j, j < ks.length → w.cell? ⟨b, o + j, none⟩ = some (encStr (ks[j]?.getD [])) ∧ (ks[j]?.getD []).length ≤ maxLen := fun j hj => by
      have hg : (ks.map PD.str)[j]? = some (.str ks[j]) := by simp [hj]
      obtain ⟨u, hu, _⟩ := h6 j _ 0 hg (by omega)
      have h8 := h7 j _ 0 _ u hg rfl hu
      cases h8 with
      | @str ba _ hba hl =>
      have := hmem _ _ _ hu
      simp only [Nat.mul_one, Nat.add_zero] at this
      refine ⟨by rw [this, encStr_eq hba]; simp [hj], by simpa [hj] using hl⟩
    refine ⟨.inr ⟨b, o, c, rfl, lt_of_cell (hcell 0 hpos).1, fun j hj => (hcell j hj).1⟩, by omega, fun s hs => ?_⟩
    obtain ⟨j, hj, rfl⟩ := List.mem_iff_getElem.1 hs
    have := (hcell j hj).2
    simpa [hj] using this
theorem sorted_ax (i : Nat) (ks : List (List UInt8)) (hb : ks.length * 16 ≤ 140737488351232) : AX Tryd.prog G 50 [.func (.func 66) [] [.ptr i 0]] [(i, .vars 25 [.p (.sl 1 (ks.map PD.str))])]
    (.p (.sl 1 ((sortK ks).map PD.str))) [] [] := by
  refine ⟨callable_of Tryd.func50 (by kernel_rfl) rfl, fun M μ w vs hg rel => ?_⟩
  have hsz : vs.size = 1 := rel.slots.1
  obtain ⟨l⟩ := vs
  match l, hsz with
  | [u], _ =>
  have hu := rel.slots.2 0 u _ rfl rfl
  cases hu with
  | @func _ fa ca _ _ h1 h2 h3 h4 =>
  obtain rfl : fa = #[] := Array.eq_empty_of_size_eq_zero h1
  obtain ⟨c⟩ := ca
  match c, h2, h4 with
  | [q], _, h4 =>
  have hq := h4 0 q _ rfl rfl
  cases hq with
  | @ptr _ _ b hblk =>
  have hbx := rel.box i (.vars 25 [.p (.sl 1 (ks.map PD.str))]) (List.mem_singleton.2 rfl)
  cases hbx with
  | @vars _ _ b' arr g0 g1 g2 g3 g4 =>
  rw [hblk] at g0
  cases g0
  obtain ⟨al⟩ := arr
  match al, g2, g1, g4 with
  | [sv], _, g1, g4 =>
  have hsv := (g4 0 sv _ rfl rfl).p_inv
  obtain ⟨hS, hlen, hsl⟩ := strs_of rel.mem hsv
  have hbl : b < w.heap.size := (Array.getElem?_eq_some_iff.1 g1).1
  refine (sorted_calls b sv ks hlen hb w hbl (by simp [World.cell?, g1]) hS).mono ?_
  rintro e w' ⟨v, rfl, hrow, hbel⟩
  have hkeep : ∀ b o v, M b o = some v → w'.cell? ⟨b, o, none⟩ = some v := fun b o v hv => by
    have h := rel.mem b o v hv
    exact (World.cell?_of_block (w := w) (hbel.block b (lt_of_cell h))).trans h
  have base : ∀ M' : FMap, (∀ b o v, M b o = some v → M' b o = some v) → (∀ b o v, M' b o = some v → w'.cell? ⟨b, o, none⟩ = some v) → (∀ b o, b < w.heap.size → M' b o = M b o) → Rd M' v (.sl 1 ((sortK ks).map PD.str)) →
      ∃ v_1 M' μ', Ending.returned v = Ending.returned v_1 ∧ Rel ⟨w.heap.size, w, M, μ, lentBy μ [(i, .vars 25 [.p (.sl 1 (ks.map PD.str))])]⟩ M' μ' ⟨[.p (.sl 1 ((sortK ks).map PD.str))], [], [], 0⟩ #[v_1] w' := by
    intro M' hM hmem hold hrd
    refine ⟨v, M', μ, rfl, hmem, hM, fun b o hb => hold b o (by have : ¬ w.heap.size ≤ b := fun e => hb (.inl e); omega), ⟨rfl, fun k u x hu hx => ?_⟩, fun i hi => by simp at hi, fun i b hi => by simp at hi, by simp, fun i j b hi => by simp [keyIn] at hi, fun i b hi => by simp [keyIn] at hi, hbel.size, ?_⟩
    · cases k with
      | zero => simp at hu hx; subst hu; subst hx; exact .p hrd
      | succ k => simp at hu
    · exact ⟨hbel.os, hbel.tape, hbel.output, hbel.size, fun k hk => hbel.block k (by have : ¬ w.heap.size ≤ k := fun e => hk (.inl e); omega)⟩
  have hsk := sortK_len ks
  rcases hrow.2 with ⟨rfl, hz⟩ | ⟨gb, cap, cur, rfl, hbase, hgb, r1, r2, r3, r4⟩
  · have hks : ks = [] := List.eq_nil_of_length_eq_zero hz
    subst hks
    refine base M (fun _ _ _ h => h) hkeep (fun _ _ _ => rfl) ?_
    exact .sl 0 0 (by simp [sortK]) (Nat.le_refl _) (by simp [maxLen]) (fun h => (h rfl).elim) (fun i e h => by simp [sortK] at h) (fun i e j h => by simp [sortK] at h) (fun i e j d u h => by simp [sortK] at h)
  · have hcell : ∀ j, w'.cell? ⟨gb, j, none⟩ = cur[j]? := fun j => cell_of_block hgb
    let M2 : FMap := fun b o => if b = gb ∧ o < ks.length then cur[o]? else M b o
    have hlt : ∀ b o v, M b o = some v → b < w.heap.size := fun b o v hv => lt_of_cell (rel.mem b o v hv)
    have hcur : ∀ j, j < ks.length → cur[j]? = some (encStr ((sortK ks)[j]?.getD [])) := fun j hj => by
      have h5 : (cur.toList.take (ks.length * 1))[j]? = ((sortK ks).map encStr)[j]? := by rw [r4]
      rw [List.getElem?_take_of_lt (by omega)] at h5
      rw [← Array.getElem?_toList, h5]; simp [show j < (sortK ks).length by omega]
    have hM2 : ∀ o, o < ks.length → M2 gb o = cur[o]? := fun o ho => if_pos ⟨rfl, ho⟩
    refine base M2 (fun b o v hv => ?_) (fun b o v hv => ?_) (fun b o hb => ?_) ?_
    · have := hlt b o v hv
      show (if b = gb ∧ o < ks.length then cur[o]? else M b o) = some v
      rw [if_neg (by omega)]; exact hv
    · have hv' : (if b = gb ∧ o < ks.length then cur[o]? else M b o) = some v := hv
      split at hv'
      · rename_i h; rw [h.1, hcell]; exact hv'
      · exact hkeep b o v hv'
    · show (if b = gb ∧ o < ks.length then cur[o]? else M b o) = M b o
      rw [if_neg (by omega)]
    · refine .sl gb 0 (by simp [hsk]) r1 r2 (fun _ => rfl) (fun j e he => ?_) (fun j e k he hk => ?_) (fun j e k d u he hd hu => ?_)
      · simp at he; obtain ⟨s, _, rfl⟩ := he; rfl
      · have hj : j < ks.length := by have := (List.getElem?_eq_some_iff.1 he).1; simp [hsk] at this; exact this
        obtain rfl : k = 0 := by omega
        refine ⟨_, by simp only [Nat.mul_one, Nat.add_zero, Nat.zero_add]; rw [hM2 j hj, hcur j hj], rfl⟩
      · have hj : j < ks.length := by have := (List.getElem?_eq_some_iff.1 he).1; simp [hsk] at this; exact this
        have hjs : j < (sortK ks).length := by omega
        simp [hjs] at he
        subst he
        cases k with
        | succ k => simp [PD.cells] at hd
        | zero =>
          simp [PD.cells] at hd
          subst hd
          simp at hu
          rw [hM2 j hj, hcur j hj] at hu
          simp [hjs] at hu
          subst hu
          refine .str (by simp [encStr]) ?_
          exact hsl _ ((List.mergeSort_perm ks _).mem_iff.1 (List.getElem_mem hjs))
end Go.Proofs.YtgoepemmcibdaaaDoor
namespace Go.Proofs.YtgoepemmcibdaaaDoor
open Sy Go
set_option maxRecDepth 100000
set_option linter.unusedSimpArgs false
set_option linter.unusedVariables false

/-- A decimal. -/
structure Dc where
  neg : Bool
  digits : List UInt8
  scale : Int
  deriving DecidableEq
@[simp] def Dc.enc (d : Dc) : PD := .agg [.bool d.neg, .str d.digits, .int .i64 d.scale]
/-- A value. -/
inductive Val where
  | mk (kind mask : Int) (num : Dc) (text : List UInt8) (keys : List (List UInt8)) (kids : List Val) (code : Int)
def Val.kind : Val → Int
  | .mk k _ _ _ _ _ _ => k
def Val.mask : Val → Int
  | .mk _ m _ _ _ _ _ => m
def Val.num : Val → Dc
  | .mk _ _ n _ _ _ _ => n
def Val.text : Val → List UInt8
  | .mk _ _ _ t _ _ _ => t
def Val.keys : Val → List (List UInt8)
  | .mk _ _ _ _ ks _ _ => ks
def Val.kids : Val → List Val
  | .mk _ _ _ _ _ vs _ => vs
def Val.code : Val → Int
  | .mk _ _ _ _ _ _ c => c
@[simp] theorem Val.kind_mk (k m : Int) (n : Dc) (t : List UInt8) (ks : List (List UInt8)) (vs : List Val) (c : Int) : (Val.mk k m n t ks vs c).kind = k := rfl
@[simp] theorem Val.mask_mk (k m : Int) (n : Dc) (t : List UInt8) (ks : List (List UInt8)) (vs : List Val) (c : Int) : (Val.mk k m n t ks vs c).mask = m := rfl
@[simp] theorem Val.num_mk (k m : Int) (n : Dc) (t : List UInt8) (ks : List (List UInt8)) (vs : List Val) (c : Int) : (Val.mk k m n t ks vs c).num = n := rfl
@[simp] theorem Val.text_mk (k m : Int) (n : Dc) (t : List UInt8) (ks : List (List UInt8)) (vs : List Val) (c : Int) : (Val.mk k m n t ks vs c).text = t := rfl
@[simp] theorem Val.keys_mk (k m : Int) (n : Dc) (t : List UInt8) (ks : List (List UInt8)) (vs : List Val) (c : Int) : (Val.mk k m n t ks vs c).keys = ks := rfl
@[simp] theorem Val.kids_mk (k m : Int) (n : Dc) (t : List UInt8) (ks : List (List UInt8)) (vs : List Val) (c : Int) : (Val.mk k m n t ks vs c).kids = vs := rfl
@[simp] theorem Val.code_mk (k m : Int) (n : Dc) (t : List UInt8) (ks : List (List UInt8)) (vs : List Val) (c : Int) : (Val.mk k m n t ks vs c).code = c := rfl
mutual
def Val.enc : Val → PD
  | .mk k m n t ks vs c => .agg [.int .i64 k, .int .u64 m, .bool n.neg, .str n.digits, .int .i64 n.scale, .str t, .sl 1 (ks.map PD.str), .sl 9 (Val.encL vs), .int .i64 c]
def Val.encL : List Val → List PD
  | [] => []
  | v :: vs => Val.enc v :: Val.encL vs
end
def dc0 : Dc := ⟨false, [], 0⟩
def nullV : Val := .mk 1 0 dc0 [] [] [] 0
theorem Val.encL_map : ∀ l, Val.encL l = l.map Val.enc
  | [] => by simp only [Val.encL, List.map_nil]
  | v :: vs => by simp only [Val.encL, List.map_cons, Val.encL_map vs]
@[simp] theorem Val.enc_def (v : Val) : v.enc = .agg [.int .i64 v.kind, .int .u64 v.mask, .bool v.num.neg, .str v.num.digits, .int .i64 v.num.scale, .str v.text, .sl 1 (v.keys.map PD.str), .sl 9 (v.kids.map Val.enc), .int .i64 v.code] := by
  cases v; simp only [Val.enc, Val.encL_map, Val.kind, Val.mask, Val.num, Val.text, Val.keys, Val.kids, Val.code]
mutual
def Val.sz : Val → Nat
  | .mk _ _ _ _ _ vs _ => 1 + Val.szL vs
def Val.szL : List Val → Nat
  | [] => 0
  | v :: vs => Val.sz v + Val.szL vs
end
theorem Val.szL_mem {k : Val} : ∀ {l : List Val}, k ∈ l → Val.sz k ≤ Val.szL l
  | v :: vs, h => by
    simp only [Val.szL]
    rcases List.mem_cons.1 h with rfl | h
    · omega
    · have := Val.szL_mem h; omega
theorem Val.sz_kid {v k : Val} (h : k ∈ v.kids) : Val.sz k < Val.sz v := by
  cases v; simp only [Val.kids] at h; simp only [Val.sz]; have := Val.szL_mem h; omega
theorem Val.induct {p : Val → Prop} (h : ∀ v, (∀ k ∈ v.kids, p k) → p v) (v : Val) : p v := by
  have key : ∀ n v, Val.sz v = n → p v := by
    intro n
    induction n using Nat.strongRecOn with
    | _ n ih => intro v hv; exact h v fun k hk => ih _ (hv ▸ Val.sz_kid hk) k rfl
  exact key _ v rfl
theorem Val.ext {a b : Val} (h1 : a.kind = b.kind) (h2 : a.mask = b.mask) (h3 : a.num = b.num) (h4 : a.text = b.text) (h5 : a.keys = b.keys) (h6 : a.kids = b.kids) (h7 : a.code = b.code) : a = b := by
  cases a; cases b; simp_all [Val.kind, Val.mask, Val.num, Val.text, Val.keys, Val.kids, Val.code]
theorem Dc.ext' {a b : Dc} (h1 : a.neg = b.neg) (h2 : a.digits = b.digits) (h3 : a.scale = b.scale) : a = b := by cases a; cases b; simp_all
end Go.Proofs.YtgoepemmcibdaaaDoor
namespace Go.Proofs.YtgoepemmcibdaaaDoor
open Sy Go
set_option maxRecDepth 100000
set_option maxHeartbeats 4000000
set_option linter.unusedSimpArgs false
set_option linter.unusedVariables false
variable {G : Glob}

/-- cmp.Compare of integers, and of texts. -/
def cmpI (a b : Int) : Int := if a < b then -1 else if b < a then 1 else 0
def cmpS (a b : List UInt8) : Int := if Op.bytesLess a b = true then -1 else if a = b then 0 else 1
/-- Rows are compared place by place, then by their lengths. -/
def cmpL {α : Type} (p : α → α → Int) : List α → List α → Int
  | [], [] => 0
  | [], _ :: _ => -1
  | _ :: _, [] => 1
  | x :: xs, y :: ys => if p x y ≠ 0 then p x y else cmpL p xs ys
theorem nanI_ev (a : Int) : AFn Tryd.prog G 45 [.int .i64 a] (.bool false) := by
  refine AFn.introU tok Tryd.func45 (by kernel_rfl) rfl rfl ?_
  simp only [Tryd.f45, enumA, List.map_cons, List.map_nil]
  refine AW.seqRegionO [] ?_
  refine AOpsO.one tok [0] (by intro C; conv => lhs; simp) (by first | with_reducible exact True.intro | omega | simp | (simp; omega) | (simp +contextual; omega)) rfl ?_
  refine AOpsO.nil ?_
  refine AW.seqRegionO [] ?_
  refine AOpsO.one tok [0, 3] (by intro C; conv => lhs; simp) (by first | with_reducible exact True.intro | omega | simp | (simp; omega) | (simp +contextual; omega)) rfl ?_
  refine AOpsO.one tok [3, 4] (by intro C; conv => lhs; simp) (by first | with_reducible exact True.intro | omega | simp | (simp; omega) | (simp +contextual; omega)) rfl ?_
  refine AOpsO.one tok [5] (by intro C; conv => lhs; simp) (by first | with_reducible exact True.intro | omega | simp | (simp; omega) | (simp +contextual; omega)) rfl ?_
  refine AOpsO.one tok [2] (by intro C; conv => lhs; simp) (by first | with_reducible exact True.intro | omega | simp | (simp; omega) | (simp +contextual; omega)) rfl ?_
  refine AOpsO.nil ?_
  exact AW.ret ⟨.inr rfl, _, _, by (conv => lhs; simp), trivial, by simp⟩
theorem nanE_ev (a : Int) : AFn Tryd.prog G 49 [.int .i64 a] (.bool false) := by
  refine AFn.introU tok Tryd.func49 (by kernel_rfl) rfl rfl ?_
  simp only [Tryd.f49, enumA, List.map_cons, List.map_nil]
  refine AW.seqRegionO [] ?_
  refine AOpsO.one tok [0] (by intro C; conv => lhs; simp) (by first | with_reducible exact True.intro | omega | simp | (simp; omega) | (simp +contextual; omega)) rfl ?_
  refine AOpsO.nil ?_
  refine AW.seqRegionO [] ?_
  refine AOpsO.one tok [0, 3] (by intro C; conv => lhs; simp) (by first | with_reducible exact True.intro | omega | simp | (simp; omega) | (simp +contextual; omega)) rfl ?_
  refine AOpsO.one tok [3, 4] (by intro C; conv => lhs; simp) (by first | with_reducible exact True.intro | omega | simp | (simp; omega) | (simp +contextual; omega)) rfl ?_
  refine AOpsO.one tok [5] (by intro C; conv => lhs; simp) (by first | with_reducible exact True.intro | omega | simp | (simp; omega) | (simp +contextual; omega)) rfl ?_
  refine AOpsO.one tok [2] (by intro C; conv => lhs; simp) (by first | with_reducible exact True.intro | omega | simp | (simp; omega) | (simp +contextual; omega)) rfl ?_
  refine AOpsO.nil ?_
  exact AW.ret ⟨.inr rfl, _, _, by (conv => lhs; simp), trivial, by simp⟩
theorem nanS_ev (a : List UInt8) : AFn Tryd.prog G 67 [.str a] (.bool false) := by
  refine AFn.introU tok Tryd.func67 (by kernel_rfl) rfl rfl ?_
  simp only [Tryd.f67, enumA, List.map_cons, List.map_nil]
  refine AW.seqRegionO [] ?_
  refine AOpsO.one tok [0] (by intro C; conv => lhs; simp) (by first | with_reducible exact True.intro | omega | simp | (simp; omega) | (simp +contextual; omega)) rfl ?_
  refine AOpsO.nil ?_
  refine AW.seqRegionO [] ?_
  refine AOpsO.one tok [0, 3] (by intro C; conv => lhs; simp) (by first | with_reducible exact True.intro | omega | simp | (simp; omega) | (simp +contextual; omega)) rfl ?_
  refine AOpsO.one tok [3, 4] (by intro C; conv => lhs; simp) (by first | with_reducible exact True.intro | omega | simp | (simp; omega) | (simp +contextual; omega)) rfl ?_
  refine AOpsO.one tok [5] (by intro C; conv => lhs; simp) (by first | with_reducible exact True.intro | omega | simp | (simp; omega) | (simp +contextual; omega)) rfl ?_
  refine AOpsO.one tok [2] (by intro C; conv => lhs; simp) (by first | with_reducible exact True.intro | omega | simp | (simp; omega) | (simp +contextual; omega)) rfl ?_
  refine AOpsO.nil ?_
  exact AW.ret ⟨.inr rfl, _, _, by (conv => lhs; simp), trivial, by simp⟩
theorem cmpI_ev (a b : Int) : AFn Tryd.prog G 24 [.int .i64 a, .int .i64 b] (.int .i64 (cmpI a b)) := by
  refine AFn.introU tok Tryd.func24 (by kernel_rfl) rfl rfl ?_
  simp only [Tryd.f24, enumA, List.map_cons, List.map_nil]
  refine AW.seqRegionO [] ?_
  refine AOpsO.one tok [0, 1] (by intro C; conv => lhs; simp) (by first | with_reducible exact True.intro | omega | simp | (simp; omega) | (simp +contextual; omega)) rfl ?_
  refine AOpsO.nil ?_
  refine AW.seqRegionO [.nilp, .bool false] ?_
  refine AOpsO.one tok [0, 1, 7] (by intro C; conv => lhs; simp) (by first | with_reducible exact True.intro | (exact nanI_ev a; done) | omega | simp | (simp; omega) | (simp +contextual; omega)) rfl ?_
  refine AOpsO.one tok [0, 1, 8] (by intro C; conv => lhs; simp) (by first | with_reducible exact True.intro | (exact nanI_ev a; done) | omega | simp | (simp; omega) | (simp +contextual; omega)) rfl ?_
  refine AOpsO.one tok [0, 1, 5] (by intro C; conv => lhs; simp) (by first | with_reducible exact True.intro | (exact nanI_ev a; done) | omega | simp | (simp; omega) | (simp +contextual; omega)) rfl ?_
  refine AOpsO.nil ?_
  refine AW.seqRegionO [.nilp, .bool false] ?_
  refine AOpsO.one tok [0, 1, 5, 9] (by intro C; conv => lhs; simp) (by first | with_reducible exact True.intro | (exact nanI_ev b; done) | omega | simp | (simp; omega) | (simp +contextual; omega)) rfl ?_
  refine AOpsO.one tok [0, 1, 5, 10] (by intro C; conv => lhs; simp) (by first | with_reducible exact True.intro | (exact nanI_ev b; done) | omega | simp | (simp; omega) | (simp +contextual; omega)) rfl ?_
  refine AOpsO.one tok [0, 1, 5, 6] (by intro C; conv => lhs; simp) (by first | with_reducible exact True.intro | (exact nanI_ev b; done) | omega | simp | (simp; omega) | (simp +contextual; omega)) rfl ?_
  refine AOpsO.nil ?_
  refine AW.seq ?_
  refine AW.seqRegionO [] ?_
  refine AOpsO.one tok [0, 1, 6, 11] (by intro C; conv => lhs; simp) (by first | with_reducible exact True.intro | omega | simp | (simp; omega) | (simp +contextual; omega)) rfl ?_
  refine AOpsO.nil ?_
  refine AW.cond (c := .tmp 11) (by conv => lhs; simp) trivial ?_ ?_
  · intro h11
    try simp at h11
  · intro h11
    try simp at h11
    refine AW.skip ?_
    refine AW.seq ?_
    refine AW.seqRegionO [] ?_
    refine AOpsO.one tok [0, 1, 13] (by intro C; conv => lhs; simp) (by first | with_reducible exact True.intro | omega | simp | (simp; omega) | (simp +contextual; omega)) rfl ?_
    refine AOpsO.nil ?_
    refine AW.cond (c := .tmp 13) (by conv => lhs; simp) trivial ?_ ?_
    · intro h13
      try simp at h13
    · intro h13
      try simp at h13
      refine AW.skip ?_
      refine AW.seq ?_
      refine AW.seqRegionO [] ?_
      refine AOpsO.one tok [0, 1, 14] (by intro C; conv => lhs; simp) (by first | with_reducible exact True.intro | omega | simp | (simp; omega) | (simp +contextual; omega)) rfl ?_
      refine AOpsO.one tok [0, 1, 14, 15] (by intro C; conv => lhs; simp) (by first | with_reducible exact True.intro | omega | simp | (simp; omega) | (simp +contextual; omega)) rfl ?_
      refine AOpsO.one tok [0, 1, 16] (by intro C; conv => lhs; simp) (by first | with_reducible exact True.intro | omega | simp | (simp; omega) | (simp +contextual; omega)) rfl ?_
      refine AOpsO.nil ?_
      refine AW.cond (c := .tmp 16) (by conv => lhs; simp) trivial ?_ ?_
      · intro h16
        try simp at h16
        refine AW.seqRegionO [] ?_
        refine AOpsO.one tok [4] (by intro C; conv => lhs; simp) (by first | with_reducible exact True.intro | omega | simp | (simp; omega) | (simp +contextual; omega)) rfl ?_
        refine AOpsO.nil ?_
        exact AW.ret ⟨.inr rfl, _, _, by (conv => lhs; simp), trivial, by simp [cmpI, h16]⟩
      · intro h16
        try simp at h16
        refine AW.skip ?_
        refine AW.seq ?_
        refine AW.seqRegionO [] ?_
        refine AOpsO.one tok [1, 17] (by intro C; conv => lhs; simp) (by first | with_reducible exact True.intro | omega | simp | (simp; omega) | (simp +contextual; omega)) rfl ?_
        refine AOpsO.one tok [17, 18] (by intro C; conv => lhs; simp) (by first | with_reducible exact True.intro | omega | simp | (simp; omega) | (simp +contextual; omega)) rfl ?_
        refine AOpsO.one tok [19] (by intro C; conv => lhs; simp) (by first | with_reducible exact True.intro | omega | simp | (simp; omega) | (simp +contextual; omega)) rfl ?_
        refine AOpsO.nil ?_
        refine AW.cond (c := .tmp 19) (by conv => lhs; simp) trivial ?_ ?_
        · intro h19
          try simp at h19
          refine AW.seqRegionO [] ?_
          refine AOpsO.one tok [4] (by intro C; conv => lhs; simp) (by first | with_reducible exact True.intro | omega | simp | (simp; omega) | (simp +contextual; omega)) rfl ?_
          refine AOpsO.nil ?_
          exact AW.ret ⟨.inr rfl, _, _, by (conv => lhs; simp), trivial, by simp [cmpI, h19]; omega⟩
        · intro h19
          try simp at h19
          refine AW.skip ?_
          refine AW.seqRegionO [] ?_
          refine AOpsO.one tok [4] (by intro C; conv => lhs; simp) (by first | with_reducible exact True.intro | omega | simp | (simp; omega) | (simp +contextual; omega)) rfl ?_
          refine AOpsO.nil ?_
          exact AW.ret ⟨.inr rfl, _, _, by (conv => lhs; simp), trivial, by simp [cmpI]; omega⟩
theorem cmpE_ev (a b : Int) : AFn Tryd.prog G 28 [.int .i64 a, .int .i64 b] (.int .i64 (cmpI a b)) := by
  refine AFn.introU tok Tryd.func28 (by kernel_rfl) rfl rfl ?_
  simp only [Tryd.f28, enumA, List.map_cons, List.map_nil]
  refine AW.seqRegionO [] ?_
  refine AOpsO.one tok [0, 1] (by intro C; conv => lhs; simp) (by first | with_reducible exact True.intro | omega | simp | (simp; omega) | (simp +contextual; omega)) rfl ?_
  refine AOpsO.nil ?_
  refine AW.seqRegionO [.nilp, .bool false] ?_
  refine AOpsO.one tok [0, 1, 7] (by intro C; conv => lhs; simp) (by first | with_reducible exact True.intro | (exact nanE_ev a; done) | omega | simp | (simp; omega) | (simp +contextual; omega)) rfl ?_
  refine AOpsO.one tok [0, 1, 8] (by intro C; conv => lhs; simp) (by first | with_reducible exact True.intro | (exact nanE_ev a; done) | omega | simp | (simp; omega) | (simp +contextual; omega)) rfl ?_
  refine AOpsO.one tok [0, 1, 5] (by intro C; conv => lhs; simp) (by first | with_reducible exact True.intro | (exact nanE_ev a; done) | omega | simp | (simp; omega) | (simp +contextual; omega)) rfl ?_
  refine AOpsO.nil ?_
  refine AW.seqRegionO [.nilp, .bool false] ?_
  refine AOpsO.one tok [0, 1, 5, 9] (by intro C; conv => lhs; simp) (by first | with_reducible exact True.intro | (exact nanE_ev b; done) | omega | simp | (simp; omega) | (simp +contextual; omega)) rfl ?_
  refine AOpsO.one tok [0, 1, 5, 10] (by intro C; conv => lhs; simp) (by first | with_reducible exact True.intro | (exact nanE_ev b; done) | omega | simp | (simp; omega) | (simp +contextual; omega)) rfl ?_
  refine AOpsO.one tok [0, 1, 5, 6] (by intro C; conv => lhs; simp) (by first | with_reducible exact True.intro | (exact nanE_ev b; done) | omega | simp | (simp; omega) | (simp +contextual; omega)) rfl ?_
  refine AOpsO.nil ?_
  refine AW.seq ?_
  refine AW.seqRegionO [] ?_
  refine AOpsO.one tok [0, 1, 6, 11] (by intro C; conv => lhs; simp) (by first | with_reducible exact True.intro | omega | simp | (simp; omega) | (simp +contextual; omega)) rfl ?_
  refine AOpsO.nil ?_
  refine AW.cond (c := .tmp 11) (by conv => lhs; simp) trivial ?_ ?_
  · intro h11
    try simp at h11
  · intro h11
    try simp at h11
    refine AW.skip ?_
    refine AW.seq ?_
    refine AW.seqRegionO [] ?_
    refine AOpsO.one tok [0, 1, 13] (by intro C; conv => lhs; simp) (by first | with_reducible exact True.intro | omega | simp | (simp; omega) | (simp +contextual; omega)) rfl ?_
    refine AOpsO.nil ?_
    refine AW.cond (c := .tmp 13) (by conv => lhs; simp) trivial ?_ ?_
    · intro h13
      try simp at h13
    · intro h13
      try simp at h13
      refine AW.skip ?_
      refine AW.seq ?_
      refine AW.seqRegionO [] ?_
      refine AOpsO.one tok [0, 1, 14] (by intro C; conv => lhs; simp) (by first | with_reducible exact True.intro | omega | simp | (simp; omega) | (simp +contextual; omega)) rfl ?_
      refine AOpsO.one tok [0, 1, 14, 15] (by intro C; conv => lhs; simp) (by first | with_reducible exact True.intro | omega | simp | (simp; omega) | (simp +contextual; omega)) rfl ?_
      refine AOpsO.one tok [0, 1, 16] (by intro C; conv => lhs; simp) (by first | with_reducible exact True.intro | omega | simp | (simp; omega) | (simp +contextual; omega)) rfl ?_
      refine AOpsO.nil ?_
      refine AW.cond (c := .tmp 16) (by conv => lhs; simp) trivial ?_ ?_
      · intro h16
        try simp at h16
        refine AW.seqRegionO [] ?_
        refine AOpsO.one tok [4] (by intro C; conv => lhs; simp) (by first | with_reducible exact True.intro | omega | simp | (simp; omega) | (simp +contextual; omega)) rfl ?_
        refine AOpsO.nil ?_
        exact AW.ret ⟨.inr rfl, _, _, by (conv => lhs; simp), trivial, by simp [cmpI, h16]⟩
      · intro h16
        try simp at h16
        refine AW.skip ?_
        refine AW.seq ?_
        refine AW.seqRegionO [] ?_
        refine AOpsO.one tok [1, 17] (by intro C; conv => lhs; simp) (by first | with_reducible exact True.intro | omega | simp | (simp; omega) | (simp +contextual; omega)) rfl ?_
        refine AOpsO.one tok [17, 18] (by intro C; conv => lhs; simp) (by first | with_reducible exact True.intro | omega | simp | (simp; omega) | (simp +contextual; omega)) rfl ?_
        refine AOpsO.one tok [19] (by intro C; conv => lhs; simp) (by first | with_reducible exact True.intro | omega | simp | (simp; omega) | (simp +contextual; omega)) rfl ?_
        refine AOpsO.nil ?_
        refine AW.cond (c := .tmp 19) (by conv => lhs; simp) trivial ?_ ?_
        · intro h19
          try simp at h19
          refine AW.seqRegionO [] ?_
          refine AOpsO.one tok [4] (by intro C; conv => lhs; simp) (by first | with_reducible exact True.intro | omega | simp | (simp; omega) | (simp +contextual; omega)) rfl ?_
          refine AOpsO.nil ?_
          exact AW.ret ⟨.inr rfl, _, _, by (conv => lhs; simp), trivial, by simp [cmpI, h19]; omega⟩
        · intro h19
          try simp at h19
          refine AW.skip ?_
          refine AW.seqRegionO [] ?_
          refine AOpsO.one tok [4] (by intro C; conv => lhs; simp) (by first | with_reducible exact True.intro | omega | simp | (simp; omega) | (simp +contextual; omega)) rfl ?_
          refine AOpsO.nil ?_
          exact AW.ret ⟨.inr rfl, _, _, by (conv => lhs; simp), trivial, by simp [cmpI]; omega⟩
theorem cmpS_ev (a b : List UInt8) : AFn Tryd.prog G 53 [.str a, .str b] (.int .i64 (cmpS a b)) := by
  refine AFn.introU tok Tryd.func53 (by kernel_rfl) rfl rfl ?_
  simp only [Tryd.f53, enumA, List.map_cons, List.map_nil]
  refine AW.seqRegionO [] ?_
  refine AOpsO.one tok [0, 1] (by intro C; conv => lhs; simp) (by first | with_reducible exact True.intro | omega | simp | (simp; omega) | (simp +contextual; omega)) rfl ?_
  refine AOpsO.nil ?_
  refine AW.seqRegionO [.nilp, .bool false] ?_
  refine AOpsO.one tok [0, 1, 7] (by intro C; conv => lhs; simp) (by first | with_reducible exact True.intro | (exact nanS_ev a; done) | omega | simp | (simp; omega) | (simp +contextual; omega)) rfl ?_
  refine AOpsO.one tok [0, 1, 8] (by intro C; conv => lhs; simp) (by first | with_reducible exact True.intro | (exact nanS_ev a; done) | omega | simp | (simp; omega) | (simp +contextual; omega)) rfl ?_
  refine AOpsO.one tok [0, 1, 5] (by intro C; conv => lhs; simp) (by first | with_reducible exact True.intro | (exact nanS_ev a; done) | omega | simp | (simp; omega) | (simp +contextual; omega)) rfl ?_
  refine AOpsO.nil ?_
  refine AW.seqRegionO [.nilp, .bool false] ?_
  refine AOpsO.one tok [0, 1, 5, 9] (by intro C; conv => lhs; simp) (by first | with_reducible exact True.intro | (exact nanS_ev b; done) | omega | simp | (simp; omega) | (simp +contextual; omega)) rfl ?_
  refine AOpsO.one tok [0, 1, 5, 10] (by intro C; conv => lhs; simp) (by first | with_reducible exact True.intro | (exact nanS_ev b; done) | omega | simp | (simp; omega) | (simp +contextual; omega)) rfl ?_
  refine AOpsO.one tok [0, 1, 5, 6] (by intro C; conv => lhs; simp) (by first | with_reducible exact True.intro | (exact nanS_ev b; done) | omega | simp | (simp; omega) | (simp +contextual; omega)) rfl ?_
  refine AOpsO.nil ?_
  refine AW.seq ?_
  refine AW.seqRegionO [] ?_
  refine AOpsO.one tok [0, 1, 6, 11] (by intro C; conv => lhs; simp) (by first | with_reducible exact True.intro | omega | simp | (simp; omega) | (simp +contextual; omega)) rfl ?_
  refine AOpsO.nil ?_
  refine AW.cond (c := .tmp 11) (by conv => lhs; simp) trivial ?_ ?_
  · intro h11
    try simp at h11
  · intro h11
    try simp at h11
    refine AW.skip ?_
    refine AW.seq ?_
    refine AW.seqRegionO [] ?_
    refine AOpsO.one tok [0, 1, 13] (by intro C; conv => lhs; simp) (by first | with_reducible exact True.intro | omega | simp | (simp; omega) | (simp +contextual; omega)) rfl ?_
    refine AOpsO.nil ?_
    refine AW.cond (c := .tmp 13) (by conv => lhs; simp) trivial ?_ ?_
    · intro h13
      try simp at h13
    · intro h13
      try simp at h13
      refine AW.skip ?_
      refine AW.seq ?_
      refine AW.seqRegionO [] ?_
      refine AOpsO.one tok [0, 1, 14] (by intro C; conv => lhs; simp) (by first | with_reducible exact True.intro | omega | simp | (simp; omega) | (simp +contextual; omega)) rfl ?_
      refine AOpsO.one tok [0, 1, 14, 15] (by intro C; conv => lhs; simp) (by first | with_reducible exact True.intro | omega | simp | (simp; omega) | (simp +contextual; omega)) rfl ?_
      refine AOpsO.one tok [0, 1, 16] (by intro C; conv => lhs; simp) (by first | with_reducible exact True.intro | omega | simp | (simp; omega) | (simp +contextual; omega)) rfl ?_
      refine AOpsO.nil ?_
      refine AW.cond (c := .tmp 16) (by conv => lhs; simp) trivial ?_ ?_
      · intro h16
        try simp at h16
        refine AW.seqRegionO [] ?_
        refine AOpsO.one tok [4] (by intro C; conv => lhs; simp) (by first | with_reducible exact True.intro | omega | simp | (simp; omega) | (simp +contextual; omega)) rfl ?_
        refine AOpsO.nil ?_
        exact AW.ret ⟨.inr rfl, _, _, by (conv => lhs; simp), trivial, by simp [cmpS, h16]⟩
      · intro h16
        try simp at h16
        refine AW.skip ?_
        refine AW.seq ?_
        refine AW.seqRegionO [] ?_
        refine AOpsO.one tok [1, 17] (by intro C; conv => lhs; simp) (by first | with_reducible exact True.intro | omega | simp | (simp; omega) | (simp +contextual; omega)) rfl ?_
        refine AOpsO.one tok [17, 18] (by intro C; conv => lhs; simp) (by first | with_reducible exact True.intro | omega | simp | (simp; omega) | (simp +contextual; omega)) rfl ?_
        refine AOpsO.one tok [19] (by intro C; conv => lhs; simp) (by first | with_reducible exact True.intro | omega | simp | (simp; omega) | (simp +contextual; omega)) rfl ?_
        refine AOpsO.nil ?_
        refine AW.cond (c := .tmp 19) (by conv => lhs; simp) trivial ?_ ?_
        · intro h19
          try simp at h19
          refine AW.seqRegionO [] ?_
          refine AOpsO.one tok [4] (by intro C; conv => lhs; simp) (by first | with_reducible exact True.intro | omega | simp | (simp; omega) | (simp +contextual; omega)) rfl ?_
          refine AOpsO.nil ?_
          exact AW.ret ⟨.inr rfl, _, _, by (conv => lhs; simp), trivial, by simp [cmpS, h19]⟩
        · intro h19
          try simp at h19
          have hab : a = b := h19 h16
          subst hab
          refine AW.skip ?_
          refine AW.seqRegionO [] ?_
          refine AOpsO.one tok [4] (by intro C; conv => lhs; simp) (by first | with_reducible exact True.intro | omega | simp | (simp; omega) | (simp +contextual; omega)) rfl ?_
          refine AOpsO.nil ?_
          exact AW.ret ⟨.inr rfl, _, _, by (conv => lhs; simp), trivial, by simp [cmpS, h16]⟩
theorem cmpL_nil {α : Type} (p : α → α → Int) (l : List α) : cmpL p l [] = if l = [] then 0 else 1 := by cases l <;> simp [cmpL]
theorem cmpL_drop {α : Type} {p : α → α → Int} {l m : List α} {k : Nat} {x y : α} (hx : l[k]? = some x) (hy : m[k]? = some y) : cmpL p (l.drop k) (m.drop k) = if p x y ≠ 0 then p x y else cmpL p (l.drop (k + 1)) (m.drop (k + 1)) := by
  obtain ⟨h1, rfl⟩ := List.getElem?_eq_some_iff.1 hx
  obtain ⟨h2, rfl⟩ := List.getElem?_eq_some_iff.1 hy
  rw [List.drop_eq_getElem_cons h1, List.drop_eq_getElem_cons h2]; rfl
theorem cmpL_long {α : Type} {p : α → α → Int} {l m : List α} {k : Nat} (h1 : k < l.length) (h2 : m.length ≤ k) : cmpL p (l.drop k) (m.drop k) = 1 := by
  rw [List.drop_eq_nil_of_le h2, cmpL_nil, if_neg (by intro h; have := congrArg List.length h; simp at this; omega)]
theorem cmpL_end {α : Type} {p : α → α → Int} {l m : List α} {k : Nat} (h1 : l.length ≤ k) (hk : k ≤ l.length) (h2 : k ≤ m.length) : cmpL p (l.drop k) (m.drop k) = if l.length < m.length then -1 else 0 := by
  rw [List.drop_eq_nil_of_le h1]
  by_cases h : k < m.length
  · rw [List.drop_eq_getElem_cons h, if_pos (by omega)]; rfl
  · rw [List.drop_eq_nil_of_le (by omega), if_neg (by omega)]; rfl
theorem cmpSL_ev (l m : List (List UInt8)) : AFn Tryd.prog G 31 [.sl 1 (l.map PD.str), .sl 1 (m.map PD.str)] (.int .i64 (cmpL cmpS l m)) := by
  refine AFn.introU tok Tryd.func31 (by kernel_rfl) rfl rfl ?_
  simp only [Tryd.f31, enumA, List.map_cons, List.map_nil]
  refine AW.seqRegionO [] ?_
  refine AOpsO.one tok [0, 1] (by intro C; conv => lhs; simp) (by first | with_reducible exact True.intro | omega | simp | (simp; omega) | (simp +contextual; omega)) rfl ?_
  refine AOpsO.nil ?_
  refine AW.seq ?_
  refine AW.seqRegionO [] ?_
  refine AOpsO.one tok [0, 1, 9] (by intro C; conv => lhs; simp) (by first | with_reducible exact True.intro | omega | simp | (simp; omega) | (simp +contextual; omega)) rfl ?_
  refine AOpsO.one tok [0, 1, 9, 10] (by intro C; conv => lhs; simp) (by first | with_reducible exact True.intro | omega | simp | (simp; omega) | (simp +contextual; omega)) rfl ?_
  refine AOpsO.one tok [0, 1, 9, 10, 11] (by intro C; conv => lhs; simp) (by first | with_reducible exact True.intro | omega | simp | (simp; omega) | (simp +contextual; omega)) rfl ?_
  refine AOpsO.nil ?_
  refine AW.block ?_
  refine AW.intFactU (i := 10) rfl (by decide) ?_; intro hlen; simp at hlen
  refine AW.loop (α := Nat) (fun k => k ≤ l.length ∧ k ≤ m.length ∧ cmpL cmpS l m = cmpL cmpS (l.drop k) (m.drop k)) (fun k => ⟨upds 36 [(0, .p (.sl 1 (l.map PD.str))), (1, .p (.sl 1 (m.map PD.str))), (9, .p (.sl 1 (l.map PD.str))), (10, .p (.int .i64 l.length)), (11, .p (.int .i64 k))], [], [], 0⟩) (fun k => l.length - k) (0) ⟨by omega, by omega, rfl⟩ ⟨upds_le (by simp), rfl, by simp, by simp⟩ ?_
  rintro k ⟨hk, hkm, hall⟩
  refine AW.seqRegionO [] ?_
  refine AOpsO.one tok [0, 1, 9, 10, 11, 12] (by intro C; conv => lhs; simp) (by first | with_reducible exact True.intro | omega | simp | (simp; omega) | (simp +contextual; omega)) rfl ?_
  refine AOpsO.nil ?_
  refine AW.seq ?_
  refine AW.cond (c := .tmp 12) (by conv => lhs; simp) trivial ?_ ?_
  · intro h12
    try simp at h12
    obtain ⟨x, hx⟩ : ∃ x, l[k]? = some x := ⟨l[k], by simp [h12]⟩
    refine AW.skip ?_
    refine AW.seq ?_
    refine AW.block ?_
    refine AW.seqRegionO [.str x] ?_
    refine AOpsO.one tok [0, 1, 9, 10, 11, 13] (by intro C; conv => lhs; simp) (by first | with_reducible exact True.intro | (simp [hx]; done) | omega | simp | (simp; omega) | (simp +contextual; omega)) rfl ?_
    refine AOpsO.one tok [0, 1, 9, 10, 11, 13, 14] (by intro C; conv => lhs; simp) (by first | with_reducible exact True.intro | (simp [hx]; done) | omega | simp | (simp; omega) | (simp +contextual; omega)) rfl ?_
    refine AOpsO.one tok [0, 1, 9, 10, 11, 13, 15] (by intro C; conv => lhs; simp) (by first | with_reducible exact True.intro | (simp [hx]; done) | omega | simp | (simp; omega) | (simp +contextual; omega)) rfl ?_
    refine AOpsO.one tok [0, 1, 5, 9, 10, 11, 15] (by intro C; conv => lhs; simp) (by first | with_reducible exact True.intro | (simp [hx]; done) | omega | simp | (simp; omega) | (simp +contextual; omega)) rfl ?_
    refine AOpsO.one tok [0, 1, 5, 6, 9, 10, 11] (by intro C; conv => lhs; simp) (by first | with_reducible exact True.intro | (simp [hx]; done) | omega | simp | (simp; omega) | (simp +contextual; omega)) rfl ?_
    refine AOpsO.nil ?_
    refine AW.seq ?_
    refine AW.seqRegionO [] ?_
    refine AOpsO.one tok [0, 1, 5, 6, 9, 10, 11, 16] (by intro C; conv => lhs; simp) (by first | with_reducible exact True.intro | omega | simp | (simp; omega) | (simp +contextual; omega)) rfl ?_
    refine AOpsO.one tok [0, 1, 5, 6, 9, 10, 11, 16, 17] (by intro C; conv => lhs; simp) (by first | with_reducible exact True.intro | omega | simp | (simp; omega) | (simp +contextual; omega)) rfl ?_
    refine AOpsO.one tok [0, 1, 5, 6, 9, 10, 11, 16, 18] (by intro C; conv => lhs; simp) (by first | with_reducible exact True.intro | omega | simp | (simp; omega) | (simp +contextual; omega)) rfl ?_
    refine AOpsO.one tok [0, 1, 5, 6, 9, 10, 11, 19] (by intro C; conv => lhs; simp) (by first | with_reducible exact True.intro | omega | simp | (simp; omega) | (simp +contextual; omega)) rfl ?_
    refine AOpsO.nil ?_
    refine AW.cond (c := .tmp 19) (by conv => lhs; simp) trivial ?_ ?_
    · intro h19
      try simp at h19
      have hR : cmpL cmpS l m = 1 := by rw [hall]; exact cmpL_long (by omega) (by omega)
      refine AW.seqRegionO [] ?_
      refine AOpsO.one tok [4] (by intro C; conv => lhs; simp) (by first | with_reducible exact True.intro | omega | simp | (simp; omega) | (simp +contextual; omega)) rfl ?_
      refine AOpsO.nil ?_
      exact AW.ret ⟨.inr rfl, _, _, by (conv => lhs; simp), trivial, by simp [hR]⟩
    · intro h19
      try simp at h19
      obtain ⟨y, hy⟩ : ∃ y, m[k]? = some y := ⟨m[k]'(by omega), by simp [show k < m.length by omega]⟩
      have hst := cmpL_drop (p := cmpS) hx hy
      refine AW.skip ?_
      refine AW.seqRegionO [.str y] ?_
      refine AOpsO.one tok [0, 1, 5, 6, 9, 10, 11, 20] (by intro C; conv => lhs; simp) (by first | with_reducible exact True.intro | (simp [hy]; done) | omega | simp | (simp; omega) | (simp +contextual; omega)) rfl ?_
      refine AOpsO.one tok [0, 1, 6, 9, 10, 11, 20, 21] (by intro C; conv => lhs; simp) (by first | with_reducible exact True.intro | (simp [hy]; done) | omega | simp | (simp; omega) | (simp +contextual; omega)) rfl ?_
      refine AOpsO.one tok [0, 1, 6, 9, 10, 11, 22] (by intro C; conv => lhs; simp) (by first | with_reducible exact True.intro | (simp [hy]; done) | omega | simp | (simp; omega) | (simp +contextual; omega)) rfl ?_
      refine AOpsO.one tok [0, 1, 6, 9, 10, 11, 23] (by intro C; conv => lhs; simp) (by first | with_reducible exact True.intro | (simp [hy]; done) | omega | simp | (simp; omega) | (simp +contextual; omega)) rfl ?_
      refine AOpsO.one tok [0, 1, 6, 7, 9, 10, 11] (by intro C; conv => lhs; simp) (by first | with_reducible exact True.intro | (simp [hy]; done) | omega | simp | (simp; omega) | (simp +contextual; omega)) rfl ?_
      refine AOpsO.nil ?_
      refine AW.seqRegionO [.nilp, .int .i64 (cmpS x y)] ?_
      refine AOpsO.one tok [0, 1, 7, 9, 10, 11, 24] (by intro C; conv => lhs; simp) (by first | with_reducible exact True.intro | (exact cmpS_ev x y; done) | omega | simp | (simp; omega) | (simp +contextual; omega)) rfl ?_
      refine AOpsO.one tok [0, 1, 9, 10, 11, 24, 25] (by intro C; conv => lhs; simp) (by first | with_reducible exact True.intro | (exact cmpS_ev x y; done) | omega | simp | (simp; omega) | (simp +contextual; omega)) rfl ?_
      refine AOpsO.one tok [0, 1, 9, 10, 11, 26] (by intro C; conv => lhs; simp) (by first | with_reducible exact True.intro | (exact cmpS_ev x y; done) | omega | simp | (simp; omega) | (simp +contextual; omega)) rfl ?_
      refine AOpsO.one tok [0, 1, 8, 9, 10, 11] (by intro C; conv => lhs; simp) (by first | with_reducible exact True.intro | (exact cmpS_ev x y; done) | omega | simp | (simp; omega) | (simp +contextual; omega)) rfl ?_
      refine AOpsO.nil ?_
      refine AW.seqRegionO [] ?_
      refine AOpsO.one tok [0, 1, 8, 9, 10, 11, 27] (by intro C; conv => lhs; simp) (by first | with_reducible exact True.intro | omega | simp | (simp; omega) | (simp +contextual; omega)) rfl ?_
      refine AOpsO.one tok [0, 1, 8, 9, 10, 11, 28] (by intro C; conv => lhs; simp) (by first | with_reducible exact True.intro | omega | simp | (simp; omega) | (simp +contextual; omega)) rfl ?_
      refine AOpsO.nil ?_
      refine AW.cond (c := .tmp 28) (by conv => lhs; simp) trivial ?_ ?_
      · intro h28
        try simp at h28
        have hR : cmpL cmpS l m = cmpS x y := by rw [hall, hst, if_pos h28]
        refine AW.seqRegionO [] ?_
        refine AOpsO.one tok [29] (by intro C; conv => lhs; simp) (by first | with_reducible exact True.intro | omega | simp | (simp; omega) | (simp +contextual; omega)) rfl ?_
        refine AOpsO.one tok [4] (by intro C; conv => lhs; simp) (by first | with_reducible exact True.intro | omega | simp | (simp; omega) | (simp +contextual; omega)) rfl ?_
        refine AOpsO.nil ?_
        exact AW.ret ⟨.inr rfl, _, _, by (conv => lhs; simp), trivial, by simp [hR]⟩
      · intro h28
        try simp at h28
        have hnx : cmpL cmpS l m = cmpL cmpS (l.drop (k + 1)) (m.drop (k + 1)) := by rw [hall, hst, if_neg (by omega)]
        refine AW.skip ?_
        refine AW.regionO [] ?_
        refine AOpsO.one tok [0, 1, 9, 10, 30] (by intro C; conv => lhs; simp) (by first | with_reducible exact True.intro | omega | simp | (simp; omega) | (simp +contextual; omega)) rfl ?_
        refine AOpsO.one tok [0, 1, 9, 10, 11] (by intro C; conv => lhs; simp) (by first | with_reducible exact True.intro | omega | simp | (simp; omega) | (simp +contextual; omega)) rfl ?_
        refine AOpsO.nil ?_
        exact ⟨k + 1, ⟨by omega, by omega, hnx⟩, by omega, upds_le (by simp), rfl, by simp, by simp⟩
  · intro h12
    try simp at h12
    have hE := cmpL_end (p := cmpS) (l := l) (m := m) (k := k) (by omega) hk hkm
    rw [← hall] at hE
    refine AW.exit ?_
    simp
    refine AW.seq ?_
    refine AW.seqRegionO [] ?_
    refine AOpsO.one tok [1, 31] (by intro C; conv => lhs; simp) (by first | with_reducible exact True.intro | omega | simp | (simp; omega) | (simp +contextual; omega)) rfl ?_
    refine AOpsO.one tok [1, 32] (by intro C; conv => lhs; simp) (by first | with_reducible exact True.intro | omega | simp | (simp; omega) | (simp +contextual; omega)) rfl ?_
    refine AOpsO.one tok [32, 33] (by intro C; conv => lhs; simp) (by first | with_reducible exact True.intro | omega | simp | (simp; omega) | (simp +contextual; omega)) rfl ?_
    refine AOpsO.one tok [32, 34] (by intro C; conv => lhs; simp) (by first | with_reducible exact True.intro | omega | simp | (simp; omega) | (simp +contextual; omega)) rfl ?_
    refine AOpsO.one tok [35] (by intro C; conv => lhs; simp) (by first | with_reducible exact True.intro | omega | simp | (simp; omega) | (simp +contextual; omega)) rfl ?_
    refine AOpsO.nil ?_
    refine AW.cond (c := .tmp 35) (by conv => lhs; simp) trivial ?_ ?_
    · intro h35
      try simp at h35
      have hR : cmpL cmpS l m = -1 := by rw [hE, if_pos (by omega)]
      refine AW.seqRegionO [] ?_
      refine AOpsO.one tok [4] (by intro C; conv => lhs; simp) (by first | with_reducible exact True.intro | omega | simp | (simp; omega) | (simp +contextual; omega)) rfl ?_
      refine AOpsO.nil ?_
      exact AW.ret ⟨.inr rfl, _, _, by (conv => lhs; simp), trivial, by simp [hR]⟩
    · intro h35
      try simp at h35
      have hR : cmpL cmpS l m = 0 := by rw [hE, if_neg (by omega)]
      refine AW.skip ?_
      refine AW.seqRegionO [] ?_
      refine AOpsO.one tok [4] (by intro C; conv => lhs; simp) (by first | with_reducible exact True.intro | omega | simp | (simp; omega) | (simp +contextual; omega)) rfl ?_
      refine AOpsO.nil ?_
      exact AW.ret ⟨.inr rfl, _, _, by (conv => lhs; simp), trivial, by simp [hR]⟩
theorem cmpVL_ev (l m : List Val) (g : FuncId) (p : Val → Val → Int) (hg : ∀ x ∈ l, ∀ y ∈ m, AFn Tryd.prog G g [x.enc, y.enc] (.int .i64 (p x y))) : AFn Tryd.prog G 27 [.sl 9 (l.map Val.enc), .sl 9 (m.map Val.enc), .fn g] (.int .i64 (cmpL p l m)) := by
  refine AFn.introU tok Tryd.func27 (by kernel_rfl) rfl rfl ?_
  simp only [Tryd.f27, enumA, List.map_cons, List.map_nil]
  refine AW.seqRegionO [] ?_
  refine AOpsO.one tok [0, 1, 2] (by intro C; conv => lhs; simp) (by first | with_reducible exact True.intro | omega | simp | (simp; omega) | (simp +contextual; omega)) rfl ?_
  refine AOpsO.nil ?_
  refine AW.seq ?_
  refine AW.seqRegionO [] ?_
  refine AOpsO.one tok [0, 1, 2, 11] (by intro C; conv => lhs; simp) (by first | with_reducible exact True.intro | omega | simp | (simp; omega) | (simp +contextual; omega)) rfl ?_
  refine AOpsO.one tok [0, 1, 2, 11, 12] (by intro C; conv => lhs; simp) (by first | with_reducible exact True.intro | omega | simp | (simp; omega) | (simp +contextual; omega)) rfl ?_
  refine AOpsO.one tok [0, 1, 2, 11, 12, 13] (by intro C; conv => lhs; simp) (by first | with_reducible exact True.intro | omega | simp | (simp; omega) | (simp +contextual; omega)) rfl ?_
  refine AOpsO.nil ?_
  refine AW.block ?_
  refine AW.intFactU (i := 12) rfl (by decide) ?_; intro hlen; simp at hlen
  refine AW.loop (α := Nat) (fun k => k ≤ l.length ∧ k ≤ m.length ∧ cmpL p l m = cmpL p (l.drop k) (m.drop k)) (fun k => ⟨upds 39 [(0, .p (.sl 9 (l.map Val.enc))), (1, .p (.sl 9 (m.map Val.enc))), (2, .p (.fn g)), (11, .p (.sl 9 (l.map Val.enc))), (12, .p (.int .i64 l.length)), (13, .p (.int .i64 k))], [], [], 0⟩) (fun k => l.length - k) (0) ⟨by omega, by omega, rfl⟩ ⟨upds_le (by simp), rfl, by simp, by simp⟩ ?_
  rintro k ⟨hk, hkm, hall⟩
  refine AW.seqRegionO [] ?_
  refine AOpsO.one tok [0, 1, 2, 11, 12, 13, 14] (by intro C; conv => lhs; simp) (by first | with_reducible exact True.intro | omega | simp | (simp; omega) | (simp +contextual; omega)) rfl ?_
  refine AOpsO.nil ?_
  refine AW.seq ?_
  refine AW.cond (c := .tmp 14) (by conv => lhs; simp) trivial ?_ ?_
  · intro h14
    try simp at h14
    obtain ⟨x, hx⟩ : ∃ x, l[k]? = some x := ⟨l[k], by simp [h14]⟩
    refine AW.skip ?_
    refine AW.seq ?_
    refine AW.block ?_
    refine AW.seqRegionO [x.enc] ?_
    refine AOpsO.one tok [0, 1, 2, 11, 12, 13, 15] (by intro C; conv => lhs; simp) (by first | with_reducible exact True.intro | (simp [hx]; done) | omega | simp | (simp; omega) | (simp +contextual; omega)) rfl ?_
    refine AOpsO.one tok [0, 1, 2, 11, 12, 13, 15, 16] (by intro C; conv => lhs; simp) (by first | with_reducible exact True.intro | (simp [hx]; done) | omega | simp | (simp; omega) | (simp +contextual; omega)) rfl ?_
    refine AOpsO.one tok [0, 1, 2, 11, 12, 13, 15, 17] (by intro C; conv => lhs; simp) (by first | with_reducible exact True.intro | (simp [hx]; done) | omega | simp | (simp; omega) | (simp +contextual; omega)) rfl ?_
    refine AOpsO.one tok [0, 1, 2, 8, 11, 12, 13, 15, 17] (by intro C; conv => lhs; simp) (by first | with_reducible exact True.intro | (simp [hx]; done) | omega | simp | (simp; omega) | (simp +contextual; omega)) rfl ?_
    refine AOpsO.one tok [0, 1, 2, 7, 8, 11, 12, 13, 17] (by intro C; conv => lhs; simp) (by first | with_reducible exact True.intro | (simp [hx]; done) | omega | simp | (simp; omega) | (simp +contextual; omega)) rfl ?_
    refine AOpsO.one tok [0, 1, 2, 7, 8, 11, 12, 13] (by intro C; conv => lhs; simp) (by first | with_reducible exact True.intro | (simp [hx]; done) | omega | simp | (simp; omega) | (simp +contextual; omega)) rfl ?_
    refine AOpsO.nil ?_
    refine AW.seq ?_
    refine AW.seqRegionO [] ?_
    refine AOpsO.one tok [0, 1, 2, 7, 8, 11, 12, 13, 18] (by intro C; conv => lhs; simp) (by first | with_reducible exact True.intro | omega | simp | (simp; omega) | (simp +contextual; omega)) rfl ?_
    refine AOpsO.one tok [0, 1, 2, 7, 8, 11, 12, 13, 18, 19] (by intro C; conv => lhs; simp) (by first | with_reducible exact True.intro | omega | simp | (simp; omega) | (simp +contextual; omega)) rfl ?_
    refine AOpsO.one tok [0, 1, 2, 7, 8, 11, 12, 13, 18, 20] (by intro C; conv => lhs; simp) (by first | with_reducible exact True.intro | omega | simp | (simp; omega) | (simp +contextual; omega)) rfl ?_
    refine AOpsO.one tok [0, 1, 2, 7, 8, 11, 12, 13, 21] (by intro C; conv => lhs; simp) (by first | with_reducible exact True.intro | omega | simp | (simp; omega) | (simp +contextual; omega)) rfl ?_
    refine AOpsO.nil ?_
    refine AW.cond (c := .tmp 21) (by conv => lhs; simp) trivial ?_ ?_
    · intro h21
      try simp at h21
      have hR : cmpL p l m = 1 := by rw [hall]; exact cmpL_long (by omega) (by omega)
      refine AW.seqRegionO [] ?_
      refine AOpsO.one tok [6] (by intro C; conv => lhs; simp) (by first | with_reducible exact True.intro | omega | simp | (simp; omega) | (simp +contextual; omega)) rfl ?_
      refine AOpsO.nil ?_
      exact AW.ret ⟨.inr rfl, _, _, by (conv => lhs; simp), trivial, by simp [hR]⟩
    · intro h21
      try simp at h21
      obtain ⟨y, hy⟩ : ∃ y, m[k]? = some y := ⟨m[k]'(by omega), by simp [show k < m.length by omega]⟩
      have hst := cmpL_drop (p := p) hx hy
      have hgv := hg x (List.mem_of_getElem? hx) y (List.mem_of_getElem? hy)
      refine AW.skip ?_
      refine AW.seqRegionO [y.enc] ?_
      refine AOpsO.one tok [0, 1, 2, 7, 8, 11, 12, 13, 22] (by intro C; conv => lhs; simp) (by first | with_reducible exact True.intro | (simp [hy]; done) | omega | simp | (simp; omega) | (simp +contextual; omega)) rfl ?_
      refine AOpsO.one tok [0, 1, 2, 8, 11, 12, 13, 22, 23] (by intro C; conv => lhs; simp) (by first | with_reducible exact True.intro | (simp [hy]; done) | omega | simp | (simp; omega) | (simp +contextual; omega)) rfl ?_
      refine AOpsO.one tok [0, 1, 2, 8, 11, 12, 13, 24] (by intro C; conv => lhs; simp) (by first | with_reducible exact True.intro | (simp [hy]; done) | omega | simp | (simp; omega) | (simp +contextual; omega)) rfl ?_
      refine AOpsO.one tok [0, 1, 2, 8, 11, 12, 13, 25] (by intro C; conv => lhs; simp) (by first | with_reducible exact True.intro | (simp [hy]; done) | omega | simp | (simp; omega) | (simp +contextual; omega)) rfl ?_
      refine AOpsO.one tok [0, 1, 2, 8, 9, 11, 12, 13, 25] (by intro C; conv => lhs; simp) (by first | with_reducible exact True.intro | (simp [hy]; done) | omega | simp | (simp; omega) | (simp +contextual; omega)) rfl ?_
      refine AOpsO.one tok [0, 1, 2, 8, 9, 11, 12, 13] (by intro C; conv => lhs; simp) (by first | with_reducible exact True.intro | (simp [hy]; done) | omega | simp | (simp; omega) | (simp +contextual; omega)) rfl ?_
      refine AOpsO.nil ?_
      refine AW.seqRegionO [.tup [x.enc, y.enc], .int .i64 (p x y)] ?_
      refine AOpsO.one tok [0, 1, 2, 8, 9, 11, 12, 13, 26] (by intro C; conv => lhs; simp) (by first | with_reducible exact True.intro | ((simp at hgv ⊢; exact hgv); done) | omega | simp | (simp; omega) | (simp +contextual; omega)) rfl ?_
      refine AOpsO.one tok [0, 1, 2, 9, 11, 12, 13, 26, 27] (by intro C; conv => lhs; simp) (by first | with_reducible exact True.intro | ((simp at hgv ⊢; exact hgv); done) | omega | simp | (simp; omega) | (simp +contextual; omega)) rfl ?_
      refine AOpsO.one tok [0, 1, 2, 11, 12, 13, 26, 27, 28] (by intro C; conv => lhs; simp) (by first | with_reducible exact True.intro | ((simp at hgv ⊢; exact hgv); done) | omega | simp | (simp; omega) | (simp +contextual; omega)) rfl ?_
      refine AOpsO.one tok [0, 1, 2, 11, 12, 13, 29] (by intro C; conv => lhs; simp) (by first | with_reducible exact True.intro | ((simp at hgv ⊢; exact hgv); done) | omega | simp | (simp; omega) | (simp +contextual; omega)) rfl ?_
      refine AOpsO.one tok [0, 1, 2, 10, 11, 12, 13] (by intro C; conv => lhs; simp) (by first | with_reducible exact True.intro | ((simp at hgv ⊢; exact hgv); done) | omega | simp | (simp; omega) | (simp +contextual; omega)) rfl ?_
      refine AOpsO.nil ?_
      refine AW.seqRegionO [] ?_
      refine AOpsO.one tok [0, 1, 2, 10, 11, 12, 13, 30] (by intro C; conv => lhs; simp) (by first | with_reducible exact True.intro | omega | simp | (simp; omega) | (simp +contextual; omega)) rfl ?_
      refine AOpsO.one tok [0, 1, 2, 10, 11, 12, 13, 31] (by intro C; conv => lhs; simp) (by first | with_reducible exact True.intro | omega | simp | (simp; omega) | (simp +contextual; omega)) rfl ?_
      refine AOpsO.nil ?_
      refine AW.cond (c := .tmp 31) (by conv => lhs; simp) trivial ?_ ?_
      · intro h31
        try simp at h31
        have hR : cmpL p l m = p x y := by rw [hall, hst, if_pos h31]
        refine AW.seqRegionO [] ?_
        refine AOpsO.one tok [32] (by intro C; conv => lhs; simp) (by first | with_reducible exact True.intro | omega | simp | (simp; omega) | (simp +contextual; omega)) rfl ?_
        refine AOpsO.one tok [6] (by intro C; conv => lhs; simp) (by first | with_reducible exact True.intro | omega | simp | (simp; omega) | (simp +contextual; omega)) rfl ?_
        refine AOpsO.nil ?_
        exact AW.ret ⟨.inr rfl, _, _, by (conv => lhs; simp), trivial, by simp [hR]⟩
      · intro h31
        try simp at h31
        have hnx : cmpL p l m = cmpL p (l.drop (k + 1)) (m.drop (k + 1)) := by rw [hall, hst, if_neg (by omega)]
        refine AW.skip ?_
        refine AW.regionO [] ?_
        refine AOpsO.one tok [0, 1, 2, 11, 12, 33] (by intro C; conv => lhs; simp) (by first | with_reducible exact True.intro | omega | simp | (simp; omega) | (simp +contextual; omega)) rfl ?_
        refine AOpsO.one tok [0, 1, 2, 11, 12, 13] (by intro C; conv => lhs; simp) (by first | with_reducible exact True.intro | omega | simp | (simp; omega) | (simp +contextual; omega)) rfl ?_
        refine AOpsO.nil ?_
        exact ⟨k + 1, ⟨by omega, by omega, hnx⟩, by omega, upds_le (by simp), rfl, by simp, by simp⟩
  · intro h14
    try simp at h14
    have hE := cmpL_end (p := p) (l := l) (m := m) (k := k) (by omega) hk hkm
    rw [← hall] at hE
    refine AW.exit ?_
    simp
    refine AW.seq ?_
    refine AW.seqRegionO [] ?_
    refine AOpsO.one tok [1, 34] (by intro C; conv => lhs; simp) (by first | with_reducible exact True.intro | omega | simp | (simp; omega) | (simp +contextual; omega)) rfl ?_
    refine AOpsO.one tok [1, 35] (by intro C; conv => lhs; simp) (by first | with_reducible exact True.intro | omega | simp | (simp; omega) | (simp +contextual; omega)) rfl ?_
    refine AOpsO.one tok [35, 36] (by intro C; conv => lhs; simp) (by first | with_reducible exact True.intro | omega | simp | (simp; omega) | (simp +contextual; omega)) rfl ?_
    refine AOpsO.one tok [35, 37] (by intro C; conv => lhs; simp) (by first | with_reducible exact True.intro | omega | simp | (simp; omega) | (simp +contextual; omega)) rfl ?_
    refine AOpsO.one tok [38] (by intro C; conv => lhs; simp) (by first | with_reducible exact True.intro | omega | simp | (simp; omega) | (simp +contextual; omega)) rfl ?_
    refine AOpsO.nil ?_
    refine AW.cond (c := .tmp 38) (by conv => lhs; simp) trivial ?_ ?_
    · intro h38
      try simp at h38
      have hR : cmpL p l m = -1 := by rw [hE, if_pos (by omega)]
      refine AW.seqRegionO [] ?_
      refine AOpsO.one tok [6] (by intro C; conv => lhs; simp) (by first | with_reducible exact True.intro | omega | simp | (simp; omega) | (simp +contextual; omega)) rfl ?_
      refine AOpsO.nil ?_
      exact AW.ret ⟨.inr rfl, _, _, by (conv => lhs; simp), trivial, by simp [hR]⟩
    · intro h38
      try simp at h38
      have hR : cmpL p l m = 0 := by rw [hE, if_neg (by omega)]
      refine AW.skip ?_
      refine AW.seqRegionO [] ?_
      refine AOpsO.one tok [6] (by intro C; conv => lhs; simp) (by first | with_reducible exact True.intro | omega | simp | (simp; omega) | (simp +contextual; omega)) rfl ?_
      refine AOpsO.nil ?_
      exact AW.ret ⟨.inr rfl, _, _, by (conv => lhs; simp), trivial, by simp [hR]⟩
def idxK (ks : List (List UInt8)) (s : List UInt8) : Int := if s ∈ ks then (ks.idxOf s : Int) else -1
theorem idxK_ev (l : List (List UInt8)) (s : List UInt8) : AFn Tryd.prog G 52 [.sl 1 (l.map PD.str), .str s] (.int .i64 (idxK l s)) := by
  refine AFn.introU tok Tryd.func52 (by kernel_rfl) rfl rfl ?_
  simp only [Tryd.f52, enumA, List.map_cons, List.map_nil]
  refine AW.seqRegionO [] ?_
  refine AOpsO.one tok [0, 1] (by intro C; conv => lhs; simp) (by first | with_reducible exact True.intro | omega | simp | (simp; omega) | (simp +contextual; omega)) rfl ?_
  refine AOpsO.nil ?_
  refine AW.seq ?_
  refine AW.seqRegionO [] ?_
  refine AOpsO.one tok [0, 1, 6] (by intro C; conv => lhs; simp) (by first | with_reducible exact True.intro | omega | simp | (simp; omega) | (simp +contextual; omega)) rfl ?_
  refine AOpsO.one tok [0, 1, 7] (by intro C; conv => lhs; simp) (by first | with_reducible exact True.intro | omega | simp | (simp; omega) | (simp +contextual; omega)) rfl ?_
  refine AOpsO.one tok [0, 1, 7, 8] (by intro C; conv => lhs; simp) (by first | with_reducible exact True.intro | omega | simp | (simp; omega) | (simp +contextual; omega)) rfl ?_
  refine AOpsO.nil ?_
  refine AW.block ?_
  refine AW.intFactU (i := 7) rfl (by decide) ?_; intro hlen; simp at hlen
  refine AW.loop (α := Nat) (fun k => k ≤ l.length ∧ s ∉ l.take k) (fun k => ⟨upds 19 [(0, .p (.sl 1 (l.map PD.str))), (1, .p (.str s)), (7, .p (.int .i64 l.length)), (8, .p (.int .i64 k))], [], [], 0⟩) (fun k => l.length - k) (0) ⟨by omega, by simp⟩ ⟨upds_le (by simp), rfl, by simp, by simp⟩ ?_
  rintro k ⟨hk, hno⟩
  refine AW.seqRegionO [] ?_
  refine AOpsO.one tok [0, 1, 7, 8, 9] (by intro C; conv => lhs; simp) (by first | with_reducible exact True.intro | omega | simp | (simp; omega) | (simp +contextual; omega)) rfl ?_
  refine AOpsO.nil ?_
  refine AW.seq ?_
  refine AW.cond (c := .tmp 9) (by conv => lhs; simp) trivial ?_ ?_
  · intro h9
    try simp at h9
    obtain ⟨x, hx⟩ : ∃ x, l[k]? = some x := ⟨l[k], by simp [h9]⟩
    refine AW.skip ?_
    refine AW.seq ?_
    refine AW.block ?_
    refine AW.seqRegionO [] ?_
    refine AOpsO.one tok [0, 1, 7, 8, 10] (by intro C; conv => lhs; simp) (by first | with_reducible exact True.intro | omega | simp | (simp; omega) | (simp +contextual; omega)) rfl ?_
    refine AOpsO.one tok [0, 1, 5, 7, 8] (by intro C; conv => lhs; simp) (by first | with_reducible exact True.intro | omega | simp | (simp; omega) | (simp +contextual; omega)) rfl ?_
    refine AOpsO.nil ?_
    refine AW.seqRegionO [.str x] ?_
    refine AOpsO.one tok [0, 1, 5, 7, 8, 11] (by intro C; conv => lhs; simp) (by first | with_reducible exact True.intro | (simp [hx]; done) | omega | simp | (simp; omega) | (simp +contextual; omega)) rfl ?_
    refine AOpsO.one tok [0, 1, 5, 7, 8, 11, 12] (by intro C; conv => lhs; simp) (by first | with_reducible exact True.intro | (simp [hx]; done) | omega | simp | (simp; omega) | (simp +contextual; omega)) rfl ?_
    refine AOpsO.one tok [0, 1, 5, 7, 8, 11, 12, 13] (by intro C; conv => lhs; simp) (by first | with_reducible exact True.intro | (simp [hx]; done) | omega | simp | (simp; omega) | (simp +contextual; omega)) rfl ?_
    refine AOpsO.one tok [0, 1, 5, 7, 8, 11, 14] (by intro C; conv => lhs; simp) (by first | with_reducible exact True.intro | (simp [hx]; done) | omega | simp | (simp; omega) | (simp +contextual; omega)) rfl ?_
    refine AOpsO.one tok [0, 1, 5, 7, 8, 11, 15] (by intro C; conv => lhs; simp) (by first | with_reducible exact True.intro | (simp [hx]; done) | omega | simp | (simp; omega) | (simp +contextual; omega)) rfl ?_
    refine AOpsO.one tok [0, 1, 5, 7, 8, 16] (by intro C; conv => lhs; simp) (by first | with_reducible exact True.intro | (simp [hx]; done) | omega | simp | (simp; omega) | (simp +contextual; omega)) rfl ?_
    refine AOpsO.nil ?_
    refine AW.cond (c := .tmp 16) (by conv => lhs; simp) trivial ?_ ?_
    · intro h16
      try simp at h16
      have hR : idxK l s = k := by
        have hm : s ∈ l := by rw [h16]; exact List.mem_of_getElem? hx
        unfold idxK; rw [if_pos hm]
        have : l.idxOf s = k := by
          obtain ⟨h1, h2⟩ := List.getElem?_eq_some_iff.1 hx
          have h3 := List.take_append_drop k l
          rw [← h3, List.idxOf_append, if_neg hno, List.drop_eq_getElem_cons h1, h2, h16, List.idxOf_cons_self]
          simp; omega
        rw [this]
      refine AW.seqRegionO [] ?_
      refine AOpsO.one tok [17] (by intro C; conv => lhs; simp) (by first | with_reducible exact True.intro | omega | simp | (simp; omega) | (simp +contextual; omega)) rfl ?_
      refine AOpsO.one tok [4] (by intro C; conv => lhs; simp) (by first | with_reducible exact True.intro | omega | simp | (simp; omega) | (simp +contextual; omega)) rfl ?_
      refine AOpsO.nil ?_
      exact AW.ret ⟨.inr rfl, _, _, by (conv => lhs; simp), trivial, by simp [hR]⟩
    · intro h16
      try simp at h16
      refine AW.skip ?_
      refine AW.regionO [] ?_
      refine AOpsO.one tok [0, 1, 7, 18] (by intro C; conv => lhs; simp) (by first | with_reducible exact True.intro | omega | simp | (simp; omega) | (simp +contextual; omega)) rfl ?_
      refine AOpsO.one tok [0, 1, 7, 8] (by intro C; conv => lhs; simp) (by first | with_reducible exact True.intro | omega | simp | (simp; omega) | (simp +contextual; omega)) rfl ?_
      refine AOpsO.nil ?_
      exact ⟨k + 1, ⟨by omega, by rw [List.take_add_one, hx]; simp; exact ⟨hno, h16⟩⟩, by omega, upds_le (by simp), rfl, by simp, by simp⟩
  · intro h9
    try simp at h9
    have hR : idxK l s = -1 := by rw [List.take_of_length_le h9] at hno; unfold idxK; rw [if_neg hno]
    refine AW.exit ?_
    simp
    refine AW.seqRegionO [] ?_
    refine AOpsO.one tok [4] (by intro C; conv => lhs; simp) (by first | with_reducible exact True.intro | omega | simp | (simp; omega) | (simp +contextual; omega)) rfl ?_
    refine AOpsO.nil ?_
    exact AW.ret ⟨.inr rfl, _, _, by (conv => lhs; simp), trivial, by simp [hR]⟩
theorem or2_ev (a b : Int) : AFn Tryd.prog G 30 [.sl 1 [.int .i64 a, .int .i64 b]] (.int .i64 (if a ≠ 0 then a else b)) := by
  refine AFn.introU tok Tryd.func30 (by kernel_rfl) rfl rfl ?_
  simp only [Tryd.f30, enumA, List.map_cons, List.map_nil]
  refine AW.seqRegionO [] ?_
  refine AOpsO.one tok [0] (by intro C; conv => lhs; simp) (by first | with_reducible exact True.intro | omega | simp | (simp; omega) | (simp +contextual; omega)) rfl ?_
  refine AOpsO.nil ?_
  refine AW.seqRegionO [] ?_
  refine AOpsO.one tok [0, 3] (by intro C; conv => lhs; simp) (by first | with_reducible exact True.intro | omega | simp | (simp; omega) | (simp +contextual; omega)) rfl ?_
  refine AOpsO.nil ?_
  refine AW.seq ?_
  refine AW.seqRegionO [] ?_
  refine AOpsO.one tok [3, 6] (by intro C; conv => lhs; simp) (by first | with_reducible exact True.intro | omega | simp | (simp; omega) | (simp +contextual; omega)) rfl ?_
  refine AOpsO.one tok [3, 6, 7] (by intro C; conv => lhs; simp) (by first | with_reducible exact True.intro | omega | simp | (simp; omega) | (simp +contextual; omega)) rfl ?_
  refine AOpsO.one tok [3, 6, 7, 8] (by intro C; conv => lhs; simp) (by first | with_reducible exact True.intro | omega | simp | (simp; omega) | (simp +contextual; omega)) rfl ?_
  refine AOpsO.nil ?_
  refine AW.block ?_
  refine AW.loop (α := Nat) (fun k => k ≤ 2 ∧ (1 ≤ k → a = 0) ∧ (2 ≤ k → b = 0)) (fun k => ⟨upds 18 [(3, .p (.int .i64 0)), (6, .p (.sl 1 [.int .i64 a, .int .i64 b])), (7, .p (.int .i64 2)), (8, .p (.int .i64 k))], [], [], 0⟩) (fun k => 2 - k) (0) ⟨by omega, by omega, by omega⟩ ⟨upds_le (by simp), rfl, by simp, by simp⟩ ?_
  rintro k ⟨hk, h1, h2⟩
  refine AW.seqRegionO [] ?_
  refine AOpsO.one tok [3, 6, 7, 8, 9] (by intro C; conv => lhs; simp) (by first | with_reducible exact True.intro | omega | simp | (simp; omega) | (simp +contextual; omega)) rfl ?_
  refine AOpsO.nil ?_
  refine AW.seq ?_
  refine AW.cond (c := .tmp 9) (by conv => lhs; simp) trivial ?_ ?_
  · intro h9
    try simp at h9
    have hel : [a, b][k]? = some (if k = 0 then a else b) := by
      match k, h9 with
      | 0, _ => rfl
      | 1, _ => rfl
    have helP : [PD.int .i64 a, PD.int .i64 b][k]? = some (.int .i64 (if k = 0 then a else b)) := by
      match k, h9 with
      | 0, _ => rfl
      | 1, _ => rfl
    refine AW.skip ?_
    refine AW.seq ?_
    refine AW.block ?_
    refine AW.seqRegionO [.int .i64 (if k = 0 then a else b)] ?_
    refine AOpsO.one tok [3, 6, 7, 8, 10] (by intro C; conv => lhs; simp) (by first | with_reducible exact True.intro | (first | exact helP | simp [helP]; done) | omega | simp | (simp; omega) | (simp +contextual; omega)) rfl ?_
    refine AOpsO.one tok [3, 6, 7, 8, 11] (by intro C; conv => lhs; simp) (by first | with_reducible exact True.intro | (first | exact helP | simp [helP]; done) | omega | simp | (simp; omega) | (simp +contextual; omega)) rfl ?_
    refine AOpsO.one tok [3, 5, 6, 7, 8] (by intro C; conv => lhs; simp) (by first | with_reducible exact True.intro | (first | exact helP | simp [helP]; done) | omega | simp | (simp; omega) | (simp +contextual; omega)) rfl ?_
    refine AOpsO.nil ?_
    refine AW.seqRegionO [] ?_
    refine AOpsO.one tok [3, 5, 6, 7, 8, 12] (by intro C; conv => lhs; simp) (by first | with_reducible exact True.intro | omega | simp | (simp; omega) | (simp +contextual; omega)) rfl ?_
    refine AOpsO.one tok [3, 5, 6, 7, 8, 12, 13] (by intro C; conv => lhs; simp) (by first | with_reducible exact True.intro | omega | simp | (simp; omega) | (simp +contextual; omega)) rfl ?_
    refine AOpsO.one tok [3, 5, 6, 7, 8, 14] (by intro C; conv => lhs; simp) (by first | with_reducible exact True.intro | omega | simp | (simp; omega) | (simp +contextual; omega)) rfl ?_
    refine AOpsO.nil ?_
    refine AW.cond (c := .tmp 14) (by conv => lhs; simp) trivial ?_ ?_
    · intro h14
      try simp at h14
      have hR : (if a ≠ 0 then a else b) = (if k = 0 then a else b) := by
        by_cases hk0 : k = 0
        · subst hk0; simp at h14 ⊢; intro e; exact absurd e h14
        · rw [if_neg hk0, if_neg (by simp; exact h1 (by omega))]
      rw [hR]
      refine AW.seqRegionO [] ?_
      refine AOpsO.one tok [15] (by intro C; conv => lhs; simp) (by first | with_reducible exact True.intro | omega | simp | (simp; omega) | (simp +contextual; omega)) rfl ?_
      refine AOpsO.one tok [2] (by intro C; conv => lhs; simp) (by first | with_reducible exact True.intro | omega | simp | (simp; omega) | (simp +contextual; omega)) rfl ?_
      refine AOpsO.nil ?_
      exact AW.ret ⟨.inr rfl, _, _, by (conv => lhs; simp), trivial, by simp⟩
    · intro h14
      try simp at h14
      have e1 : 1 ≤ k + 1 → a = 0 := by
        intro _
        by_cases hk0 : k = 0
        · simpa [hk0] using h14
        · exact h1 (by omega)
      have e2 : 2 ≤ k + 1 → b = 0 := by
        intro h
        rw [if_neg (by omega)] at h14; exact h14
      refine AW.skip ?_
      refine AW.regionO [] ?_
      refine AOpsO.one tok [3, 6, 7, 16] (by intro C; conv => lhs; simp) (by first | with_reducible exact True.intro | omega | simp | (simp; omega) | (simp +contextual; omega)) rfl ?_
      refine AOpsO.one tok [3, 6, 7, 8] (by intro C; conv => lhs; simp) (by first | with_reducible exact True.intro | omega | simp | (simp; omega) | (simp +contextual; omega)) rfl ?_
      refine AOpsO.nil ?_
      exact ⟨k + 1, ⟨by omega, e1, e2⟩, by omega, upds_le (by simp), rfl, by simp, by simp⟩
  · intro h9
    try simp at h9
    have ha : a = 0 := h1 (by omega)
    have hb : b = 0 := h2 (by omega)
    subst ha hb
    refine AW.exit ?_
    simp
    refine AW.seqRegionO [] ?_
    refine AOpsO.one tok [17] (by intro C; conv => lhs; simp) (by first | with_reducible exact True.intro | omega | simp | (simp; omega) | (simp +contextual; omega)) rfl ?_
    refine AOpsO.one tok [2] (by intro C; conv => lhs; simp) (by first | with_reducible exact True.intro | omega | simp | (simp; omega) | (simp +contextual; omega)) rfl ?_
    refine AOpsO.nil ?_
    exact AW.ret ⟨.inr rfl, _, _, by (conv => lhs; simp), trivial, by simp⟩
end Go.Proofs.YtgoepemmcibdaaaDoor
/-
  A PLAIN LAW: runes of a text: those below 128 are its bytes.
-/
namespace Go.Proofs.YtgoepemmcibdaaaDoor
open Sy Go
set_option linter.unusedSimpArgs false
set_option linter.unusedVariables false
theorem decL_pos {s : List UInt8} {pos : Nat} (h : pos < s.length) : 1 ≤ (decL s pos).2 := Lib.decode_width_pos _ _ (by simpa [ByteArray.size] using h)
theorem decL_ascii {s : List UInt8} {pos : Nat} (h : pos < s.length) (ha : (s.getD pos 0).toNat < 128) : decL s pos = ((s.getD pos 0).toNat, 1) := by
  have hs : pos < (⟨s.toArray⟩ : ByteArray).size := by simpa [ByteArray.size] using h
  have e : (⟨s.toArray⟩ : ByteArray)[pos]'hs = s.getD pos 0 := by simp [List.getD_eq_getElem?_getD, h]; rfl
  unfold decL
  rw [decode_ascii _ _ hs (by rw [e]; exact ha), e]
theorem decL_big {s : List UInt8} {pos : Nat} (h : pos < s.length) (ha : 128 ≤ (s.getD pos 0).toNat) : 128 ≤ (decL s pos).1 := by
  have e : ((⟨s.toArray⟩ : ByteArray).get! (pos + 0)).toNat = (s.getD pos 0).toNat := by
    simp [ByteArray.get!, List.getD_eq_getElem?_getD, h]
  unfold decL Utf8.decode
  simp only [e]
  rw [if_neg (by omega)]
  split
  · split
    · simp only [ge_iff_le] at *; omega
    · simp [Utf8.runeError]
  · split
    · split
      · rename_i hc; simp only [ge_iff_le, Bool.and_eq_true, decide_eq_true_eq] at hc; omega
      · simp [Utf8.runeError]
    · split
      · split
        · rename_i hc; simp only [ge_iff_le, Bool.and_eq_true, decide_eq_true_eq] at hc; omega
        · simp [Utf8.runeError]
      · simp [Utf8.runeError]
/-- The place of the first rune that is so. -/
def idxF (p : Int → Bool) (s : List UInt8) : Nat → Nat → Int
  | 0, _ => -1
  | f + 1, pos => if pos < s.length then (if p (decL s pos).1 then (pos : Int) else idxF p s f (pos + (decL s pos).2)) else -1
def indexF (p : Int → Bool) (s : List UInt8) : Int := idxF p s (s.length + 1) 0
theorem idxF_fuel (p : Int → Bool) (s : List UInt8) : ∀ (f g pos : Nat), s.length < pos + f → s.length < pos + g → idxF p s f pos = idxF p s g pos
  | 0, 0, _, _, _ => rfl
  | 0, g + 1, pos, h, _ => by simp only [idxF]; rw [if_neg (by omega)]
  | f + 1, 0, pos, _, h => by simp only [idxF]; rw [if_neg (by omega)]
  | f + 1, g + 1, pos, hf, hg => by
    simp only [idxF]
    by_cases h : pos < s.length
    · rw [if_pos h, if_pos h]
      split
      · rfl
      · have := decL_pos h
        exact idxF_fuel p s f g _ (by omega) (by omega)
    · rw [if_neg h, if_neg h]
def idxAt (p : Int → Bool) (s : List UInt8) (pos : Nat) : Int := idxF p s (s.length + 1 - pos) pos
theorem idxAt_end {p : Int → Bool} {s : List UInt8} {pos : Nat} (h : ¬ pos < s.length) : idxAt p s pos = -1 := by
  unfold idxAt; cases hf : s.length + 1 - pos with
  | zero => rfl
  | succ f => simp only [idxF]; rw [if_neg h]
theorem idxAt_hit {p : Int → Bool} {s : List UInt8} {pos : Nat} (h : pos < s.length) (hp : p (decL s pos).1 = true) : idxAt p s pos = pos := by
  unfold idxAt; rw [show s.length + 1 - pos = (s.length - pos) + 1 by omega]; simp only [idxF]; rw [if_pos h, if_pos hp]
theorem idxAt_miss {p : Int → Bool} {s : List UInt8} {pos : Nat} (h : pos < s.length) (hp : p (decL s pos).1 = false) : idxAt p s pos = idxAt p s (pos + (decL s pos).2) := by
  unfold idxAt; rw [show s.length + 1 - pos = (s.length - pos) + 1 by omega]; simp only [idxF]
  have := decL_pos h
  rw [if_pos h, if_neg (by simp [hp])]; exact idxF_fuel p s _ _ _ (by omega) (by omega)
theorem indexF_at (p : Int → Bool) (s : List UInt8) : indexF p s = idxAt p s 0 := by simp [indexF, idxAt]
/-- Where a rune of 128 or more is so, the first such is the first byte that is so. -/
theorem idxAt_bytes {p : Int → Bool} (hbig : ∀ n : Int, 128 ≤ n → p n = true) (s : List UInt8) : ∀ (f pos : Nat), f = s.length - pos → pos ≤ s.length → idxAt p s pos = if (s.drop pos).all (fun b => !p b.toNat) then -1 else ((pos + ((s.drop pos).takeWhile fun b => !p b.toNat).length : Nat) : Int)
  | 0, pos, hf, hp => by
    rw [idxAt_end (by omega), List.drop_eq_nil_of_le (by omega)]; simp
  | f + 1, pos, hf, hp => by
    have hlt : pos < s.length := by omega
    have hd : s.drop pos = s.getD pos 0 :: s.drop (pos + 1) := by
      rw [List.drop_eq_getElem_cons hlt]; congr 1; simp [List.getD_eq_getElem?_getD, hlt]
    rw [hd]
    have hda0 := fun h => decL_ascii (s := s) (pos := pos) hlt h
    have hdb0 := fun h => decL_big (s := s) (pos := pos) hlt h
    clear hd
    generalize s.getD pos 0 = c at *
    by_cases ha : c.toNat < 128
    · have hda := hda0 ha
      cases hpb : p ((c.toNat : Nat) : Int) with
      | true => rw [idxAt_hit hlt (by rw [hda]; exact hpb)]; simp [hpb]
      | false =>
        rw [idxAt_miss hlt (by rw [hda]; exact hpb), hda, idxAt_bytes hbig s f (pos + 1) (by omega) (by omega)]
        simp only [List.all_cons, hpb, Bool.not_false, Bool.true_and, List.takeWhile_cons, if_true, List.length_cons]
        split <;> first | rfl | (congr 1; omega)
    · have hb := hdb0 (by omega)
      rw [idxAt_hit hlt (hbig _ (by omega))]
      have : p ((c.toNat : Nat) : Int) = true := hbig _ (by omega)
      simp [this]
theorem indexF_bytes {p : Int → Bool} (hbig : ∀ n : Int, 128 ≤ n → p n = true) (s : List UInt8) : indexF p s = if s.all (fun b => !p b.toNat) then -1 else (((s.takeWhile fun b => !p b.toNat).length : Nat) : Int) := by
  rw [indexF_at, idxAt_bytes hbig s _ 0 rfl (by omega)]; simp
theorem indexF_lt (p : Int → Bool) (s : List UInt8) : -1 ≤ indexF p s ∧ indexF p s ≤ s.length := by
  have key : ∀ (f pos : Nat), pos ≤ s.length → -1 ≤ idxF p s f pos ∧ idxF p s f pos ≤ s.length := by
    intro f
    induction f with
    | zero => intro pos _; simp [idxF] <;> omega
    | succ f ih =>
      intro pos hpos
      simp only [idxF]
      split
      · split
        · omega
        · by_cases h : pos + (decL s pos).2 ≤ s.length
          · exact ih _ h
          · cases f with
            | zero => simp [idxF] <;> omega
            | succ f => simp only [idxF]; rw [if_neg (by omega)]; omega
      · omega
  exact key _ 0 (by omega)
end Go.Proofs.YtgoepemmcibdaaaDoor
namespace Go.Proofs.YtgoepemmcibdaaaDoor
open Sy Go
set_option maxRecDepth 100000
set_option maxHeartbeats 4000000
set_option linter.unusedSimpArgs false
set_option linter.unusedVariables false
variable {G : Glob}

theorem indexFunc_ev (s : List UInt8) (g : FuncId) (p : Int → Bool) (hg : ∀ n : Int, AFn Tryd.prog G g [.int .i32 n] (.bool (p n))) : AFn Tryd.prog G 80 [.str s, .fn g, .bool true] (.int .i64 (indexF p s)) := by
  refine AFn.introU tok Tryd.func80 (by kernel_rfl) rfl rfl ?_
  simp only [Tryd.f80, enumA, List.map_cons, List.map_nil]
  refine AW.seqRegionO [] ?_
  refine AOpsO.one tok [0, 1, 2] (by intro C; conv => lhs; simp) (by first | with_reducible exact True.intro | omega | simp | (simp; omega) | (simp +contextual; omega)) rfl ?_
  refine AOpsO.nil ?_
  refine AW.seq ?_
  refine AW.seqRegionO [] ?_
  refine AOpsO.one tok [1, 2, 9] (by intro C; conv => lhs; simp) (by first | with_reducible exact True.intro | omega | simp | (simp; omega) | (simp +contextual; omega)) rfl ?_
  refine AOpsO.one tok [1, 2, 10] (by intro C; conv => lhs; simp) (by first | with_reducible exact True.intro | omega | simp | (simp; omega) | (simp +contextual; omega)) rfl ?_
  refine AOpsO.nil ?_
  refine AW.block ?_
  refine AW.loop (α := Nat) (fun pos => idxAt p s pos = indexF p s) (fun pos => ⟨upds 21 [(1, .p (.fn g)), (2, .p (.bool true)), (10, .it 10)], [], [(10, .iter s pos)], 0⟩) (fun pos => s.length - pos) (0) (indexF_at p s).symm ⟨upds_le (by simp), rfl, by simp, by simp⟩ ?_
  rintro pos hi
  have hpos : pos < s.length → 1 ≤ (decL s pos).2 := decL_pos
  by_cases hs2 : pos < s.length
  ·
    refine AW.seqRegionO [.bool true] ?_
    refine AOpsO.one tok [1, 2, 10, 11] (by intro C; conv => lhs; simp) (by first | with_reducible exact True.intro | (simpa using hs2; done) | omega | simp | (simp; omega) | (simp +contextual; omega)) rfl ?_
    refine AOpsO.one tok [1, 2, 10, 11, 12] (by intro C; conv => lhs; simp) (by first | with_reducible exact True.intro | (simpa using hs2; done) | omega | simp | (simp; omega) | (simp +contextual; omega)) rfl ?_
    refine AOpsO.nil ?_
    refine AW.seq ?_
    refine AW.cond (c := .tmp 12) (by conv => lhs; simp) trivial ?_ ?_
    · intro h12
      try simp at h12
      refine AW.skip ?_
      refine AW.block ?_
      refine AW.seqRegionO [] ?_
      refine AOpsO.one tok [1, 2, 10, 11, 13] (by intro C; conv => lhs; simp) (by first | with_reducible exact True.intro | omega | simp | (simp; omega) | (simp +contextual; omega)) rfl ?_
      refine AOpsO.one tok [1, 2, 10, 13, 14] (by intro C; conv => lhs; simp) (by first | with_reducible exact True.intro | omega | simp | (simp; omega) | (simp +contextual; omega)) rfl ?_
      refine AOpsO.one tok [1, 2, 7, 10, 14] (by intro C; conv => lhs; simp) (by first | with_reducible exact True.intro | omega | simp | (simp; omega) | (simp +contextual; omega)) rfl ?_
      refine AOpsO.one tok [1, 2, 7, 8, 10] (by intro C; conv => lhs; simp) (by first | with_reducible exact True.intro | omega | simp | (simp; omega) | (simp +contextual; omega)) rfl ?_
      refine AOpsO.nil ?_
      refine AW.seqRegionO [.nilp, .bool (p (decL s pos).1)] ?_
      refine AOpsO.one tok [1, 2, 7, 8, 10, 15] (by intro C; conv => lhs; simp) (by first | with_reducible exact True.intro | (exact hg _; done) | omega | simp | (simp; omega) | (simp +contextual; omega)) rfl ?_
      refine AOpsO.one tok [1, 2, 7, 10, 15, 16] (by intro C; conv => lhs; simp) (by first | with_reducible exact True.intro | (exact hg _; done) | omega | simp | (simp; omega) | (simp +contextual; omega)) rfl ?_
      refine AOpsO.one tok [1, 2, 7, 10, 17] (by intro C; conv => lhs; simp) (by first | with_reducible exact True.intro | (exact hg _; done) | omega | simp | (simp; omega) | (simp +contextual; omega)) rfl ?_
      refine AOpsO.one tok [1, 2, 7, 10, 17, 18] (by intro C; conv => lhs; simp) (by first | with_reducible exact True.intro | (exact hg _; done) | omega | simp | (simp; omega) | (simp +contextual; omega)) rfl ?_
      refine AOpsO.one tok [1, 2, 7, 10, 19] (by intro C; conv => lhs; simp) (by first | with_reducible exact True.intro | (exact hg _; done) | omega | simp | (simp; omega) | (simp +contextual; omega)) rfl ?_
      refine AOpsO.nil ?_
      refine AW.cond (c := .tmp 19) (by conv => lhs; simp) trivial ?_ ?_
      · intro h19
        try simp at h19
        have hI : indexF p s = pos := by rw [← hi, idxAt_hit hs2 (by simpa using h19)]
        refine AW.seqRegionO [] ?_
        refine AOpsO.one tok [20] (by intro C; conv => lhs; simp) (by first | with_reducible exact True.intro | omega | simp | (simp; omega) | (simp +contextual; omega)) rfl ?_
        refine AOpsO.one tok [6] (by intro C; conv => lhs; simp) (by first | with_reducible exact True.intro | omega | simp | (simp; omega) | (simp +contextual; omega)) rfl ?_
        refine AOpsO.nil ?_
        exact AW.ret ⟨.inr rfl, _, _, by (conv => lhs; simp), trivial, by simp [hI]⟩
      · intro h19
        try simp at h19
        have hnx : idxAt p s (pos + (decL s pos).2) = indexF p s := by rw [← idxAt_miss hs2 (by simpa using h19)]; exact hi
        refine AW.skip ?_
        exact ⟨pos + (decL s pos).2, hnx, by have := hpos hs2; omega, upds_le (by simp), rfl, by simp, by simp⟩
    · intro h12
      try simp at h12
  ·
    refine AW.seqRegionO [.bool false] ?_
    refine AOpsO.one tok [1, 2, 10, 11] (by intro C; conv => lhs; simp) (by first | with_reducible exact True.intro | (simpa using hs2; done) | omega | simp | (simp; omega) | (simp +contextual; omega)) rfl ?_
    refine AOpsO.one tok [1, 2, 10, 11, 12] (by intro C; conv => lhs; simp) (by first | with_reducible exact True.intro | (simpa using hs2; done) | omega | simp | (simp; omega) | (simp +contextual; omega)) rfl ?_
    refine AOpsO.nil ?_
    refine AW.seq ?_
    refine AW.cond (c := .tmp 12) (by conv => lhs; simp) trivial ?_ ?_
    · intro h12
      try simp at h12
    · intro h12
      try simp at h12
      refine AW.exit ?_
      simp
      refine AW.seqRegionO [] ?_
      refine AOpsO.one tok [6] (by intro C; conv => lhs; simp) (by first | with_reducible exact True.intro | omega | simp | (simp; omega) | (simp +contextual; omega)) rfl ?_
      refine AOpsO.nil ?_
      exact AW.ret ⟨.inr rfl, _, _, by (conv => lhs; simp), trivial, by simp [← hi, idxAt_end hs2]⟩
theorem IndexFunc_ev (s : List UInt8) (g : FuncId) (p : Int → Bool) (hg : ∀ n : Int, AFn Tryd.prog G g [.int .i32 n] (.bool (p n))) : AFn Tryd.prog G 68 [.str s, .fn g] (.int .i64 (indexF p s)) := by
  refine AFn.introU tok Tryd.func68 (by kernel_rfl) rfl rfl ?_
  simp only [Tryd.f68, enumA, List.map_cons, List.map_nil]
  refine AW.seqRegionO [] ?_
  refine AOpsO.one tok [0, 1] (by intro C; conv => lhs; simp) (by first | with_reducible exact True.intro | omega | simp | (simp; omega) | (simp +contextual; omega)) rfl ?_
  refine AOpsO.nil ?_
  refine AW.seqRegionO [.nilp, .int .i64 (indexF p s)] ?_
  refine AOpsO.one tok [1, 5] (by intro C; conv => lhs; simp) (by first | with_reducible exact True.intro | (exact indexFunc_ev s g p hg; done) | omega | simp | (simp; omega) | (simp +contextual; omega)) rfl ?_
  refine AOpsO.one tok [5, 6] (by intro C; conv => lhs; simp) (by first | with_reducible exact True.intro | (exact indexFunc_ev s g p hg; done) | omega | simp | (simp; omega) | (simp +contextual; omega)) rfl ?_
  refine AOpsO.one tok [7] (by intro C; conv => lhs; simp) (by first | with_reducible exact True.intro | (exact indexFunc_ev s g p hg; done) | omega | simp | (simp; omega) | (simp +contextual; omega)) rfl ?_
  refine AOpsO.one tok [4] (by intro C; conv => lhs; simp) (by first | with_reducible exact True.intro | (exact indexFunc_ev s g p hg; done) | omega | simp | (simp; omega) | (simp +contextual; omega)) rfl ?_
  refine AOpsO.nil ?_
  exact AW.ret ⟨.inr rfl, _, _, by (conv => lhs; simp), trivial, by simp⟩
theorem ContainsFunc_ev (s : List UInt8) (g : FuncId) (p : Int → Bool) (hg : ∀ n : Int, AFn Tryd.prog G g [.int .i32 n] (.bool (p n))) : AFn Tryd.prog G 57 [.str s, .fn g] (.bool (decide (0 ≤ indexF p s))) := by
  refine AFn.introU tok Tryd.func57 (by kernel_rfl) rfl rfl ?_
  simp only [Tryd.f57, enumA, List.map_cons, List.map_nil]
  refine AW.seqRegionO [] ?_
  refine AOpsO.one tok [0, 1] (by intro C; conv => lhs; simp) (by first | with_reducible exact True.intro | omega | simp | (simp; omega) | (simp +contextual; omega)) rfl ?_
  refine AOpsO.nil ?_
  refine AW.seqRegionO [.nilp, .int .i64 (indexF p s)] ?_
  refine AOpsO.one tok [1, 5] (by intro C; conv => lhs; simp) (by first | with_reducible exact True.intro | (first | exact IndexFunc_ev s g p hg | simp; done) | omega | simp | (simp; omega) | (simp +contextual; omega)) rfl ?_
  refine AOpsO.one tok [5, 6] (by intro C; conv => lhs; simp) (by first | with_reducible exact True.intro | (first | exact IndexFunc_ev s g p hg | simp; done) | omega | simp | (simp; omega) | (simp +contextual; omega)) rfl ?_
  refine AOpsO.one tok [7] (by intro C; conv => lhs; simp) (by first | with_reducible exact True.intro | (first | exact IndexFunc_ev s g p hg | simp; done) | omega | simp | (simp; omega) | (simp +contextual; omega)) rfl ?_
  refine AOpsO.one tok [8] (by intro C; conv => lhs; simp) (by first | with_reducible exact True.intro | (first | exact IndexFunc_ev s g p hg | simp; done) | omega | simp | (simp; omega) | (simp +contextual; omega)) rfl ?_
  refine AOpsO.one tok [4] (by intro C; conv => lhs; simp) (by first | with_reducible exact True.intro | (first | exact IndexFunc_ev s g p hg | simp; done) | omega | simp | (simp; omega) | (simp +contextual; omega)) rfl ?_
  refine AOpsO.nil ?_
  exact AW.ret ⟨.inr rfl, _, _, by (conv => lhs; simp), trivial, by simp⟩
end Go.Proofs.YtgoepemmcibdaaaDoor
namespace Go.Proofs.YtgoepemmcibdaaaDoor
open Sy Go
set_option maxRecDepth 100000
set_option maxHeartbeats 4000000
set_option linter.unusedSimpArgs false
set_option linter.unusedVariables false
variable {G : Glob}

def digitM (n : Int) : Bool := decide (48 ≤ n) && decide (n ≤ 57)
theorem digit_ev (n : Int) : AFn Tryd.prog G 44 [.int .u8 n] (.bool (digitM n)) := by
  refine AFn.introU tok Tryd.func44 (by kernel_rfl) rfl rfl ?_
  simp only [Tryd.f44, enumA, List.map_cons, List.map_nil]
  refine AW.seqRegionO [] ?_
  refine AOpsO.one tok [0] (by intro C; conv => lhs; simp) (by first | with_reducible exact True.intro | omega | simp | (simp; omega) | (simp +contextual; omega)) rfl ?_
  refine AOpsO.nil ?_
  refine AW.seqRegionO [] ?_
  refine AOpsO.one tok [0, 3] (by intro C; conv => lhs; simp) (by first | with_reducible exact True.intro | omega | simp | (simp; omega) | (simp +contextual; omega)) rfl ?_
  refine AOpsO.one tok [0, 4] (by intro C; conv => lhs; simp) (by first | with_reducible exact True.intro | omega | simp | (simp; omega) | (simp +contextual; omega)) rfl ?_
  refine AOpsO.one tok [0, 5] (by intro C; conv => lhs; simp) (by first | with_reducible exact True.intro | omega | simp | (simp; omega) | (simp +contextual; omega)) rfl ?_
  refine AOpsO.oneIf tok [5, 6] 5 (by intro C; conv => lhs; simp) (by first | with_reducible exact True.intro | omega | simp | (simp; omega) | (simp +contextual; omega)) rfl rfl ?_
  refine AOpsO.oneIf tok [5, 7] 5 (by intro C; conv => lhs; simp) (by first | with_reducible exact True.intro | omega | simp | (simp; omega) | (simp +contextual; omega)) rfl rfl ?_
  refine AOpsO.one tok [8] (by intro C; conv => lhs; simp) (by first | with_reducible exact True.intro | omega | simp | (simp; omega) | (simp +contextual; omega)) rfl ?_
  refine AOpsO.one tok [2] (by intro C; conv => lhs; simp) (by first | with_reducible exact True.intro | omega | simp | (simp; omega) | (simp +contextual; omega)) rfl ?_
  refine AOpsO.nil ?_
  exact AW.ret ⟨.inr rfl, _, _, by (conv => lhs; simp), trivial, by simp [digitM]⟩
def byteAt (s : List UInt8) (i : Nat) : Int := ((s.getD i 0).toNat : Int)
theorem byteAt_get {s : List UInt8} {i : Nat} (h : i < s.length) : s[i]? = some (s.getD i 0) := by simp [List.getD_eq_getElem?_getD, h]
def runM (s : List UInt8) (k : Nat) : Nat := ((s.drop k).takeWhile fun b => digitM b.toNat).length
theorem takeWhile_lt {p : UInt8 → Bool} : ∀ {l : List UInt8} {n : Nat}, n ≤ (l.takeWhile p).length → ((n < (l.takeWhile p).length) ↔ ∃ b, l[n]? = some b ∧ p b = true)
  | [], n, h => by simp at h; subst h; simp
  | a :: l, n, h => by
    rw [List.takeWhile_cons] at h ⊢
    by_cases ha : p a = true
    · rw [if_pos ha] at h ⊢
      cases n with
      | zero => simp [ha]
      | succ n => simpa using takeWhile_lt (l := l) (n := n) (by simpa using h)
    · rw [if_neg ha] at h ⊢
      simp at h; subst h
      simp [ha]
theorem runM_lt {s : List UInt8} {k n : Nat} (h : n ≤ runM s k) : n < runM s k ↔ (k + n < s.length ∧ digitM (byteAt s (k + n)) = true) := by
  unfold runM at h ⊢
  rw [takeWhile_lt h]
  constructor
  · rintro ⟨b, hb, hd⟩
    rw [List.getElem?_drop] at hb
    have := (List.getElem?_eq_some_iff.1 hb).1
    refine ⟨this, ?_⟩
    rw [byteAt, List.getD_eq_getElem?_getD, hb]; exact hd
  · rintro ⟨h1, h2⟩
    exact ⟨s.getD (k + n) 0, by rw [List.getElem?_drop]; exact byteAt_get h1, h2⟩
theorem runM_le (s : List UInt8) (k : Nat) : runM s k ≤ s.length := by
  unfold runM
  have := (List.takeWhile_sublist (l := s.drop k) fun b : UInt8 => digitM b.toNat).length_le
  simp at this; omega
theorem run_ev (s : List UInt8) (k : Nat) (hs : s.length ≤ 1000000) (hk : k ≤ 1000000) : AFn Tryd.prog G 36 [.str s, .int .i64 k] (.int .i64 (runM s k)) := by
  refine AFn.introU tok Tryd.func36 (by kernel_rfl) rfl rfl ?_
  simp only [Tryd.f36, enumA, List.map_cons, List.map_nil]
  refine AW.seqRegionO [] ?_
  refine AOpsO.one tok [0, 1] (by intro C; conv => lhs; simp) (by first | with_reducible exact True.intro | omega | simp | (simp; omega) | (simp +contextual; omega)) rfl ?_
  refine AOpsO.nil ?_
  refine AW.seqRegionO [] ?_
  refine AOpsO.one tok [0, 1, 5] (by intro C; conv => lhs; simp) (by first | with_reducible exact True.intro | omega | simp | (simp; omega) | (simp +contextual; omega)) rfl ?_
  refine AOpsO.nil ?_
  refine AW.seq ?_
  refine AW.block ?_
  refine AW.loop (α := Nat) (fun n => n ≤ runM s k) (fun n => ⟨upds 23 [(0, .p (.str s)), (1, .p (.int .i64 k)), (5, .p (.int .i64 n))], [], [], 0⟩) (fun n => runM s k - n) (0) (by omega) ⟨upds_le (by simp), rfl, by simp, by simp⟩ ?_
  rintro n hn
  have hrl := runM_le s k
  have hlt := runM_lt hn
  have hd := digit_ev (G := G) (byteAt s (k + n))
  have hix : k + n < s.length → s[((k : Int) + n).toNat]? = some (s.getD (k + n) 0) := fun h => by rw [show ((k : Int) + n).toNat = k + n by omega]; exact byteAt_get h
  refine AW.seq ?_
  refine AW.seqRegionO [.int .u8 (byteAt s (k + n)), .nilp, .bool (digitM (byteAt s (k + n)))] ?_
  refine AOpsO.one tok [0, 1, 5, 6] (by intro C; conv => lhs; simp) (by first | with_reducible exact True.intro | (first | exact fun h => ⟨h, by omega, _, hix (by omega), rfl⟩ | simp [hd]; done) | omega | simp | (simp; omega) | (simp +contextual; omega)) rfl ?_
  refine AOpsO.one tok [0, 1, 5, 6, 7] (by intro C; conv => lhs; simp) (by first | with_reducible exact True.intro | (first | exact fun h => ⟨h, by omega, _, hix (by omega), rfl⟩ | simp [hd]; done) | omega | simp | (simp; omega) | (simp +contextual; omega)) rfl ?_
  refine AOpsO.one tok [0, 1, 5, 8] (by intro C; conv => lhs; simp) (by first | with_reducible exact True.intro | (first | exact fun h => ⟨h, by omega, _, hix (by omega), rfl⟩ | simp [hd]; done) | omega | simp | (simp; omega) | (simp +contextual; omega)) rfl ?_
  refine AOpsO.one tok [0, 1, 5, 8, 9] (by intro C; conv => lhs; simp) (by first | with_reducible exact True.intro | (first | exact fun h => ⟨h, by omega, _, hix (by omega), rfl⟩ | simp [hd]; done) | omega | simp | (simp; omega) | (simp +contextual; omega)) rfl ?_
  refine AOpsO.one tok [0, 1, 5, 8, 10] (by intro C; conv => lhs; simp) (by first | with_reducible exact True.intro | (first | exact fun h => ⟨h, by omega, _, hix (by omega), rfl⟩ | simp [hd]; done) | omega | simp | (simp; omega) | (simp +contextual; omega)) rfl ?_
  refine AOpsO.one tok [0, 1, 5, 11] (by intro C; conv => lhs; simp) (by first | with_reducible exact True.intro | (first | exact fun h => ⟨h, by omega, _, hix (by omega), rfl⟩ | simp [hd]; done) | omega | simp | (simp; omega) | (simp +contextual; omega)) rfl ?_
  refine AOpsO.one tok [0, 1, 5, 12] (by intro C; conv => lhs; simp) (by first | with_reducible exact True.intro | (first | exact fun h => ⟨h, by omega, _, hix (by omega), rfl⟩ | simp [hd]; done) | omega | simp | (simp; omega) | (simp +contextual; omega)) rfl ?_
  refine AOpsO.oneIf tok [0, 1, 5, 12, 13] 12 (by intro C; conv => lhs; simp) (by first | with_reducible exact True.intro | (first | exact fun h => ⟨h, by omega, _, hix (by omega), rfl⟩ | simp [hd]; done) | omega | simp | (simp; omega) | (simp +contextual; omega)) rfl rfl ?_
  refine AOpsO.oneIf tok [0, 1, 5, 12, 13, 14] 12 (by intro C; conv => lhs; simp) (by first | with_reducible exact True.intro | (first | exact fun h => ⟨h, by omega, _, hix (by omega), rfl⟩ | simp [hd]; done) | omega | simp | (simp; omega) | (simp +contextual; omega)) rfl rfl ?_
  refine AOpsO.oneIf tok [0, 1, 5, 12, 13, 14, 15] 12 (by intro C; conv => lhs; simp) (by first | with_reducible exact True.intro | (first | exact fun h => ⟨h, by omega, _, hix (by omega), rfl⟩ | simp [hd]; done) | omega | simp | (simp; omega) | (simp +contextual; omega)) rfl rfl ?_
  refine AOpsO.oneIf tok [0, 1, 5, 12, 13, 16] 12 (by intro C; conv => lhs; simp) (by first | with_reducible exact True.intro | (first | exact fun h => ⟨h, by omega, _, hix (by omega), rfl⟩ | simp [hd]; done) | omega | simp | (simp; omega) | (simp +contextual; omega)) rfl rfl ?_
  refine AOpsO.oneIf tok [0, 1, 5, 12, 17] 12 (by intro C; conv => lhs; simp) (by first | with_reducible exact True.intro | (first | exact fun h => ⟨h, by omega, _, hix (by omega), rfl⟩ | simp [hd]; done) | omega | simp | (simp; omega) | (simp +contextual; omega)) rfl rfl ?_
  refine AOpsO.oneIf tok [0, 1, 5, 12, 18] 12 (by intro C; conv => lhs; simp) (by first | with_reducible exact True.intro | (first | exact fun h => ⟨h, by omega, _, hix (by omega), rfl⟩ | simp [hd]; done) | omega | simp | (simp; omega) | (simp +contextual; omega)) rfl rfl ?_
  refine AOpsO.one tok [0, 1, 5, 19] (by intro C; conv => lhs; simp) (by first | with_reducible exact True.intro | (first | exact fun h => ⟨h, by omega, _, hix (by omega), rfl⟩ | simp [hd]; done) | omega | simp | (simp; omega) | (simp +contextual; omega)) rfl ?_
  refine AOpsO.nil ?_
  refine AW.cond (c := .tmp 19) (by conv => lhs; simp) trivial ?_ ?_
  · intro h19
    try simp at h19
    have hlt' := hlt.2 ⟨by omega, h19.2⟩
    refine AW.skip ?_
    refine AW.block ?_
    refine AW.regionO [] ?_
    refine AOpsO.one tok [0, 1, 20] (by intro C; conv => lhs; simp) (by first | with_reducible exact True.intro | omega | simp | (simp; omega) | (simp +contextual; omega)) rfl ?_
    refine AOpsO.one tok [0, 1, 21] (by intro C; conv => lhs; simp) (by first | with_reducible exact True.intro | omega | simp | (simp; omega) | (simp +contextual; omega)) rfl ?_
    refine AOpsO.one tok [0, 1, 5] (by intro C; conv => lhs; simp) (by first | with_reducible exact True.intro | omega | simp | (simp; omega) | (simp +contextual; omega)) rfl ?_
    refine AOpsO.nil ?_
    exact ⟨n + 1, by omega, by omega, upds_le (by simp), rfl, by simp, by simp⟩
  · intro h19
    try simp at h19
    have hge : n = runM s k := by
      refine Nat.le_antisymm hn (Nat.not_lt.1 fun h => ?_)
      have := hlt.1 h
      have := h19 (by omega)
      simp_all
    subst hge
    refine AW.exit ?_
    simp
    refine AW.seqRegionO [] ?_
    refine AOpsO.one tok [22] (by intro C; conv => lhs; simp) (by first | with_reducible exact True.intro | omega | simp | (simp; omega) | (simp +contextual; omega)) rfl ?_
    refine AOpsO.one tok [4] (by intro C; conv => lhs; simp) (by first | with_reducible exact True.intro | omega | simp | (simp; omega) | (simp +contextual; omega)) rfl ?_
    refine AOpsO.nil ?_
    exact AW.ret ⟨.inr rfl, _, _, by (conv => lhs; simp), trivial, by simp⟩
def zerosM (n : Nat) : List UInt8 := List.replicate n 48
theorem zeros_ev (n : Int) (hn : n ≤ 1000000) : AFn Tryd.prog G 37 [.int .i64 n] (.str (zerosM n.toNat)) := by
  refine AFn.introU tok Tryd.func37 (by kernel_rfl) rfl rfl ?_
  simp only [Tryd.f37, enumA, List.map_cons, List.map_nil]
  refine AW.seqRegionO [] ?_
  refine AOpsO.one tok [0] (by intro C; conv => lhs; simp) (by first | with_reducible exact True.intro | omega | simp | (simp; omega) | (simp +contextual; omega)) rfl ?_
  refine AOpsO.nil ?_
  refine AW.seqRegionO [] ?_
  refine AOpsO.one tok [0, 3] (by intro C; conv => lhs; simp) (by first | with_reducible exact True.intro | omega | simp | (simp; omega) | (simp +contextual; omega)) rfl ?_
  refine AOpsO.nil ?_
  refine AW.seq ?_
  refine AW.seqRegionO [] ?_
  refine AOpsO.one tok [0, 3, 4] (by intro C; conv => lhs; simp) (by first | with_reducible exact True.intro | omega | simp | (simp; omega) | (simp +contextual; omega)) rfl ?_
  refine AOpsO.nil ?_
  refine AW.block ?_
  refine AW.loop (α := Nat) (fun k => k ≤ n.toNat) (fun k => ⟨upds 13 [(0, .p (.int .i64 n)), (3, .p (.str (zerosM k))), (4, .p (.int .i64 k))], [], [], 0⟩) (fun k => n.toNat - k) (0) (by omega) ⟨upds_le (by simp [zerosM]), rfl, by simp, by simp⟩ ?_
  rintro k hk
  refine AW.seq ?_
  refine AW.seqRegionO [] ?_
  refine AOpsO.one tok [0, 3, 4, 5] (by intro C; conv => lhs; simp) (by first | with_reducible exact True.intro | omega | simp | (simp; omega) | (simp +contextual; omega)) rfl ?_
  refine AOpsO.one tok [0, 3, 4, 5, 6] (by intro C; conv => lhs; simp) (by first | with_reducible exact True.intro | omega | simp | (simp; omega) | (simp +contextual; omega)) rfl ?_
  refine AOpsO.one tok [0, 3, 4, 7] (by intro C; conv => lhs; simp) (by first | with_reducible exact True.intro | omega | simp | (simp; omega) | (simp +contextual; omega)) rfl ?_
  refine AOpsO.nil ?_
  refine AW.cond (c := .tmp 7) (by conv => lhs; simp) trivial ?_ ?_
  · intro h7
    try simp at h7
    refine AW.skip ?_
    refine AW.seq ?_
    refine AW.block ?_
    refine AW.regionO [] ?_
    refine AOpsO.one tok [0, 4, 10] (by intro C; conv => lhs; simp) (by first | with_reducible exact True.intro | (simp [zerosM]; omega; done) | omega | simp | (simp; omega) | (simp +contextual; omega)) rfl ?_
    refine AOpsO.one tok [0, 4, 11] (by intro C; conv => lhs; simp) (by first | with_reducible exact True.intro | (simp [zerosM]; omega; done) | omega | simp | (simp; omega) | (simp +contextual; omega)) rfl ?_
    refine AOpsO.one tok [0, 3, 4] (by intro C; conv => lhs; simp) (by first | with_reducible exact True.intro | (simp [zerosM]; omega; done) | omega | simp | (simp; omega) | (simp +contextual; omega)) rfl ?_
    refine AOpsO.nil ?_
    refine AW.regionO [] ?_
    refine AOpsO.one tok [0, 3, 8] (by intro C; conv => lhs; simp) (by first | with_reducible exact True.intro | omega | simp | (simp; omega) | (simp +contextual; omega)) rfl ?_
    refine AOpsO.one tok [0, 3, 9] (by intro C; conv => lhs; simp) (by first | with_reducible exact True.intro | omega | simp | (simp; omega) | (simp +contextual; omega)) rfl ?_
    refine AOpsO.one tok [0, 3, 4] (by intro C; conv => lhs; simp) (by first | with_reducible exact True.intro | omega | simp | (simp; omega) | (simp +contextual; omega)) rfl ?_
    refine AOpsO.nil ?_
    exact ⟨k + 1, by omega, by omega, upds_le (by simp [zerosM, List.replicate_succ']), rfl, by simp [zerosM, List.replicate_succ'], by simp [zerosM, List.replicate_succ']⟩
  · intro h7
    try simp at h7
    have hkn : k = n.toNat := by omega
    subst hkn
    refine AW.exit ?_
    simp
    refine AW.seqRegionO [] ?_
    refine AOpsO.one tok [12] (by intro C; conv => lhs; simp) (by first | with_reducible exact True.intro | omega | simp | (simp; omega) | (simp +contextual; omega)) rfl ?_
    refine AOpsO.one tok [2] (by intro C; conv => lhs; simp) (by first | with_reducible exact True.intro | omega | simp | (simp; omega) | (simp +contextual; omega)) rfl ?_
    refine AOpsO.nil ?_
    exact AW.ret ⟨.inr rfl, _, _, by (conv => lhs; simp), trivial, by simp⟩
def strip0 (s : List UInt8) : List UInt8 := s.dropWhile (· == 48)
def trail (d : List UInt8) : Nat → List UInt8 × Nat
  | 0 => (d, 0)
  | k + 1 => if d.getLast? = some 48 then trail d.dropLast k else (d, k + 1)
def NormM (neg : Bool) (digits : List UInt8) (scale : Nat) : Dc × Int :=
  let x := trail (strip0 digits) scale
  if x.1 = [] then (⟨false, [48], 0⟩, 0) else if 60 < x.1.length ∨ 60 < x.2 then (⟨false, [], 0⟩, 3) else (⟨neg, x.1, x.2⟩, 0)
theorem trail_le : ∀ (k : Nat) (d : List UInt8), (trail d k).1.length ≤ d.length ∧ (trail d k).2 ≤ k
  | 0, d => by simp [trail]
  | k + 1, d => by
    simp only [trail]
    split
    · have := trail_le k d.dropLast; simp at this; omega
    · simp
theorem byteAt_last {d : List UInt8} (h : 0 < d.length) : byteAt d (d.length - 1) = 48 ↔ d.getLast? = some 48 := by
  rw [List.getLast?_eq_getElem?, byteAt, List.getD_eq_getElem?_getD, byteAt_get (by omega)]
  simp only [Option.getD_some, Option.some.injEq]
  constructor
  · intro h2; exact UInt8.toNat_inj.1 (by have : ((d.getD (d.length - 1) 0).toNat : Int) = 48 := h2; show (d.getD (d.length - 1) 0).toNat = 48; omega)
  · intro h2; rw [h2]; rfl
theorem take_last (d : List UInt8) : d.take (d.length - 1) = d.dropLast := (List.dropLast_eq_take).symm
theorem Norm_ev (neg : Bool) (digits : List UInt8) (scale : Nat) (hd : digits.length ≤ 1000000) (hs : scale ≤ 1000000) : AFn Tryd.prog G 38 [.bool neg, .str digits, .int .i64 scale] (.tup [(NormM neg digits scale).1.enc, .int .i64 (NormM neg digits scale).2]) := by
  refine AFn.introU tok Tryd.func38 (by kernel_rfl) rfl rfl ?_
  simp only [Tryd.f38, enumA, List.map_cons, List.map_nil]
  refine AW.seqRegionO [] ?_
  refine AOpsO.one tok [0, 1, 2, 6] (by intro C; conv => lhs; simp) (by first | with_reducible exact True.intro | omega | simp | (simp; omega) | (simp +contextual; omega)) rfl ?_
  refine AOpsO.one tok [0, 1, 2, 6] (by intro C; conv => lhs; simp) (by first | with_reducible exact True.intro | omega | simp | (simp; omega) | (simp +contextual; omega)) rfl ?_
  refine AOpsO.nil ?_
  refine AW.seq ?_
  refine AW.block ?_
  refine AW.loop (α := List UInt8) (fun r => strip0 r = strip0 digits ∧ r.length ≤ digits.length) (fun r => ⟨upds 55 [(0, .p (.bool neg)), (1, .p (.str r)), (2, .p (.int .i64 scale)), (6, .ptr 6 0)], [], [(6, .vars 24 [.p (.bool false), .p (.str []), .p (.int .i64 0)])], 0⟩) (fun r => r.length) (digits) ⟨rfl, Nat.le_refl _⟩ ⟨upds_le (by simp), rfl, by simp, by simp⟩ ?_
  rintro r ⟨hr, hrl⟩
  have hix : 0 < r.length → r[0]? = some (r.getD 0 0) := fun h => byteAt_get h
  refine AW.seq ?_
  refine AW.seqRegionO [.int .u8 (byteAt r 0)] ?_
  refine AOpsO.one tok [0, 1, 2, 6, 8] (by intro C; conv => lhs; simp) (by first | with_reducible exact True.intro | (first | exact fun h => ⟨h, _, hix (by omega), rfl⟩ | simp; done) | omega | simp | (simp; omega) | (simp +contextual; omega)) rfl ?_
  refine AOpsO.one tok [0, 1, 2, 6, 9] (by intro C; conv => lhs; simp) (by first | with_reducible exact True.intro | (first | exact fun h => ⟨h, _, hix (by omega), rfl⟩ | simp; done) | omega | simp | (simp; omega) | (simp +contextual; omega)) rfl ?_
  refine AOpsO.one tok [0, 1, 2, 6, 10] (by intro C; conv => lhs; simp) (by first | with_reducible exact True.intro | (first | exact fun h => ⟨h, _, hix (by omega), rfl⟩ | simp; done) | omega | simp | (simp; omega) | (simp +contextual; omega)) rfl ?_
  refine AOpsO.one tok [0, 1, 2, 6, 11] (by intro C; conv => lhs; simp) (by first | with_reducible exact True.intro | (first | exact fun h => ⟨h, _, hix (by omega), rfl⟩ | simp; done) | omega | simp | (simp; omega) | (simp +contextual; omega)) rfl ?_
  refine AOpsO.oneIf tok [0, 1, 2, 6, 11, 12] 11 (by intro C; conv => lhs; simp) (by first | with_reducible exact True.intro | (first | exact fun h => ⟨h, _, hix (by omega), rfl⟩ | simp; done) | omega | simp | (simp; omega) | (simp +contextual; omega)) rfl rfl ?_
  refine AOpsO.oneIf tok [0, 1, 2, 6, 11, 13] 11 (by intro C; conv => lhs; simp) (by first | with_reducible exact True.intro | (first | exact fun h => ⟨h, _, hix (by omega), rfl⟩ | simp; done) | omega | simp | (simp; omega) | (simp +contextual; omega)) rfl rfl ?_
  refine AOpsO.oneIf tok [0, 1, 2, 6, 11, 14] 11 (by intro C; conv => lhs; simp) (by first | with_reducible exact True.intro | (first | exact fun h => ⟨h, _, hix (by omega), rfl⟩ | simp; done) | omega | simp | (simp; omega) | (simp +contextual; omega)) rfl rfl ?_
  refine AOpsO.one tok [0, 1, 2, 6, 15] (by intro C; conv => lhs; simp) (by first | with_reducible exact True.intro | (first | exact fun h => ⟨h, _, hix (by omega), rfl⟩ | simp; done) | omega | simp | (simp; omega) | (simp +contextual; omega)) rfl ?_
  refine AOpsO.nil ?_
  refine AW.cond (c := .tmp 15) (by conv => lhs; simp) trivial ?_ ?_
  · intro h15
    try simp at h15
    obtain ⟨b, r, rfl⟩ : ∃ b r', r = b :: r' := by
      cases r with
      | nil => simp at h15
      | cons b r => exact ⟨b, r, rfl⟩
    have hb : b = 48 := UInt8.toNat_inj.1 (by have h9 : (b.toNat : Int) = 48 := h15.2; show b.toNat = 48; omega)
    have hr' : strip0 r = strip0 digits := by rw [← hr]; simp [strip0, hb]
    simp at hrl
    refine AW.skip ?_
    refine AW.block ?_
    refine AW.regionO [] ?_
    refine AOpsO.one tok [0, 2, 6, 16] (by intro C; conv => lhs; simp) (by first | with_reducible exact True.intro | omega | simp | (simp; omega) | (simp +contextual; omega)) rfl ?_
    refine AOpsO.one tok [0, 2, 6, 17] (by intro C; conv => lhs; simp) (by first | with_reducible exact True.intro | omega | simp | (simp; omega) | (simp +contextual; omega)) rfl ?_
    refine AOpsO.one tok [0, 1, 2, 6] (by intro C; conv => lhs; simp) (by first | with_reducible exact True.intro | omega | simp | (simp; omega) | (simp +contextual; omega)) rfl ?_
    refine AOpsO.nil ?_
    exact ⟨r, ⟨hr', by omega⟩, by simp, upds_le (by simp), rfl, by simp, by simp⟩
  · intro h15
    try simp at h15
    have hr' : strip0 digits = r := by
      rw [← hr]
      cases r with
      | nil => rfl
      | cons b r =>
        have hb : b ≠ 48 := by rintro rfl; simp [byteAt] at h15
        simp [strip0, hb]
    have hN : NormM neg digits scale = (if (trail r scale).1 = [] then (⟨false, [48], 0⟩, 0) else if 60 < (trail r scale).1.length ∨ 60 < (trail r scale).2 then (⟨false, [], 0⟩, 3) else (⟨neg, (trail r scale).1, (trail r scale).2⟩, 0)) := by simp only [NormM, hr']
    rw [hN]
    clear hN hix h15 hr hr'
    refine AW.exit ?_
    simp
    refine AW.seq ?_
    refine AW.block ?_
    refine AW.loop (α := List UInt8 × Nat) (fun a => trail r scale = trail a.1 a.2 ∧ a.2 ≤ scale ∧ a.1.length ≤ digits.length) (fun a => ⟨upds 55 [(0, .p (.bool neg)), (1, .p (.str a.1)), (2, .p (.int .i64 a.2)), (6, .ptr 6 0)], [], [(6, .vars 24 [.p (.bool false), .p (.str []), .p (.int .i64 0)])], 0⟩) (fun a => a.2) ((r, scale)) ⟨rfl, Nat.le_refl _, hrl⟩ ⟨upds_le (by simp), rfl, by simp, by simp⟩ ?_
    rintro ⟨d, k⟩ ⟨ht, hk, hdl⟩
    simp only at ht hk hdl
    have hix : 0 < d.length → d[d.length - 1]? = some (d.getD (d.length - 1) 0) := fun h => byteAt_get (by omega)
    refine AW.seq ?_
    refine AW.seqRegionO [.int .u8 (byteAt d (d.length - 1))] ?_
    refine AOpsO.one tok [0, 1, 2, 6, 18] (by intro C; conv => lhs; simp) (by first | with_reducible exact True.intro | (first | exact fun h1 h2 => ⟨⟨h1, h2⟩, by omega, by omega⟩ | exact fun h1 h2 => ⟨⟨h1, h2⟩, by omega, _, hix h2, rfl⟩ | simp; done) | omega | simp | (simp; omega) | (simp +contextual; omega)) rfl ?_
    refine AOpsO.one tok [0, 1, 2, 6, 19] (by intro C; conv => lhs; simp) (by first | with_reducible exact True.intro | (first | exact fun h1 h2 => ⟨⟨h1, h2⟩, by omega, by omega⟩ | exact fun h1 h2 => ⟨⟨h1, h2⟩, by omega, _, hix h2, rfl⟩ | simp; done) | omega | simp | (simp; omega) | (simp +contextual; omega)) rfl ?_
    refine AOpsO.one tok [0, 1, 2, 6, 20] (by intro C; conv => lhs; simp) (by first | with_reducible exact True.intro | (first | exact fun h1 h2 => ⟨⟨h1, h2⟩, by omega, by omega⟩ | exact fun h1 h2 => ⟨⟨h1, h2⟩, by omega, _, hix h2, rfl⟩ | simp; done) | omega | simp | (simp; omega) | (simp +contextual; omega)) rfl ?_
    refine AOpsO.oneIf tok [0, 1, 2, 6, 20, 21] 20 (by intro C; conv => lhs; simp) (by first | with_reducible exact True.intro | (first | exact fun h1 h2 => ⟨⟨h1, h2⟩, by omega, by omega⟩ | exact fun h1 h2 => ⟨⟨h1, h2⟩, by omega, _, hix h2, rfl⟩ | simp; done) | omega | simp | (simp; omega) | (simp +contextual; omega)) rfl rfl ?_
    refine AOpsO.oneIf tok [0, 1, 2, 6, 20, 22] 20 (by intro C; conv => lhs; simp) (by first | with_reducible exact True.intro | (first | exact fun h1 h2 => ⟨⟨h1, h2⟩, by omega, by omega⟩ | exact fun h1 h2 => ⟨⟨h1, h2⟩, by omega, _, hix h2, rfl⟩ | simp; done) | omega | simp | (simp; omega) | (simp +contextual; omega)) rfl rfl ?_
    refine AOpsO.oneIf tok [0, 1, 2, 6, 20, 23] 20 (by intro C; conv => lhs; simp) (by first | with_reducible exact True.intro | (first | exact fun h1 h2 => ⟨⟨h1, h2⟩, by omega, by omega⟩ | exact fun h1 h2 => ⟨⟨h1, h2⟩, by omega, _, hix h2, rfl⟩ | simp; done) | omega | simp | (simp; omega) | (simp +contextual; omega)) rfl rfl ?_
    refine AOpsO.one tok [0, 1, 2, 6, 24] (by intro C; conv => lhs; simp) (by first | with_reducible exact True.intro | (first | exact fun h1 h2 => ⟨⟨h1, h2⟩, by omega, by omega⟩ | exact fun h1 h2 => ⟨⟨h1, h2⟩, by omega, _, hix h2, rfl⟩ | simp; done) | omega | simp | (simp; omega) | (simp +contextual; omega)) rfl ?_
    refine AOpsO.one tok [0, 1, 2, 6, 25] (by intro C; conv => lhs; simp) (by first | with_reducible exact True.intro | (first | exact fun h1 h2 => ⟨⟨h1, h2⟩, by omega, by omega⟩ | exact fun h1 h2 => ⟨⟨h1, h2⟩, by omega, _, hix h2, rfl⟩ | simp; done) | omega | simp | (simp; omega) | (simp +contextual; omega)) rfl ?_
    refine AOpsO.oneIf tok [0, 1, 2, 6, 25, 26] 25 (by intro C; conv => lhs; simp) (by first | with_reducible exact True.intro | (first | exact fun h1 h2 => ⟨⟨h1, h2⟩, by omega, by omega⟩ | exact fun h1 h2 => ⟨⟨h1, h2⟩, by omega, _, hix h2, rfl⟩ | simp; done) | omega | simp | (simp; omega) | (simp +contextual; omega)) rfl rfl ?_
    refine AOpsO.oneIf tok [0, 1, 2, 6, 25, 26, 27] 25 (by intro C; conv => lhs; simp) (by first | with_reducible exact True.intro | (first | exact fun h1 h2 => ⟨⟨h1, h2⟩, by omega, by omega⟩ | exact fun h1 h2 => ⟨⟨h1, h2⟩, by omega, _, hix h2, rfl⟩ | simp; done) | omega | simp | (simp; omega) | (simp +contextual; omega)) rfl rfl ?_
    refine AOpsO.oneIf tok [0, 1, 2, 6, 25, 26, 28] 25 (by intro C; conv => lhs; simp) (by first | with_reducible exact True.intro | (first | exact fun h1 h2 => ⟨⟨h1, h2⟩, by omega, by omega⟩ | exact fun h1 h2 => ⟨⟨h1, h2⟩, by omega, _, hix h2, rfl⟩ | simp; done) | omega | simp | (simp; omega) | (simp +contextual; omega)) rfl rfl ?_
    refine AOpsO.oneIf tok [0, 1, 2, 6, 25, 26, 29] 25 (by intro C; conv => lhs; simp) (by first | with_reducible exact True.intro | (first | exact fun h1 h2 => ⟨⟨h1, h2⟩, by omega, by omega⟩ | exact fun h1 h2 => ⟨⟨h1, h2⟩, by omega, _, hix h2, rfl⟩ | simp; done) | omega | simp | (simp; omega) | (simp +contextual; omega)) rfl rfl ?_
    refine AOpsO.oneIf tok [0, 1, 2, 6, 25, 30] 25 (by intro C; conv => lhs; simp) (by first | with_reducible exact True.intro | (first | exact fun h1 h2 => ⟨⟨h1, h2⟩, by omega, by omega⟩ | exact fun h1 h2 => ⟨⟨h1, h2⟩, by omega, _, hix h2, rfl⟩ | simp; done) | omega | simp | (simp; omega) | (simp +contextual; omega)) rfl rfl ?_
    refine AOpsO.oneIf tok [0, 1, 2, 6, 25, 31] 25 (by intro C; conv => lhs; simp) (by first | with_reducible exact True.intro | (first | exact fun h1 h2 => ⟨⟨h1, h2⟩, by omega, by omega⟩ | exact fun h1 h2 => ⟨⟨h1, h2⟩, by omega, _, hix h2, rfl⟩ | simp; done) | omega | simp | (simp; omega) | (simp +contextual; omega)) rfl rfl ?_
    refine AOpsO.one tok [0, 1, 2, 6, 32] (by intro C; conv => lhs; simp) (by first | with_reducible exact True.intro | (first | exact fun h1 h2 => ⟨⟨h1, h2⟩, by omega, by omega⟩ | exact fun h1 h2 => ⟨⟨h1, h2⟩, by omega, _, hix h2, rfl⟩ | simp; done) | omega | simp | (simp; omega) | (simp +contextual; omega)) rfl ?_
    refine AOpsO.nil ?_
    refine AW.cond (c := .tmp 32) (by conv => lhs; simp) trivial ?_ ?_
    · intro h32
      try simp at h32
      obtain ⟨k, rfl⟩ : ∃ k', k = k' + 1 := ⟨k - 1, by omega⟩
      have hl := (byteAt_last h32.1.2).1 h32.2
      have ht' : trail r scale = trail d.dropLast k := by rw [ht]; simp only [trail]; rw [if_pos hl]
      refine AW.skip ?_
      refine AW.block ?_
      refine AW.seqRegionO [] ?_
      refine AOpsO.one tok [0, 1, 2, 6, 33] (by intro C; conv => lhs; simp) (by first | with_reducible exact True.intro | omega | simp | (simp; omega) | (simp +contextual; omega)) rfl ?_
      refine AOpsO.one tok [0, 2, 6, 33, 34] (by intro C; conv => lhs; simp) (by first | with_reducible exact True.intro | omega | simp | (simp; omega) | (simp +contextual; omega)) rfl ?_
      refine AOpsO.one tok [0, 2, 6, 33, 35] (by intro C; conv => lhs; simp) (by first | with_reducible exact True.intro | omega | simp | (simp; omega) | (simp +contextual; omega)) rfl ?_
      refine AOpsO.one tok [0, 2, 6, 33, 36] (by intro C; conv => lhs; simp) (by first | with_reducible exact True.intro | omega | simp | (simp; omega) | (simp +contextual; omega)) rfl ?_
      refine AOpsO.one tok [0, 2, 6, 37] (by intro C; conv => lhs; simp) (by first | with_reducible exact True.intro | omega | simp | (simp; omega) | (simp +contextual; omega)) rfl ?_
      refine AOpsO.one tok [0, 1, 2, 6] (by intro C; conv => lhs; simp) (by first | with_reducible exact True.intro | omega | simp | (simp; omega) | (simp +contextual; omega)) rfl ?_
      refine AOpsO.nil ?_
      refine AW.regionO [] ?_
      refine AOpsO.one tok [0, 1, 6, 38] (by intro C; conv => lhs; simp) (by first | with_reducible exact True.intro | omega | simp | (simp; omega) | (simp +contextual; omega)) rfl ?_
      refine AOpsO.one tok [0, 1, 6, 39] (by intro C; conv => lhs; simp) (by first | with_reducible exact True.intro | omega | simp | (simp; omega) | (simp +contextual; omega)) rfl ?_
      refine AOpsO.one tok [0, 1, 2, 6] (by intro C; conv => lhs; simp) (by first | with_reducible exact True.intro | omega | simp | (simp; omega) | (simp +contextual; omega)) rfl ?_
      refine AOpsO.nil ?_
      exact ⟨(d.dropLast, k), ⟨ht', by simp only []; omega, by simp; omega⟩, by simp, upds_le (by simp [take_last]), rfl, by simp [take_last], by simp [take_last]⟩
    · intro h32
      try simp at h32
      have htl : trail d k = (d, k) := by
        cases k with
        | zero => rfl
        | succ k =>
          simp only [trail]
          rw [if_neg]
          intro hl
          have hpos : 0 < d.length := by cases d with
            | nil => simp at hl
            | cons => simp
          have := (byteAt_last hpos).2 hl
          simp [hpos, this] at h32
      rw [ht, htl]
      refine AW.exit ?_
      simp
      refine AW.seq ?_
      refine AW.seqRegionO [] ?_
      refine AOpsO.one tok [0, 1, 2, 6, 40] (by intro C; conv => lhs; simp) (by first | with_reducible exact True.intro | omega | simp | (simp; omega) | (simp +contextual; omega)) rfl ?_
      refine AOpsO.one tok [0, 1, 2, 6, 41] (by intro C; conv => lhs; simp) (by first | with_reducible exact True.intro | omega | simp | (simp; omega) | (simp +contextual; omega)) rfl ?_
      refine AOpsO.nil ?_
      refine AW.cond (c := .tmp 41) (by conv => lhs; simp) trivial ?_ ?_
      · intro h41
        try simp at h41
        subst h41
        refine AW.seqRegionO [] ?_
        refine AOpsO.one tok [6, 42] (by intro C; conv => lhs; simp) (by first | with_reducible exact True.intro | omega | simp | (simp; omega) | (simp +contextual; omega)) rfl ?_
        refine AOpsO.one tok [6] (by intro C; conv => lhs; simp) (by first | with_reducible exact True.intro | omega | simp | (simp; omega) | (simp +contextual; omega)) rfl ?_
        refine AOpsO.one tok [6, 7] (by intro C; conv => lhs; simp) (by first | with_reducible exact True.intro | omega | simp | (simp; omega) | (simp +contextual; omega)) rfl ?_
        refine AOpsO.nil ?_
        exact AW.ret ⟨.inr rfl, _, _, by (conv => lhs; simp), trivial, by simp⟩
      · intro h41
        try simp at h41
        refine AW.skip ?_
        refine AW.seq ?_
        refine AW.seqRegionO [] ?_
        refine AOpsO.one tok [0, 1, 2, 6, 43] (by intro C; conv => lhs; simp) (by first | with_reducible exact True.intro | omega | simp | (simp; omega) | (simp +contextual; omega)) rfl ?_
        refine AOpsO.one tok [0, 1, 2, 6, 44] (by intro C; conv => lhs; simp) (by first | with_reducible exact True.intro | omega | simp | (simp; omega) | (simp +contextual; omega)) rfl ?_
        refine AOpsO.one tok [0, 1, 2, 6, 45] (by intro C; conv => lhs; simp) (by first | with_reducible exact True.intro | omega | simp | (simp; omega) | (simp +contextual; omega)) rfl ?_
        refine AOpsO.one tok [0, 1, 2, 6, 46] (by intro C; conv => lhs; simp) (by first | with_reducible exact True.intro | omega | simp | (simp; omega) | (simp +contextual; omega)) rfl ?_
        refine AOpsO.oneIf tok [0, 1, 2, 6, 46, 47] 46 (by intro C; conv => lhs; simp) (by first | with_reducible exact True.intro | omega | simp | (simp; omega) | (simp +contextual; omega)) rfl rfl ?_
        refine AOpsO.oneIf tok [0, 1, 2, 6, 46, 48] 46 (by intro C; conv => lhs; simp) (by first | with_reducible exact True.intro | omega | simp | (simp; omega) | (simp +contextual; omega)) rfl rfl ?_
        refine AOpsO.one tok [0, 1, 2, 6, 49] (by intro C; conv => lhs; simp) (by first | with_reducible exact True.intro | omega | simp | (simp; omega) | (simp +contextual; omega)) rfl ?_
        refine AOpsO.nil ?_
        refine AW.cond (c := .tmp 49) (by conv => lhs; simp) trivial ?_ ?_
        · intro h49
          try simp at h49
          have hbig : 60 < d.length ∨ 60 < k := by omega
          refine AW.seqRegionO [] ?_
          refine AOpsO.one tok [6, 50] (by intro C; conv => lhs; simp) (by first | with_reducible exact True.intro | omega | simp | (simp; omega) | (simp +contextual; omega)) rfl ?_
          refine AOpsO.one tok [6] (by intro C; conv => lhs; simp) (by first | with_reducible exact True.intro | omega | simp | (simp; omega) | (simp +contextual; omega)) rfl ?_
          refine AOpsO.one tok [6, 7] (by intro C; conv => lhs; simp) (by first | with_reducible exact True.intro | omega | simp | (simp; omega) | (simp +contextual; omega)) rfl ?_
          refine AOpsO.nil ?_
          exact AW.ret ⟨.inr rfl, _, _, by (conv => lhs; simp), trivial, by simp [h41, hbig]⟩
        · intro h49
          try simp at h49
          have hbig : ¬ (60 < d.length ∨ 60 < k) := by omega
          refine AW.skip ?_
          refine AW.seqRegionO [] ?_
          refine AOpsO.one tok [1, 2, 6, 51] (by intro C; conv => lhs; simp) (by first | with_reducible exact True.intro | omega | simp | (simp; omega) | (simp +contextual; omega)) rfl ?_
          refine AOpsO.one tok [2, 6, 51, 52] (by intro C; conv => lhs; simp) (by first | with_reducible exact True.intro | omega | simp | (simp; omega) | (simp +contextual; omega)) rfl ?_
          refine AOpsO.one tok [6, 51, 52, 53] (by intro C; conv => lhs; simp) (by first | with_reducible exact True.intro | omega | simp | (simp; omega) | (simp +contextual; omega)) rfl ?_
          refine AOpsO.one tok [6, 54] (by intro C; conv => lhs; simp) (by first | with_reducible exact True.intro | omega | simp | (simp; omega) | (simp +contextual; omega)) rfl ?_
          refine AOpsO.one tok [6] (by intro C; conv => lhs; simp) (by first | with_reducible exact True.intro | omega | simp | (simp; omega) | (simp +contextual; omega)) rfl ?_
          refine AOpsO.one tok [6, 7] (by intro C; conv => lhs; simp) (by first | with_reducible exact True.intro | omega | simp | (simp; omega) | (simp +contextual; omega)) rfl ?_
          refine AOpsO.nil ?_
          exact AW.ret ⟨.inr rfl, _, _, by (conv => lhs; simp), trivial, by simp [h41, hbig]⟩
end Go.Proofs.YtgoepemmcibdaaaDoor
