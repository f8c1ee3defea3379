import Derived.Test.YtgoepemmcibdaaaGreatDoorM4
import Derived.Test.YtgoepemmcibdaaaGreatDoorM3
import Derived.RangeFuncBox
import Derived.RangeFuncLeaves
import Derived.Shelf.Abstract
import Derived.WalkKit
import Derived.OwnWalkIn
import Derived.TacticsInMore
import Derived.LoopNIn
import Derived.LoopIn
import Derived.Maps.AppendAt
import Derived.Shelf.Sort.Plain
import Derived.Test.YtgoepemmcibdaaaGreatDoorProg
import Derived.Shelf.Unicode.ValidAny
import Derived.Shelf.Small.Strs
import Derived.Shelf.Strings.Repeat
import Derived.Lib.LaidU8T
import Derived.Shelf.Slices.In.SortNone
import Derived.Sort.OwnSorted
/-
  OUR OWN LAYER: the iterator over a slice of texts, and what is collected from it (a worked proof of the kit, turned to texts).
-/
namespace Go.Proofs.YtgoepemmcibdaaaGreatDoor
open Go Go.RowKit Go.Shelf Go.Maps Go.Sort
attribute [local go_sem] Oper.semAt_some
def upto {α : Type} (f : Nat → α) (k : Nat) : List α := (List.range k).map f
theorem upto_succ {α : Type} (f : Nat → α) (k : Nat) : upto f (k + 1) = upto f k ++ [f k] := by simp [upto, List.range_succ]
theorem upto_length {α : Type} (f : Nat → α) (k : Nat) : (upto f k).length = k := by simp [upto]
theorem upto_take (zs : List (List UInt8)) {k : Nat} (hk : k ≤ zs.length) : upto (fun j => zs[j]?.getD []) k = zs.take k := by
  apply List.ext_getElem
  · simp [upto, hk]
  · intro i h1 h2
    have : i < zs.length := by simp [upto] at h1; omega
    simp [upto, this]
theorem upto_all (zs : List (List UInt8)) : upto (fun j => zs[j]?.getD []) zs.length = zs := by rw [upto_take zs (Nat.le_refl _), List.take_length]

set_option maxRecDepth 100000 in
set_option maxHeartbeats 2000000 in
theorem values1_in (F : Fence) (n : Nat) (h7 : F.fn 94) (hro : F.round = none) (hn : 1 ≤ n) (l Bs n₀ b off len cap : Nat) (zs : List (List UInt8)) (hreach : len * 16 ≤ 140737488351232) (hb : b < n₀) (J Jx : List (List UInt8) → World → Prop)
    (hY : ∀ pre x W, J pre W → pre.length < len → YieldAt F (n - 1) Tryz.prog l #[encStr x] W fun e W' =>
      (e = .returned (.bool true) ∧ J (pre ++ [x]) W' ∧ Below n₀ W W') ∨ (e = .returned (.bool false) ∧ Jx (pre ++ [x]) W'))
    (W : World) (hBs : W.cell? ⟨Bs, 0, none⟩ = some (.slice (some ⟨b, off, none⟩) len cap)) (hc : ∀ j, j < len → W.cell? ⟨b, off + j, none⟩ = some (encStr (zs[j]?.getD []))) (h0 : J [] W) :
    CallsIn F n Tryz.prog 94 #[.func (.yield l) #[] #[], .pointer (some ⟨Bs, 0, none⟩)] W fun e W' => (∃ v, e = .returned v) ∧
      ((∃ ys, ys = upto (fun j => zs[j]?.getD []) len ∧ J ys W') ∨ (∃ pre, (∃ k, k ≤ len ∧ pre = upto (fun j => zs[j]?.getD []) k) ∧ Jx pre W')) := by
  refine callsIn_of_wp Tryz.func94 rfl h7 ?_ hro
  simp only [Tryz.ntmps94, List.size_toArray, List.length_cons, List.length_nil, Nat.reduceAdd, Nat.reduceSub, Array.replicate_succ, Array.replicate_zero, List.push_toArray, List.append_toArray, List.nil_append, List.cons_append]
  gi_wp2
  gi_loopw [7] (fun i wr => ∃ k : Nat, k ≤ len ∧ i = .int .i64 k ∧ J (upto (fun j => zs[j]?.getD []) k) wr ∧ Below n₀ W wr)
    (fun i _ => len - (intOf i).toNat)
  case atStart => exact ⟨0, Nat.zero_le _, rfl, h0, Below.refl _ _⟩
  case round =>
    obtain ⟨k, hk, rfl, hJs, hnx⟩ := hrel
    have hcx : k < len → wr.cell? ⟨b, off + k, none⟩ = some (encStr (zs[k]?.getD [])) := fun h => (hnx.cell (p := ⟨b, off + k, none⟩) hb).trans (hc k h)
    by_cases hlt : k < len
    · obtain ⟨fn, tmps, assign, body, hy, hR⟩ := hY _ (zs[k]?.getD []) wr hJs (by rw [upto_length]; exact hlt)
      have hcx' := hcx hlt
      gi_wp2
      refine hR.mono ?_
      rintro e W3 (⟨rfl, hJ3, hk3⟩ | ⟨rfl, hJx3⟩)
      · gi_wp2
        go_roundw
        case rel => exact ⟨k + 1, by omega, by simp, by rw [upto_succ]; exact hJ3, hnx.trans hk3⟩
        case measure => simp [intOf]; omega
      · gi_wp2
        refine bodyPost_ret (results_none rfl _ _ _) rfl ?_
        exact ⟨⟨_, rfl⟩, .inr ⟨_, ⟨k + 1, by omega, (upto_succ _ _).symm⟩, hJx3⟩⟩
    · obtain rfl : k = len := by omega
      gi_wp2
      go_end0
      exact ⟨⟨_, rfl⟩, .inl ⟨_, rfl, hJs⟩⟩
/-- The slice value 'sv' holds the texts 'zs', in a block below 'n₀'; or there are none. -/
def Strs (n₀ : Nat) (W : World) (sv : Value) (zs : List (List UInt8)) : Prop :=
  (zs = [] ∧ ∃ a c, sv = .slice a 0 c) ∨ ∃ b off cap, sv = .slice (some ⟨b, off, none⟩) zs.length cap ∧ b < n₀ ∧ ∀ j, j < zs.length → W.cell? ⟨b, off + j, none⟩ = some (encStr (zs[j]?.getD []))
theorem Strs.below {n₀ : Nat} {A B : World} (h : Below n₀ A B) {sv : Value} {zs : List (List UInt8)} : Strs n₀ A sv zs → Strs n₀ B sv zs
  | .inl e => .inl e
  | .inr ⟨b, off, cap, e, hb, hc⟩ => .inr ⟨b, off, cap, e, hb, fun j hj => (h.cell (p := ⟨b, off + j, none⟩) hb).trans (hc j hj)⟩
set_option maxRecDepth 100000 in
set_option maxHeartbeats 1000000 in
theorem values1_nil_in (F : Fence) (n : Nat) (h7 : F.fn 94) (hro : F.round = none) (l Bs : Nat) (a : Option Addr) (c : Nat) (J : List (List UInt8) → World → Prop) (W : World) (hBs : W.cell? ⟨Bs, 0, none⟩ = some (.slice a 0 c)) (h0 : J [] W) :
    CallsIn F n Tryz.prog 94 #[.func (.yield l) #[] #[], .pointer (some ⟨Bs, 0, none⟩)] W fun e W' => (∃ v, e = .returned v) ∧ J [] W' := by
  refine callsIn_of_wp Tryz.func94 rfl h7 ?_ hro
  simp only [Tryz.ntmps94, List.size_toArray, List.length_cons, List.length_nil, Nat.reduceAdd, Nat.reduceSub, Array.replicate_succ, Array.replicate_zero, List.push_toArray, List.append_toArray, List.nil_append, List.cons_append]
  gi_wp2
  gi_loopw [7] (fun i wr => i = .int .i64 0 ∧ J [] wr) (fun _ _ => 0)
  case atStart => exact ⟨rfl, h0⟩
  case round =>
    obtain ⟨rfl, hJs⟩ := hrel
    gi_wp2
    go_end0
    exact ⟨⟨_, rfl⟩, hJs⟩
theorem values_stops (F : Fence) (n : Nat) (h7 : F.fn 94) (hro : F.round = none) (hn : 1 ≤ n) (Bs n₀ : Nat) (sv : Value) (zs : List (List UInt8)) (hreach : zs.length * 16 ≤ 140737488351232) (w : World) (hBs : Bs < w.heap.size) (hn₀ : n₀ ≤ w.heap.size)
    (hc : w.cell? ⟨Bs, 0, none⟩ = some sv) (hI : Strs n₀ w sv zs) :
    SeqStopsK F n Tryz.prog 94 #[.pointer (some ⟨Bs, 0, none⟩)] (fun x : List UInt8 => #[encStr x]) (Below n₀) (fun ys => ys = zs) (fun pre => pre <+: zs) zs.length w := fun l J Jx W hW _ _ hY h0 => by
  have hc' := (hW.cell (p := ⟨Bs, 0, none⟩) hBs).trans hc
  rcases hI.below (hW.mono hn₀) with ⟨rfl, a, c, rfl⟩ | ⟨b, off, cap, rfl, hb, hcs⟩
  · exact (values1_nil_in F n h7 hro l Bs a c J W hc' h0).mono fun e W' ⟨he, hj⟩ => ⟨he, .inl ⟨_, rfl, hj⟩⟩
  · refine (values1_in F n h7 hro hn l Bs n₀ b off zs.length cap zs hreach hb J Jx hY W hc' hcs h0).mono ?_
    rintro e W' ⟨he, ⟨ys, rfl, hj⟩ | ⟨pre, ⟨k, hk, rfl⟩, hj⟩⟩
    · exact ⟨he, .inl ⟨_, upto_all zs, hj⟩⟩
    · exact ⟨he, .inr ⟨_, by rw [upto_take zs hk]; exact List.take_prefix _ _, hj⟩⟩
theorem strInfo : (Tryz.prog.info? 9).map (fun i => (i.zero, i.size, i.bytes)) = some (some (.string .empty), 1, 16) := by kernel_rfl
set_option maxRecDepth 100000 in
set_option maxHeartbeats 2000000 in
theorem appendSeq_in (F : Fence) (n : Nat) (h3 : F.fn 106) (h5 : F.fn 94) (hro : F.round = none) (hn : 3 ≤ n) (Bs : Nat) (sv : Value) (zs : List (List UInt8)) (hlen : zs.length ≤ maxLen) (hbytes : zs.length * 16 ≤ 140737488351232) (w : World)
    (hBs : Bs < w.heap.size) (hc0 : w.cell? ⟨Bs, 0, none⟩ = some sv) (hI : Strs w.heap.size w sv zs) :
    CallsIn F n Tryz.prog 106 #[.slice none 0 0, .func (.func 94) #[] #[.pointer (some ⟨Bs, 0, none⟩)]] w fun e W' => ∃ v, e = .returned v ∧ W'.ownsRow w.heap.size 9 1 v zs.length (zs.map encStr) ∧ Below w.heap.size w W' := by
  have h1 : 1 ≤ n := by omega
  obtain ⟨i0, hi, hz0, hz1, hz2⟩ := info_parts strInfo
  refine callsIn_of_wp_marks Tryz.func106 rfl h3 ?_ hro
  simp only [Tryz.ntmps106, List.size_toArray, List.length_cons, List.length_nil, Nat.reduceAdd, Nat.reduceSub, Array.replicate_succ, Array.replicate_zero, List.push_toArray, List.append_toArray, List.nil_append, List.cons_append]
  gi_wp2
  have bO := Boxed.new w 27 (.slice none 0 0)
  have hB0 : Below w.heap.size w (w.alloc (.cells #[.slice none 0 0] 27)) := (Below.refl _ w).alloc (Nat.le_refl _) _
  refine wpIn_rangeFunc_ownG hro h1 (gf := 94) (lb := #[.pointer (some ⟨Bs, 0, none⟩)]) rfl h5 (enters_of Tryz.func94 (by kernel_rfl) rfl)
    (values_stops F (n - 1) h5 hro (by omega) Bs w.heap.size sv zs hbytes _ (by simp; omega) (by simp) ((hB0.cell (p := ⟨Bs, 0, none⟩) hBs).trans hc0) (hI.below hB0)) belowK_t (belowK_b (by simp)) (Below.refl _ _) (fun _ => rfl)
    (fun pre W => (∃ v, Boxed W w.heap.size 27 v ∧ W.ownsRow w.heap.size 9 1 v pre.length (pre.map encStr) ∧ True) ∧ Below w.heap.size w W)
    (fun _ _ _ => False)
    (OwnFrom.and (Own.from (holdsRow_own w.heap.size w.heap.size 27 9 1 (fun pre : List (List UInt8) => pre.length) (fun pre => pre.map encStr) (fun _ _ => True)) _) (ownFrom_below (Nat.le_refl _) (by simp)))
    (fun _ _ _ _ _ hs _ _ => hs)
    ⟨⟨_, bO, World.ownsRow_nil _ _ _ _, trivial⟩, hB0⟩
    (fun x => { tmps := #[.slice none 0 0, .func (.func 94) #[] #[.pointer (some ⟨Bs, 0, none⟩)], .pointer (some ⟨w.heap.size, 0, none⟩), undef, .slice none 0 0, encStr x, .func (.func 94) #[] #[.pointer (some ⟨Bs, 0, none⟩)], encStr x, undef, undef, undef, undef, undef], defers := [] }) ?assign ?body ?done ?stop
  case assign =>
    intro l x W K hK
    gi_wp2
    exact hK
  case body =>
    rintro l pre x W ⟨⟨v, hv, hrow, _⟩, hB⟩ hlt
    have hc := hv.cell
    gi_wp2_with (gi_at_builtin; refine wpListIn_append_own _ rfl _ _ 27 rfl w.heap.size 9 i0 (.string .empty) 1 16 Tryz.underlying27 hi hz0 hz1 hz2 rfl (by decide) _ _ _ rfl (hrow.alloc _) ⟨W.heap.size, 0, none⟩ 1 1 [encStr x] rfl rfl (cell_one_new _ _ _) (by simp [Value.oneCell']) (by omega) (by omega) (by have := hB.size; simp; omega) ?_; intro v' w1 hown' hgrow _; obtain ⟨g', cap', rfl⟩ := ownsRow_succ hown'; obtain ⟨hv1, hv2, hr2, hk2, hb2⟩ := hv.appended (by decide) hrow hB.size (Nat.le_refl _) hown' hgrow; have hc1 := hv1.cell; have hf1 := hv1.frozen)
    exact ⟨hk2.from _, hb2, ⟨_, hv2, by simpa using hr2, trivial⟩, hB.trans hb2⟩
  case done =>
    rintro D ys W hD rfl ⟨⟨v, hv, hrow, _⟩, hB⟩ hK
    have hc := hv.cell
    gi_wp2
    refine ⟨by simp, .inl ⟨_, _, rfl, run_takeDeferred hK, ?_⟩⟩
    exact ⟨_, results_tmp rfl _ _ _, v, rfl, ownsRow_putObj hrow _ hK rfl, hB.trans (belowK_b (w := w) (Nat.le_refl _) W D _ _ (by simp at hD; omega) hK rfl rfl)⟩
  case stop =>
    rintro D c pre W _ _ h _
    exact h.elim
set_option maxRecDepth 100000 in
set_option maxHeartbeats 2000000 in
theorem collect_in (F : Fence) (n : Nat) (h2 : F.fn 92) (h3 : F.fn 106) (h5 : F.fn 94) (hro : F.round = none) (hn : 4 ≤ n) (Bs : Nat) (sv : Value) (zs : List (List UInt8)) (hlen : zs.length ≤ maxLen) (hbytes : zs.length * 16 ≤ 140737488351232) (w : World)
    (hBs : Bs < w.heap.size) (hc0 : w.cell? ⟨Bs, 0, none⟩ = some sv) (hI : Strs w.heap.size w sv zs) :
    CallsIn F n Tryz.prog 92 #[.func (.func 94) #[] #[.pointer (some ⟨Bs, 0, none⟩)]] w fun e W' => ∃ v, e = .returned v ∧ W'.ownsRow w.heap.size 9 1 v zs.length (zs.map encStr) ∧ Below w.heap.size w W' := by
  have h1 : 1 ≤ n := by omega
  refine callsIn_of_wp Tryz.func92 rfl h2 ?_ hro
  simp only [Tryz.ntmps92, List.size_toArray, List.length_cons, List.length_nil, Nat.reduceAdd, Nat.reduceSub, Array.replicate_succ, Array.replicate_zero, List.push_toArray, List.append_toArray, List.nil_append, List.cons_append]
  gi_wp2_with (gi_at_call 106; refine (appendSeq_in F (n - 1) h3 h5 hro (by omega) Bs sv zs hlen hbytes _ hBs hc0 hI).mono ?_; rintro e W ⟨v, rfl, hrow, hb⟩)
  go_ret
  exact ⟨v, rfl, hrow, hb⟩
theorem collect_calls (Bs : Nat) (sv : Value) (zs : List (List UInt8)) (hlen : zs.length ≤ maxLen) (hbytes : zs.length * 16 ≤ 140737488351232) (w : World) (hBs : Bs < w.heap.size) (hc0 : w.cell? ⟨Bs, 0, none⟩ = some sv) (hI : Strs w.heap.size w sv zs) :
    Calls Tryz.prog 92 #[.func (.func 94) #[] #[.pointer (some ⟨Bs, 0, none⟩)]] w fun e W' => ∃ v, e = .returned v ∧ W'.ownsRow w.heap.size 9 1 v zs.length (zs.map encStr) ∧ Below w.heap.size w W' :=
  (callsIn_wide (n := 4)).1 (collect_in _ 4 trivial trivial trivial rfl (Nat.le_refl _) Bs sv zs hlen hbytes w hBs hc0 hI)
end Go.Proofs.YtgoepemmcibdaaaGreatDoor
/-
  DERIVED: THE SHELF's CONTRACTS AT THIS DUMP, IN PLAIN WORDS (tools/lay-plain.mjs out of 'TryzShelfQ.lean', which tools/lay-shelf.mjs wrote): THE SAME DECLARATIONS UNDER THE SAME NAMES: 'import', 'namespace', 'open', 'def', 'theorem' AND NOTHING ELSE: no command of the shelf's: FOR A HAND-IN. Each laying: the table of numbers ('.._ren') and one theorem, a field a fact of the dump's own or the kernel's comparison; each contract: ONE APPLICATION.
-/
namespace Go.Proofs
open Go.Shelf
def Tryz.lays196_ren : Go.Shelf.Ren := ⟨fun | 196 => 110 | 259 => 128 | n => n, fun | 9 => 9 | 4 => 4 | 3 => 3 | 5 => 5 | 12 => 12 | 119 => 148 | 0 => 0 | 46 => 112 | 139 => 151 | 138 => 150 | 53 => 23 | n => n, fun | 3 => 1 | 4 => 2 | n => n⟩
theorem Tryz.lays196 : Go.Proofs.Lays.n196 Tryz.prog Tryz.lays196_ren := {
  mixed := by kernel_rfl
  f196 := Tryz.func110.trans (congrArg some (by kernel_rfl))
  f259 := Tryz.func128.trans (congrArg some (by kernel_rfl))
  t0 := Tryz.underlying0
  a0 := Tryz.isAgg0
  z0 := Tryz.sizeOf0
  v0 := Tryz.zeroValue0
  t3 := Tryz.underlying3
  a3 := Tryz.isAgg3
  z3 := Tryz.sizeOf3
  v3 := Tryz.zeroValue3
  t4 := Tryz.underlying4
  a4 := Tryz.isAgg4
  z4 := Tryz.sizeOf4
  v4 := Tryz.zeroValue4
  t5 := Tryz.underlying5
  a5 := Tryz.isAgg5
  z5 := Tryz.sizeOf5
  v5 := Tryz.zeroValue5
  t9 := Tryz.underlying9
  a9 := Tryz.isAgg9
  z9 := Tryz.sizeOf9
  v9 := Tryz.zeroValue9
  t12 := Tryz.underlying12
  a12 := Tryz.isAgg12
  z12 := Tryz.sizeOf12
  v12 := Tryz.zeroValue12
  t46 := Tryz.underlying112
  a46 := Tryz.isAgg112
  z46 := Tryz.sizeOf112
  v46 := Tryz.zeroValue112
  t53 := Tryz.underlying23
  a53 := Tryz.isAgg23
  z53 := Tryz.sizeOf23
  v53 := Tryz.zeroValue23
  t119 := Tryz.underlying148
  a119 := Tryz.isAgg148
  z119 := Tryz.sizeOf148
  t138 := Tryz.underlying150
  a138 := Tryz.isAgg150
  z138 := Tryz.sizeOf150
  v138 := Tryz.zeroValue150
  t139 := Tryz.underlying151
  a139 := Tryz.isAgg151
  z139 := Tryz.sizeOf151
  v139 := Tryz.zeroValue151
  g3 := by kernel_rfl
  g4 := by kernel_rfl }
def Tryz.lays106_ren : Go.Shelf.Ren := ⟨fun | 106 => 45 | 213 => 76 | 265 => 91 | n => n, fun | 9 => 9 | 3 => 3 | n => n, fun | n => n⟩
theorem Tryz.lays106 : Go.Proofs.Lays.n106 Tryz.prog Tryz.lays106_ren := {
  mixed := by kernel_rfl
  f106 := Tryz.func45.trans (congrArg some (by kernel_rfl))
  f213 := Tryz.func76.trans (congrArg some (by kernel_rfl))
  f265 := Tryz.func91.trans (congrArg some (by kernel_rfl))
  t3 := Tryz.underlying3
  a3 := Tryz.isAgg3
  z3 := Tryz.sizeOf3
  v3 := Tryz.zeroValue3
  t9 := Tryz.underlying9
  a9 := Tryz.isAgg9
  z9 := Tryz.sizeOf9
  v9 := Tryz.zeroValue9 }
def Tryz.lays105_ren : Go.Shelf.Ren := ⟨fun | 105 => 90 | 212 => 100 | 99 => 101 | 165 => 102 | 166 => 103 | 170 => 104 | 169 => 105 | 263 => 111 | 264 => 112 | 206 => 113 | 240 => 114 | 241 => 115 | 276 => 129 | 277 => 130 | n => n, fun | 9 => 9 | 3 => 3 | 4 => 4 | 20 => 20 | 0 => 0 | 46 => 112 | 109 => 113 | 5 => 5 | 72 => 118 | 76 => 122 | 51 => 130 | 146 => 131 | 53 => 23 | 148 => 133 | 70 => 116 | 37 => 110 | 75 => 121 | 127 => 135 | 164 => 152 | 80 => 125 | n => n, fun | n => n⟩
theorem Tryz.lays105 : Go.Proofs.Lays.n105 Tryz.prog Tryz.lays105_ren := {
  mixed := by kernel_rfl
  f99 := Tryz.func101.trans (congrArg some (by kernel_rfl))
  f105 := Tryz.func90.trans (congrArg some (by kernel_rfl))
  f165 := Tryz.func102.trans (congrArg some (by kernel_rfl))
  f166 := Tryz.func103.trans (congrArg some (by kernel_rfl))
  f169 := Tryz.func105.trans (congrArg some (by kernel_rfl))
  f170 := Tryz.func104.trans (congrArg some (by kernel_rfl))
  f206 := Tryz.func113.trans (congrArg some (by kernel_rfl))
  f212 := Tryz.func100.trans (congrArg some (by kernel_rfl))
  f240 := Tryz.func114.trans (congrArg some (by kernel_rfl))
  f241 := Tryz.func115.trans (congrArg some (by kernel_rfl))
  f263 := Tryz.func111.trans (congrArg some (by kernel_rfl))
  f264 := Tryz.func112.trans (congrArg some (by kernel_rfl))
  f276 := Tryz.func129.trans (congrArg some (by kernel_rfl))
  f277 := Tryz.func130.trans (congrArg some (by kernel_rfl))
  t0 := Tryz.underlying0
  a0 := Tryz.isAgg0
  z0 := Tryz.sizeOf0
  v0 := Tryz.zeroValue0
  t3 := Tryz.underlying3
  a3 := Tryz.isAgg3
  z3 := Tryz.sizeOf3
  v3 := Tryz.zeroValue3
  t4 := Tryz.underlying4
  a4 := Tryz.isAgg4
  z4 := Tryz.sizeOf4
  v4 := Tryz.zeroValue4
  t5 := Tryz.underlying5
  a5 := Tryz.isAgg5
  z5 := Tryz.sizeOf5
  v5 := Tryz.zeroValue5
  t9 := Tryz.underlying9
  a9 := Tryz.isAgg9
  z9 := Tryz.sizeOf9
  v9 := Tryz.zeroValue9
  t20 := Tryz.underlying20
  a20 := Tryz.isAgg20
  z20 := Tryz.sizeOf20
  v20 := Tryz.zeroValue20
  t37 := Tryz.underlying110
  a37 := Tryz.isAgg110
  z37 := Tryz.sizeOf110
  v37 := Tryz.zeroValue110
  t46 := Tryz.underlying112
  a46 := Tryz.isAgg112
  z46 := Tryz.sizeOf112
  v46 := Tryz.zeroValue112
  t51 := Tryz.underlying130
  a51 := Tryz.isAgg130
  z51 := Tryz.sizeOf130
  v51 := Tryz.zeroValue130
  t53 := Tryz.underlying23
  a53 := Tryz.isAgg23
  z53 := Tryz.sizeOf23
  v53 := Tryz.zeroValue23
  t70 := Tryz.underlying116
  a70 := Tryz.isAgg116
  z70 := Tryz.sizeOf116
  v70 := Tryz.zeroValue116
  t72 := Tryz.underlying118
  a72 := Tryz.isAgg118
  z72 := Tryz.sizeOf118
  v72 := Tryz.zeroValue118
  t75 := Tryz.underlying121
  a75 := Tryz.isAgg121
  z75 := Tryz.sizeOf121
  v75 := Tryz.zeroValue121
  t76 := Tryz.underlying122
  a76 := Tryz.isAgg122
  z76 := Tryz.sizeOf122
  v76 := Tryz.zeroValue122
  t109 := Tryz.underlying113
  a109 := Tryz.isAgg113
  z109 := Tryz.sizeOf113
  v109 := Tryz.zeroValue113
  t127 := Tryz.underlying135
  a127 := Tryz.isAgg135
  z127 := Tryz.sizeOf135
  v127 := Tryz.zeroValue135
  t146 := Tryz.underlying131
  a146 := Tryz.isAgg131
  z146 := Tryz.sizeOf131
  v146 := Tryz.zeroValue131
  t148 := Tryz.underlying133
  a148 := Tryz.isAgg133
  z148 := Tryz.sizeOf133
  v148 := Tryz.zeroValue133
  t164 := Tryz.underlying152
  a164 := Tryz.isAgg152
  z164 := Tryz.sizeOf152
  v164 := Tryz.zeroValue152 }
def Tryz.lays190_ren : Go.Shelf.Ren := ⟨fun | 190 => 93 | 125 => 108 | 258 => 107 | 128 => 125 | 129 => 126 | 302 => 116 | 303 => 117 | 304 => 118 | 305 => 119 | 306 => 120 | 307 => 121 | 308 => 122 | 309 => 123 | 310 => 124 | 333 => 131 | 329 => 132 | 330 => 133 | 334 => 134 | 335 => 135 | 336 => 95 | 344 => 136 | n => n, fun | 31 => 27 | 9 => 9 | 3 => 3 | 46 => 112 | 0 => 0 | 51 => 130 | 53 => 23 | 4 => 4 | 183 => 138 | 182 => 137 | 131 => 142 | 5 => 5 | 218 => 155 | 222 => 159 | 228 => 161 | 229 => 36 | n => n, fun | n => n⟩
theorem Tryz.lays190 : Go.Proofs.Lays.n190 Tryz.prog Tryz.lays190_ren := {
  mixed := by kernel_rfl
  f125 := Tryz.func108.trans (congrArg some (by kernel_rfl))
  f128 := Tryz.func125.trans (congrArg some (by kernel_rfl))
  f129 := Tryz.func126.trans (congrArg some (by kernel_rfl))
  f190 := Tryz.func93.trans (congrArg some (by kernel_rfl))
  f258 := Tryz.func107.trans (congrArg some (by kernel_rfl))
  f302 := Tryz.func116.trans (congrArg some (by kernel_rfl))
  f303 := Tryz.func117.trans (congrArg some (by kernel_rfl))
  f304 := Tryz.func118.trans (congrArg some (by kernel_rfl))
  f305 := Tryz.func119.trans (congrArg some (by kernel_rfl))
  f306 := Tryz.func120.trans (congrArg some (by kernel_rfl))
  f307 := Tryz.func121.trans (congrArg some (by kernel_rfl))
  f308 := Tryz.func122.trans (congrArg some (by kernel_rfl))
  f309 := Tryz.func123.trans (congrArg some (by kernel_rfl))
  f310 := Tryz.func124.trans (congrArg some (by kernel_rfl))
  f329 := Tryz.func132.trans (congrArg some (by kernel_rfl))
  f330 := Tryz.func133.trans (congrArg some (by kernel_rfl))
  f333 := Tryz.func131.trans (congrArg some (by kernel_rfl))
  f334 := Tryz.func134.trans (congrArg some (by kernel_rfl))
  f335 := Tryz.func135.trans (congrArg some (by kernel_rfl))
  f336 := Tryz.func95.trans (congrArg some (by kernel_rfl))
  f344 := Tryz.func136.trans (congrArg some (by kernel_rfl))
  t0 := Tryz.underlying0
  a0 := Tryz.isAgg0
  z0 := Tryz.sizeOf0
  v0 := Tryz.zeroValue0
  t3 := Tryz.underlying3
  a3 := Tryz.isAgg3
  z3 := Tryz.sizeOf3
  v3 := Tryz.zeroValue3
  t4 := Tryz.underlying4
  a4 := Tryz.isAgg4
  z4 := Tryz.sizeOf4
  v4 := Tryz.zeroValue4
  t5 := Tryz.underlying5
  a5 := Tryz.isAgg5
  z5 := Tryz.sizeOf5
  v5 := Tryz.zeroValue5
  t9 := Tryz.underlying9
  a9 := Tryz.isAgg9
  z9 := Tryz.sizeOf9
  v9 := Tryz.zeroValue9
  t31 := Tryz.underlying27
  a31 := Tryz.isAgg27
  z31 := Tryz.sizeOf27
  v31 := Tryz.zeroValue27
  t46 := Tryz.underlying112
  a46 := Tryz.isAgg112
  z46 := Tryz.sizeOf112
  v46 := Tryz.zeroValue112
  t51 := Tryz.underlying130
  a51 := Tryz.isAgg130
  z51 := Tryz.sizeOf130
  v51 := Tryz.zeroValue130
  t53 := Tryz.underlying23
  a53 := Tryz.isAgg23
  z53 := Tryz.sizeOf23
  v53 := Tryz.zeroValue23
  t131 := Tryz.underlying142
  a131 := Tryz.isAgg142
  z131 := Tryz.sizeOf142
  v131 := Tryz.zeroValue142
  t182 := Tryz.underlying137
  a182 := Tryz.isAgg137
  z182 := Tryz.sizeOf137
  v182 := Tryz.zeroValue137
  t183 := Tryz.underlying138
  a183 := Tryz.isAgg138
  z183 := Tryz.sizeOf138
  v183 := Tryz.zeroValue138
  t218 := Tryz.underlying155
  a218 := Tryz.isAgg155
  z218 := Tryz.sizeOf155
  v218 := Tryz.zeroValue155
  t222 := Tryz.underlying159
  a222 := Tryz.isAgg159
  z222 := Tryz.sizeOf159
  v222 := Tryz.zeroValue159
  t228 := Tryz.underlying161
  a228 := Tryz.isAgg161
  z228 := Tryz.sizeOf161
  v228 := Tryz.zeroValue161
  t229 := Tryz.underlying36
  a229 := Tryz.isAgg36
  z229 := Tryz.sizeOf36
  v229 := Tryz.zeroValue36 }
end Go.Proofs
/-
  OUR OWN LAYER: contracts of the kit's shelf as ours; the tables of unicode/utf8.
-/
namespace Go.Proofs.YtgoepemmcibdaaaGreatDoor
open Sy Go
namespace Sy
variable {P : Program} {G : Glob}
theorem AFn.of_calls {f : FuncId} {args : List PD} {r : PD} (hc : Callable P f) (h : ∀ (M : FMap) (w : World) (vs : Array Value), GOK G M → (∀ b o v, M b o = some v → w.cell? ⟨b, o, none⟩ = some v) → vs.size = args.length →
    (∀ (i : Nat) u d, vs[i]? = some u → args[i]? = some d → Rd M u d) → Calls P f vs w fun e w' => ∃ v, e = .returned v ∧ Rd M v r ∧ RowKit.Below w.heap.size w w') : AFn P G f args r := by
  refine ⟨hc, fun M w vs hg hmem hsz hrd => (h M w vs hg hmem hsz hrd).mono ?_⟩
  rintro e w' ⟨v, rfl, hv, hb⟩
  refine ⟨v, M, rfl, hv, fun b o u hu => ?_, fun _ _ _ h => h, fun _ _ _ => rfl, hb⟩
  have h1 := hmem b o u hu
  exact (World.cell?_of_block (w := w) (hb.block b (lt_of_cell h1))).trans h1
theorem callable_of {f : FuncId} {fn : Func} {c : Code} (hf : P.funcs[f]? = some fn) (hn : (fn.name == "runtime.NumGoroutine") = false) (hb : fn.body = some c) : Callable P f := ⟨fn, c, hf, hn, hb⟩
theorem arg_str {M : FMap} {vs : Array Value} {s : List UInt8} (hsz : vs.size = 1) (h : ∀ (i : Nat) u d, vs[i]? = some u → [PD.str s][i]? = some d → Rd M u d) : ∃ b : ByteArray, vs = #[.string b] ∧ b.data.toList = s ∧ b.size ≤ maxLen := by
  obtain ⟨l⟩ := vs
  match l, hsz with
  | [u], _ =>
    have := h 0 u (.str s) rfl rfl
    cases this with
    | @str b _ hs hm => exact ⟨b, rfl, hs, by rw [str_size hs]; exact hm⟩
/-- The tables of unicode/utf8. -/
def firstP : List PD := (List.range 256).map fun c => .int .u8 (Lib.firstT c)
def accP : List PD := (List.range 32).map fun i => .int .u8 (if i % 2 = 0 then Lib.accLo (i / 2) else Lib.accHi (i / 2))
def HasU8 (g3 g4 : Nat) (G : Glob) : Prop := G g3 = some firstP ∧ G g4 = some accP
theorem u8_tabs {g3 g4 : Nat} {M : FMap} {w : World} (hG : HasU8 g3 g4 G) (hg : GOK G M) (hmem : ∀ b o v, M b o = some v → w.cell? ⟨b, o, none⟩ = some v) : Lib.Utf8Tabs g3 g4 w := by
  have key : ∀ (g : Nat) (cs : List PD) (j : Nat) (n : Int), G g = some cs → cs[j]? = some (.int .u8 n) → w.cell? ⟨g, j, none⟩ = some (.int .u8 n) := by
    intro g cs j n h1 h2
    obtain ⟨h3, h4⟩ := hg g cs h1
    obtain ⟨u, hu, _⟩ := h3 j _ h2
    have := h4 j _ u h2 hu
    cases this
    exact hmem _ _ _ hu
  refine ⟨fun c hc => key _ _ _ _ hG.1 (by simp [firstP, hc]), fun i hi => ⟨key _ _ _ _ hG.2 ?_, key _ _ _ _ hG.2 ?_⟩⟩
  · simp [accP, show 2 * i < 32 by omega]
  · simp only [accP, List.getElem?_map, List.getElem?_range (show 2 * i + 1 < 32 by omega), Option.map_some]
    rw [if_neg (by omega), show (2 * i + 1) / 2 = i by omega]
def u8G (g3 g4 : Nat) : Glob := fun g => if g = g3 then some firstP else if g = g4 then some accP else none
theorem u8G_has {g3 g4 : Nat} (h : g4 ≠ g3) : HasU8 g3 g4 (u8G g3 g4) := ⟨by simp [u8G], by simp [u8G, h]⟩
theorem u8G_ok {g3 g4 : Nat} {W : World} (h : Lib.Utf8Tabs g3 g4 W) (hne : g4 ≠ g3) : GOK (u8G g3 g4) (memOf W) := by
  have one : ∀ (g j : Nat) (cs : List PD), (∀ (j : Nat) d, cs[j]? = some d → ∃ n : Int, d = .int .u8 n ∧ 0 ≤ n ∧ n ≤ 255 ∧ W.cell? ⟨g, j, none⟩ = some (.int .u8 n)) →
      (∀ (j : Nat) d, cs[j]? = some d → ∃ u, memOf W g j = some u ∧ u.oneCell' = true) ∧ (∀ (j : Nat) d u, cs[j]? = some d → memOf W g j = some u → Rd (memOf W) u d) := by
    intro g _ cs hc
    refine ⟨fun j d hd => ?_, fun j d u hd hu => ?_⟩
    · obtain ⟨n, rfl, _, _, h⟩ := hc j d hd; exact ⟨_, h, rfl⟩
    · obtain ⟨n, rfl, h0, h1, h⟩ := hc j d hd
      have : some u = some (Value.int .u8 n) := hu.symm.trans h
      cases this
      exact .int (by rw [kmin_eq]; exact h0) (by rw [kmax_eq]; exact h1)
  have hft : ∀ c, (0 : Int) ≤ Lib.firstT c ∧ (Lib.firstT c : Int) ≤ 255 := fun c => by
    rcases Lib.firstT_cases c with h | h | h | h | h | h | h | h | h <;> rw [h] <;> omega
  intro g cs hg
  simp only [u8G] at hg
  split at hg
  · rename_i e
    subst e
    cases hg
    refine one g 0 _ fun j d hd => ?_
    have hj : j < 256 := by have := (List.getElem?_eq_some_iff.1 hd).1; simpa [firstP] using this
    simp [firstP, hj] at hd
    exact ⟨_, hd.symm, (hft j).1, (hft j).2, h.1 j hj⟩
  · split at hg
    · rename_i _ e
      subst e
      cases hg
      refine one g 0 _ fun j d hd => ?_
      have hj : j < 32 := by have := (List.getElem?_eq_some_iff.1 hd).1; simpa [accP] using this
      simp only [accP, List.getElem?_map, List.getElem?_range hj, Option.map_some, Option.some.injEq] at hd
      have hb := h.2 (j / 2) (by omega)
      have hacc : ∀ i, i < 16 → (0 : Int) ≤ Lib.accLo i ∧ (Lib.accLo i : Int) ≤ 255 ∧ (0 : Int) ≤ Lib.accHi i ∧ (Lib.accHi i : Int) ≤ 255 := by decide
      have hac := hacc (j / 2) (by omega)
      by_cases h2 : j % 2 = 0
      · rw [if_pos h2] at hd
        exact ⟨_, hd.symm, hac.1, hac.2.1, by have := hb.1; rwa [show 2 * (j / 2) = j by omega] at this⟩
      · rw [if_neg h2] at hd
        exact ⟨_, hd.symm, hac.2.2.1, hac.2.2.2, by have := hb.2; rwa [show 2 * (j / 2) + 1 = j by omega] at this⟩
    · cases hg
end Sy
variable {G : Glob}
abbrev U8 (G : Glob) : Prop := HasU8 1 2 G
theorem ValidString_ev (hG : U8 G) (s : List UInt8) : AFn Tryz.prog G 110 [.str s] (.bool (Lib.validD s)) := by
  refine AFn.of_calls (callable_of Tryz.func110 (by kernel_rfl) rfl) fun M w vs hg hmem hsz hrd => ?_
  obtain ⟨b, rfl, rfl, hm⟩ := arg_str hsz hrd
  refine (Any.utf8_ValidString Tryz.lays196 b w hm (u8_tabs hG hg hmem)).mono ?_
  rintro e w' ⟨rfl, hb⟩
  exact ⟨_, rfl, .bool _, hb⟩
end Go.Proofs.YtgoepemmcibdaaaGreatDoor
/-
  OUR OWN LAYER: contracts of the kit's shelf as ours: strings.Compare, strings.Repeat.
-/
namespace Go.Proofs.YtgoepemmcibdaaaGreatDoor
open Sy Go
variable {G : Glob}
theorem arg_str2 {M : FMap} {vs : Array Value} {s t : List UInt8} (hsz : vs.size = 2) (h : ∀ (i : Nat) u d, vs[i]? = some u → [PD.str s, PD.str t][i]? = some d → Rd M u d) : ∃ a b : ByteArray, vs = #[.string a, .string b] ∧ a.data.toList = s ∧ b.data.toList = t := by
  obtain ⟨l⟩ := vs
  match l, hsz with
  | [u, v], _ =>
    have h1 := h 0 u (.str s) rfl rfl
    have h2 := h 1 v (.str t) rfl rfl
    cases h1 with
    | @str a _ ha _ =>
    cases h2 with
    | @str b _ hb _ => exact ⟨a, b, rfl, ha, hb⟩
theorem arg_strInt {M : FMap} {vs : Array Value} {s : List UInt8} {n : Int} (hsz : vs.size = 2) (h : ∀ (i : Nat) u d, vs[i]? = some u → [PD.str s, PD.int .i64 n][i]? = some d → Rd M u d) : ∃ a : ByteArray, vs = #[.string a, .int .i64 n] ∧ a.data.toList = s ∧ n ≤ 9223372036854775807 := by
  obtain ⟨l⟩ := vs
  match l, hsz with
  | [u, v], _ =>
    have h1 := h 0 u (.str s) rfl rfl
    have h2 := h 1 v (.int .i64 n) rfl rfl
    cases h1 with
    | @str a _ ha _ =>
    cases h2 with
    | int h3 h4 => exact ⟨a, rfl, ha, by rw [kmax_eq] at h4; exact h4⟩
theorem Compare_ev (a b : List UInt8) : AFn Tryz.prog G 45 [.str a, .str b] (.int .i64 (Lib.compareBytes a b)) := by
  refine AFn.of_calls (callable_of Tryz.func45 (by kernel_rfl) rfl) fun M w vs hg hmem hsz hrd => ?_
  obtain ⟨x, y, rfl, rfl, rfl⟩ := arg_str2 hsz hrd
  refine (Any.strings_Compare Tryz.lays106 x y w).mono ?_
  rintro e w' ⟨rfl, rfl⟩
  have hb : -1 ≤ Lib.compareBytes x.data.toList y.data.toList ∧ Lib.compareBytes x.data.toList y.data.toList ≤ 1 := by
    generalize x.data.toList = l; generalize y.data.toList = m
    induction l generalizing m with
    | nil => cases m <;> simp [Lib.compareBytes]
    | cons a l ih =>
      cases m with
      | nil => simp [Lib.compareBytes]
      | cons b m =>
        simp only [Lib.compareBytes]
        split
        · omega
        · split
          · omega
          · exact ih m
  exact ⟨_, rfl, .int (by rw [kmin_eq]; simp only [kmin]; omega) (by rw [kmax_eq]; simp only [kmax]; omega), RowKit.Below.refl _ _⟩
theorem builder_extra : Builder.Extra Tryz.prog Tryz.lays105_ren where
  sizeBuilder := by kernel_rfl
  liesBuilder := by kernel_rfl
  t5 := Tryz.underlying5
  a5 := Tryz.isAgg5
  z5 := Tryz.sizeOf5
  v5 := Tryz.zeroValue5
  infoByte := by kernel_rfl
  cellsByte := by kernel_rfl
  sizeByte := by kernel_rfl
  neB5 := by decide
theorem Repeat_ev (s : List UInt8) (n : Nat) (h : s.length * n ≤ 140737488355328) : AFn Tryz.prog G 90 [.str s, .int .i64 n] (.str (Lib.repeatL s n)) := by
  refine AFn.of_calls (callable_of Tryz.func90 (by kernel_rfl) rfl) fun M w vs hg hmem hsz hrd => ?_
  obtain ⟨x, rfl, rfl, hn⟩ := arg_strInt hsz hrd
  refine (Any.strings_Repeat Tryz.lays105 builder_extra x n w (by omega) (by rw [str_size rfl]; exact h)).mono ?_
  rintro e w' ⟨rfl, hb⟩
  refine ⟨_, rfl, .str (by simp) ?_, hb⟩
  rw [Lib.repeatL_length, Nat.mul_comm]; simp only [maxLen]; omega
end Go.Proofs.YtgoepemmcibdaaaGreatDoor
/-
  OUR OWN LAYER: slices.Sorted(slices.Values(..)) of texts, as a contract of ours.
-/
namespace Go.Proofs.YtgoepemmcibdaaaGreatDoor
open Sy Go Go.RowKit Go.Shelf Go.Maps Go.Sort
attribute [local go_sem] Oper.semAt_some
set_option linter.unusedSimpArgs false
set_option linter.unusedVariables false
def sortK (ks : List (List UInt8)) : List (List UInt8) := ks.mergeSort fun x y => decide (x ≤ y)
theorem sortK_len (ks : List (List UInt8)) : (sortK ks).length = ks.length := List.length_mergeSort _
set_option maxRecDepth 100000 in
set_option maxHeartbeats 2000000 in
theorem sorted_calls (Bs : Nat) (sv : Value) (zs : List (List UInt8)) (hlen : zs.length ≤ maxLen) (hbytes : zs.length * 16 ≤ 140737488351232) (w : World) (hBs : Bs < w.heap.size) (hc0 : w.cell? ⟨Bs, 0, none⟩ = some sv) (hI : Strs w.heap.size w sv zs) :
    Calls Tryz.prog 78 #[.func (.func 94) #[] #[.pointer (some ⟨Bs, 0, none⟩)]] w fun e W' => ∃ v, e = .returned v ∧ W'.ownsRow w.heap.size 9 1 v zs.length ((sortK zs).map encStr) ∧ Below w.heap.size w W' := by
  refine (callsIn_wide (n := 6)).1 ?_
  have h1 : 1 ≤ 6 := by omega
  refine callsIn_of_wp Tryz.func78 rfl trivial ?_ rfl
  simp only [Tryz.ntmps78, List.size_toArray, List.length_cons, List.length_nil, Nat.reduceAdd, Nat.reduceSub, Array.replicate_succ, Array.replicate_zero, List.push_toArray, List.append_toArray, List.nil_append, List.cons_append]
  gi_wp2_with (refine ⟨trivial, ?_⟩; gi_at_call 92; refine (collect_in Fence.wide 5 trivial trivial trivial rfl (by omega) Bs sv zs hlen hbytes _ hBs hc0 hI).mono ?_; rintro e W ⟨v, rfl, hrow, hb⟩)
  rcases hrow.2 with ⟨rfl, hz⟩ | ⟨gb, cap, cur, rfl, hbase, hgb, r1, r2, r3, r4⟩
  · have hss : zs = [] := List.eq_nil_of_length_eq_zero hz
    subst hss
    gi_wp2_with (refine ⟨trivial, ?_⟩; gi_at_call 93; refine (callsIn_wide.2 (Any.slices_Sort_string_none Tryz.lays190 none 0 W)).mono ?_; rintro e w' ⟨rfl, rfl⟩)
    go_ret
    exact ⟨.slice none 0 0, rfl, by simpa [sortK] using hrow, hb⟩
  · have hH : Holds encStr W gb 0 zs.toArray := holds_of_block hgb (by simpa using r4)
    have hgl : gb < W.heap.size := (Array.getElem?_eq_some_iff.1 hgb).1
    have cS := Any.slices_Sort_string Tryz.lays190 gb 0 cap zs W hH hgl (by omega)
    gi_wp2_with (refine ⟨trivial, ?_⟩; gi_at_call 93; refine (callsIn_wide.2 cS).mono ?_; rintro e w' ⟨rfl, nn, os, rfl⟩)
    go_ret
    exact ⟨_, rfl, ownsRow_sorted (by simp) hbase hgb r1 r2 r3, hb.grown (grownBy_sorted _) hb.size (fun j hj => by cases hj; exact hbase)⟩
variable {G : Glob}
theorem encStr_eq {ba : ByteArray} {s : List UInt8} (h : ba.data.toList = s) : Value.string ba = encStr s := by
  subst h; rfl
theorem strs_of {M : FMap} {w : World} {u : Value} {ks : List (List UInt8)} (hmem : ∀ b o v, M b o = some v → w.cell? ⟨b, o, none⟩ = some v) (h : Rd M u (.sl 1 (ks.map PD.str))) : Strs w.heap.size w u ks ∧ ks.length ≤ maxLen ∧ ∀ s ∈ ks, s.length ≤ maxLen := by
  cases h with
  | @sl a n c _ _ b o hn hnc hcm ha h5 h6 h7 =>
  rw [List.length_map] at hn
  by_cases hk : ks = []
  · subst hk; simp at hn; subst hn; exact ⟨.inl ⟨rfl, a, c, rfl⟩, by simp, by simp⟩
  · have hpos : 0 < ks.length := List.length_pos_iff.2 hk
    obtain rfl := ha (by omega)
    subst hn
    have hcell : ∀ j, j < ks.length → w.cell? ⟨b, o + j, none⟩ = some (encStr (ks[j]?.getD [])) ∧ (ks[j]?.getD []).length ≤ maxLen := fun j hj => by
      have hg : (ks.map PD.str)[j]? = some (.str ks[j]) := by simp [hj]
      obtain ⟨u, hu, _⟩ := h6 j _ 0 hg (by omega)
      have h8 := h7 j _ 0 _ u hg rfl hu
      cases h8 with
      | @str ba _ hba hl =>
      have := hmem _ _ _ hu
      simp only [Nat.mul_one, Nat.add_zero] at this
      refine ⟨by rw [this, encStr_eq hba]; simp [hj], by simpa [hj] using hl⟩
    refine ⟨.inr ⟨b, o, c, rfl, lt_of_cell (hcell 0 hpos).1, fun j hj => (hcell j hj).1⟩, by omega, fun s hs => ?_⟩
    obtain ⟨j, hj, rfl⟩ := List.mem_iff_getElem.1 hs
    have := (hcell j hj).2
    simpa [hj] using this
theorem sorted_ax (i : Nat) (ks : List (List UInt8)) (hb : ks.length * 16 ≤ 140737488351232) : AX Tryz.prog G 78 [.func (.func 94) [] [.ptr i 0]] [(i, .vars 27 [.p (.sl 1 (ks.map PD.str))])]
    (.p (.sl 1 ((sortK ks).map PD.str))) [] [] := by
  refine ⟨callable_of Tryz.func78 (by kernel_rfl) rfl, fun M μ w vs hg rel => ?_⟩
  have hsz : vs.size = 1 := rel.slots.1
  obtain ⟨l⟩ := vs
  match l, hsz with
  | [u], _ =>
  have hu := rel.slots.2 0 u _ rfl rfl
  cases hu with
  | @func _ fa ca _ _ h1 h2 h3 h4 =>
  obtain rfl : fa = #[] := Array.eq_empty_of_size_eq_zero h1
  obtain ⟨c⟩ := ca
  match c, h2, h4 with
  | [q], _, h4 =>
  have hq := h4 0 q _ rfl rfl
  cases hq with
  | @ptr _ _ b hblk =>
  have hbx := rel.box i (.vars 27 [.p (.sl 1 (ks.map PD.str))]) (List.mem_singleton.2 rfl)
  cases hbx with
  | @vars _ _ b' arr g0 g1 g2 g3 g4 =>
  rw [hblk] at g0
  cases g0
  obtain ⟨al⟩ := arr
  match al, g2, g1, g4 with
  | [sv], _, g1, g4 =>
  have hsv := (g4 0 sv _ rfl rfl).p_inv
  obtain ⟨hS, hlen, hsl⟩ := strs_of rel.mem hsv
  have hbl : b < w.heap.size := (Array.getElem?_eq_some_iff.1 g1).1
  refine (sorted_calls b sv ks hlen hb w hbl (by simp [World.cell?, g1]) hS).mono ?_
  rintro e w' ⟨v, rfl, hrow, hbel⟩
  have hkeep : ∀ b o v, M b o = some v → w'.cell? ⟨b, o, none⟩ = some v := fun b o v hv => by
    have h := rel.mem b o v hv
    exact (World.cell?_of_block (w := w) (hbel.block b (lt_of_cell h))).trans h
  have base : ∀ M' : FMap, (∀ b o v, M b o = some v → M' b o = some v) → (∀ b o v, M' b o = some v → w'.cell? ⟨b, o, none⟩ = some v) → (∀ b o, b < w.heap.size → M' b o = M b o) → Rd M' v (.sl 1 ((sortK ks).map PD.str)) →
      ∃ v_1 M' μ', Ending.returned v = Ending.returned v_1 ∧ Rel ⟨w.heap.size, w, M, μ, lentBy μ [(i, .vars 27 [.p (.sl 1 (ks.map PD.str))])]⟩ M' μ' ⟨[.p (.sl 1 ((sortK ks).map PD.str))], [], [], 0⟩ #[v_1] w' := by
    intro M' hM hmem hold hrd
    refine ⟨v, M', μ, rfl, hmem, hM, fun b o hb => hold b o (by have : ¬ w.heap.size ≤ b := fun e => hb (.inl e); omega), ⟨rfl, fun k u x hu hx => ?_⟩, fun i hi => by simp at hi, fun i b hi => by simp at hi, by simp, fun i j b hi => by simp [keyIn] at hi, fun i b hi => by simp [keyIn] at hi, hbel.size, ?_⟩
    · cases k with
      | zero => simp at hu hx; subst hu; subst hx; exact .p hrd
      | succ k => simp at hu
    · exact ⟨hbel.os, hbel.tape, hbel.output, hbel.size, fun k hk => hbel.block k (by have : ¬ w.heap.size ≤ k := fun e => hk (.inl e); omega)⟩
  have hsk := sortK_len ks
  rcases hrow.2 with ⟨rfl, hz⟩ | ⟨gb, cap, cur, rfl, hbase, hgb, r1, r2, r3, r4⟩
  · have hks : ks = [] := List.eq_nil_of_length_eq_zero hz
    subst hks
    refine base M (fun _ _ _ h => h) hkeep (fun _ _ _ => rfl) ?_
    exact .sl 0 0 (by simp [sortK]) (Nat.le_refl _) (by simp [maxLen]) (fun h => (h rfl).elim) (fun i e h => by simp [sortK] at h) (fun i e j h => by simp [sortK] at h) (fun i e j d u h => by simp [sortK] at h)
  · have hcell : ∀ j, w'.cell? ⟨gb, j, none⟩ = cur[j]? := fun j => cell_of_block hgb
    let M2 : FMap := fun b o => if b = gb ∧ o < ks.length then cur[o]? else M b o
    have hlt : ∀ b o v, M b o = some v → b < w.heap.size := fun b o v hv => lt_of_cell (rel.mem b o v hv)
    have hcur : ∀ j, j < ks.length → cur[j]? = some (encStr ((sortK ks)[j]?.getD [])) := fun j hj => by
      have h5 : (cur.toList.take (ks.length * 1))[j]? = ((sortK ks).map encStr)[j]? := by rw [r4]
      rw [List.getElem?_take_of_lt (by omega)] at h5
      rw [← Array.getElem?_toList, h5]; simp [show j < (sortK ks).length by omega]
    have hM2 : ∀ o, o < ks.length → M2 gb o = cur[o]? := fun o ho => if_pos ⟨rfl, ho⟩
    refine base M2 (fun b o v hv => ?_) (fun b o v hv => ?_) (fun b o hb => ?_) ?_
    · have := hlt b o v hv
      show (if b = gb ∧ o < ks.length then cur[o]? else M b o) = some v
      rw [if_neg (by omega)]; exact hv
    · have hv' : (if b = gb ∧ o < ks.length then cur[o]? else M b o) = some v := hv
      split at hv'
      · rename_i h; rw [h.1, hcell]; exact hv'
      · exact hkeep b o v hv'
    · show (if b = gb ∧ o < ks.length then cur[o]? else M b o) = M b o
      rw [if_neg (by omega)]
    · refine .sl gb 0 (by simp [hsk]) r1 r2 (fun _ => rfl) (fun j e he => ?_) (fun j e k he hk => ?_) (fun j e k d u he hd hu => ?_)
      · simp at he; obtain ⟨s, _, rfl⟩ := he; rfl
      · have hj : j < ks.length := by have := (List.getElem?_eq_some_iff.1 he).1; simp [hsk] at this; exact this
        obtain rfl : k = 0 := by omega
        refine ⟨_, by simp only [Nat.mul_one, Nat.add_zero, Nat.zero_add]; rw [hM2 j hj, hcur j hj], rfl⟩
      · have hj : j < ks.length := by have := (List.getElem?_eq_some_iff.1 he).1; simp [hsk] at this; exact this
        have hjs : j < (sortK ks).length := by omega
        simp [hjs] at he
        subst he
        cases k with
        | succ k => simp [PD.cells] at hd
        | zero =>
          simp [PD.cells] at hd
          subst hd
          simp at hu
          rw [hM2 j hj, hcur j hj] at hu
          simp [hjs] at hu
          subst hu
          refine .str (by simp [encStr]) ?_
          exact hsl _ ((List.mergeSort_perm ks _).mem_iff.1 (List.getElem_mem hjs))
end Go.Proofs.YtgoepemmcibdaaaGreatDoor
