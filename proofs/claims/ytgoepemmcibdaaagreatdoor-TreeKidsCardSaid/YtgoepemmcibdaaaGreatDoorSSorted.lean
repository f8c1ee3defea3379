import Derived.Test.YtgoepemmcibdaaaGreatDoorSSeq
import Derived.Test.YtgoepemmcibdaaaGreatDoorSLibS
import Derived.Test.YtgoepemmcibdaaaGreatDoorM3
import Derived.Shelf.Slices.In.SortNone
import Derived.Sort.OwnSorted
/-
  OUR OWN LAYER: slices.Sorted(slices.Values(..)) of texts, as a contract of ours.
-/
namespace Go.Proofs.YtgoepemmcibdaaaGreatDoor
open Sy Go Go.RowKit Go.Shelf Go.Maps Go.Sort
attribute [local go_sem] Oper.semAt_some
set_option linter.unusedSimpArgs false
set_option linter.unusedVariables false
def sortK (ks : List (List UInt8)) : List (List UInt8) := ks.mergeSort fun x y => decide (x ≤ y)
theorem sortK_len (ks : List (List UInt8)) : (sortK ks).length = ks.length := List.length_mergeSort _
set_option maxRecDepth 100000 in
set_option maxHeartbeats 2000000 in
theorem sorted_calls (Bs : Nat) (sv : Value) (zs : List (List UInt8)) (hlen : zs.length ≤ maxLen) (hbytes : zs.length * 16 ≤ 140737488351232) (w : World) (hBs : Bs < w.heap.size) (hc0 : w.cell? ⟨Bs, 0, none⟩ = some sv) (hI : Strs w.heap.size w sv zs) :
    Calls Tryz.prog 78 #[.func (.func 94) #[] #[.pointer (some ⟨Bs, 0, none⟩)]] w fun e W' => ∃ v, e = .returned v ∧ W'.ownsRow w.heap.size 9 1 v zs.length ((sortK zs).map encStr) ∧ Below w.heap.size w W' := by
  refine (callsIn_wide (n := 6)).1 ?_
  have h1 : 1 ≤ 6 := by omega
  refine callsIn_of_wp Tryz.func78 rfl trivial ?_ rfl
  simp only [Tryz.ntmps78, List.size_toArray, List.length_cons, List.length_nil, Nat.reduceAdd, Nat.reduceSub, Array.replicate_succ, Array.replicate_zero, List.push_toArray, List.append_toArray, List.nil_append, List.cons_append]
  gi_wp2_with (refine ⟨trivial, ?_⟩; gi_at_call 92; refine (collect_in Fence.wide 5 trivial trivial trivial rfl (by omega) Bs sv zs hlen hbytes _ hBs hc0 hI).mono ?_; rintro e W ⟨v, rfl, hrow, hb⟩)
  rcases hrow.2 with ⟨rfl, hz⟩ | ⟨gb, cap, cur, rfl, hbase, hgb, r1, r2, r3, r4⟩
  · have hss : zs = [] := List.eq_nil_of_length_eq_zero hz
    subst hss
    gi_wp2_with (refine ⟨trivial, ?_⟩; gi_at_call 93; refine (callsIn_wide.2 (Any.slices_Sort_string_none Tryz.lays190 none 0 W)).mono ?_; rintro e w' ⟨rfl, rfl⟩)
    go_ret
    exact ⟨.slice none 0 0, rfl, by simpa [sortK] using hrow, hb⟩
  · have hH : Holds encStr W gb 0 zs.toArray := holds_of_block hgb (by simpa using r4)
    have hgl : gb < W.heap.size := (Array.getElem?_eq_some_iff.1 hgb).1
    have cS := Any.slices_Sort_string Tryz.lays190 gb 0 cap zs W hH hgl (by omega)
    gi_wp2_with (refine ⟨trivial, ?_⟩; gi_at_call 93; refine (callsIn_wide.2 cS).mono ?_; rintro e w' ⟨rfl, nn, os, rfl⟩)
    go_ret
    exact ⟨_, rfl, ownsRow_sorted (by simp) hbase hgb r1 r2 r3, hb.grown (grownBy_sorted _) hb.size (fun j hj => by cases hj; exact hbase)⟩
variable {G : Glob}
theorem encStr_eq {ba : ByteArray} {s : List UInt8} (h : ba.data.toList = s) : Value.string ba = encStr s := by
  subst h; rfl
theorem strs_of {M : FMap} {w : World} {u : Value} {ks : List (List UInt8)} (hmem : ∀ b o v, M b o = some v → w.cell? ⟨b, o, none⟩ = some v) (h : Rd M u (.sl 1 (ks.map PD.str))) : Strs w.heap.size w u ks ∧ ks.length ≤ maxLen ∧ ∀ s ∈ ks, s.length ≤ maxLen := by
  cases h with
  | @sl a n c _ _ b o hn hnc hcm ha h5 h6 h7 =>
  rw [List.length_map] at hn
  by_cases hk : ks = []
  · subst hk; simp at hn; subst hn; exact ⟨.inl ⟨rfl, a, c, rfl⟩, by simp, by simp⟩
  · have hpos : 0 < ks.length := List.length_pos_iff.2 hk
    obtain rfl := ha (by omega)
    subst hn
    have hcell : ∀ j, j < ks.length → w.cell? ⟨b, o + j, none⟩ = some (encStr (ks[j]?.getD [])) ∧ (ks[j]?.getD []).length ≤ maxLen := fun j hj => by
      have hg : (ks.map PD.str)[j]? = some (.str ks[j]) := by simp [hj]
      obtain ⟨u, hu, _⟩ := h6 j _ 0 hg (by omega)
      have h8 := h7 j _ 0 _ u hg rfl hu
      cases h8 with
      | @str ba _ hba hl =>
      have := hmem _ _ _ hu
      simp only [Nat.mul_one, Nat.add_zero] at this
      refine ⟨by rw [this, encStr_eq hba]; simp [hj], by simpa [hj] using hl⟩
    refine ⟨.inr ⟨b, o, c, rfl, lt_of_cell (hcell 0 hpos).1, fun j hj => (hcell j hj).1⟩, by omega, fun s hs => ?_⟩
    obtain ⟨j, hj, rfl⟩ := List.mem_iff_getElem.1 hs
    have := (hcell j hj).2
    simpa [hj] using this
theorem sorted_ax (i : Nat) (ks : List (List UInt8)) (hb : ks.length * 16 ≤ 140737488351232) : AX Tryz.prog G 78 [.func (.func 94) [] [.ptr i 0]] [(i, .vars 27 [.p (.sl 1 (ks.map PD.str))])]
    (.p (.sl 1 ((sortK ks).map PD.str))) [] [] := by
  refine ⟨callable_of Tryz.func78 (by kernel_rfl) rfl, fun M μ w vs hg rel => ?_⟩
  have hsz : vs.size = 1 := rel.slots.1
  obtain ⟨l⟩ := vs
  match l, hsz with
  | [u], _ =>
  have hu := rel.slots.2 0 u _ rfl rfl
  cases hu with
  | @func _ fa ca _ _ h1 h2 h3 h4 =>
  obtain rfl : fa = #[] := Array.eq_empty_of_size_eq_zero h1
  obtain ⟨c⟩ := ca
  match c, h2, h4 with
  | [q], _, h4 =>
  have hq := h4 0 q _ rfl rfl
  cases hq with
  | @ptr _ _ b hblk =>
  have hbx := rel.box i (.vars 27 [.p (.sl 1 (ks.map PD.str))]) (List.mem_singleton.2 rfl)
  cases hbx with
  | @vars _ _ b' arr g0 g1 g2 g3 g4 =>
  rw [hblk] at g0
  cases g0
  obtain ⟨al⟩ := arr
  match al, g2, g1, g4 with
  | [sv], _, g1, g4 =>
  have hsv := (g4 0 sv _ rfl rfl).p_inv
  obtain ⟨hS, hlen, hsl⟩ := strs_of rel.mem hsv
  have hbl : b < w.heap.size := (Array.getElem?_eq_some_iff.1 g1).1
  refine (sorted_calls b sv ks hlen hb w hbl (by simp [World.cell?, g1]) hS).mono ?_
  rintro e w' ⟨v, rfl, hrow, hbel⟩
  have hkeep : ∀ b o v, M b o = some v → w'.cell? ⟨b, o, none⟩ = some v := fun b o v hv => by
    have h := rel.mem b o v hv
    exact (World.cell?_of_block (w := w) (hbel.block b (lt_of_cell h))).trans h
  have base : ∀ M' : FMap, (∀ b o v, M b o = some v → M' b o = some v) → (∀ b o v, M' b o = some v → w'.cell? ⟨b, o, none⟩ = some v) → (∀ b o, b < w.heap.size → M' b o = M b o) → Rd M' v (.sl 1 ((sortK ks).map PD.str)) →
      ∃ v_1 M' μ', Ending.returned v = Ending.returned v_1 ∧ Rel ⟨w.heap.size, w, M, μ, lentBy μ [(i, .vars 27 [.p (.sl 1 (ks.map PD.str))])]⟩ M' μ' ⟨[.p (.sl 1 ((sortK ks).map PD.str))], [], [], 0⟩ #[v_1] w' := by
    intro M' hM hmem hold hrd
    refine ⟨v, M', μ, rfl, hmem, hM, fun b o hb => hold b o (by have : ¬ w.heap.size ≤ b := fun e => hb (.inl e); omega), ⟨rfl, fun k u x hu hx => ?_⟩, fun i hi => by simp at hi, fun i b hi => by simp at hi, by simp, fun i j b hi => by simp [keyIn] at hi, fun i b hi => by simp [keyIn] at hi, hbel.size, ?_⟩
    · cases k with
      | zero => simp at hu hx; subst hu; subst hx; exact .p hrd
      | succ k => simp at hu
    · exact ⟨hbel.os, hbel.tape, hbel.output, hbel.size, fun k hk => hbel.block k (by have : ¬ w.heap.size ≤ k := fun e => hk (.inl e); omega)⟩
  have hsk := sortK_len ks
  rcases hrow.2 with ⟨rfl, hz⟩ | ⟨gb, cap, cur, rfl, hbase, hgb, r1, r2, r3, r4⟩
  · have hks : ks = [] := List.eq_nil_of_length_eq_zero hz
    subst hks
    refine base M (fun _ _ _ h => h) hkeep (fun _ _ _ => rfl) ?_
    exact .sl 0 0 (by simp [sortK]) (Nat.le_refl _) (by simp [maxLen]) (fun h => (h rfl).elim) (fun i e h => by simp [sortK] at h) (fun i e j h => by simp [sortK] at h) (fun i e j d u h => by simp [sortK] at h)
  · have hcell : ∀ j, w'.cell? ⟨gb, j, none⟩ = cur[j]? := fun j => cell_of_block hgb
    let M2 : FMap := fun b o => if b = gb ∧ o < ks.length then cur[o]? else M b o
    have hlt : ∀ b o v, M b o = some v → b < w.heap.size := fun b o v hv => lt_of_cell (rel.mem b o v hv)
    have hcur : ∀ j, j < ks.length → cur[j]? = some (encStr ((sortK ks)[j]?.getD [])) := fun j hj => by
      have h5 : (cur.toList.take (ks.length * 1))[j]? = ((sortK ks).map encStr)[j]? := by rw [r4]
      rw [List.getElem?_take_of_lt (by omega)] at h5
      rw [← Array.getElem?_toList, h5]; simp [show j < (sortK ks).length by omega]
    have hM2 : ∀ o, o < ks.length → M2 gb o = cur[o]? := fun o ho => if_pos ⟨rfl, ho⟩
    refine base M2 (fun b o v hv => ?_) (fun b o v hv => ?_) (fun b o hb => ?_) ?_
    · have := hlt b o v hv
      show (if b = gb ∧ o < ks.length then cur[o]? else M b o) = some v
      rw [if_neg (by omega)]; exact hv
    · have hv' : (if b = gb ∧ o < ks.length then cur[o]? else M b o) = some v := hv
      split at hv'
      · rename_i h; rw [h.1, hcell]; exact hv'
      · exact hkeep b o v hv'
    · show (if b = gb ∧ o < ks.length then cur[o]? else M b o) = M b o
      rw [if_neg (by omega)]
    · refine .sl gb 0 (by simp [hsk]) r1 r2 (fun _ => rfl) (fun j e he => ?_) (fun j e k he hk => ?_) (fun j e k d u he hd hu => ?_)
      · simp at he; obtain ⟨s, _, rfl⟩ := he; rfl
      · have hj : j < ks.length := by have := (List.getElem?_eq_some_iff.1 he).1; simp [hsk] at this; exact this
        obtain rfl : k = 0 := by omega
        refine ⟨_, by simp only [Nat.mul_one, Nat.add_zero, Nat.zero_add]; rw [hM2 j hj, hcur j hj], rfl⟩
      · have hj : j < ks.length := by have := (List.getElem?_eq_some_iff.1 he).1; simp [hsk] at this; exact this
        have hjs : j < (sortK ks).length := by omega
        simp [hjs] at he
        subst he
        cases k with
        | succ k => simp [PD.cells] at hd
        | zero =>
          simp [PD.cells] at hd
          subst hd
          simp at hu
          rw [hM2 j hj, hcur j hj] at hu
          simp [hjs] at hu
          subst hu
          refine .str (by simp [encStr]) ?_
          exact hsl _ ((List.mergeSort_perm ks _).mem_iff.1 (List.getElem_mem hjs))
end Go.Proofs.YtgoepemmcibdaaaGreatDoor
