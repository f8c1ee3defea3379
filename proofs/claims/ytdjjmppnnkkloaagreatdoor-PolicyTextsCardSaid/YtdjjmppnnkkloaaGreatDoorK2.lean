import Derived.Test.YtdjjmppnnkkloaaGreatDoorK1
import Derived.Test.YtdjjmppnnkkloaaGreatDoorM3
import Derived.Shelf.Strings.Builder1
import Derived.Shelf.Unicode.DecodeAny
import Derived.Lib.MapLaws
import Derived.Laws.RangeString
import Derived.Lib.RuneCount
import Derived.Shelf.LaysC
import Derived.Shelf.Strconv.AtoiAll
import Derived.Test.YtdjjmppnnkkloaaGreatDoorProg
/-
  PLAIN LAWS: a pattern that was printed is parsed as it was, and what was parsed is printed as it was.
-/
namespace Go.Proofs.YtdjjmppnnkkloaaGreatDoor
open Sy Go
set_option linter.unusedSimpArgs false
set_option linter.unusedVariables false
set_option maxRecDepth 100000
/-- The steps of a text, one behind the other. -/
def parseF : Nat → List UInt8 → Option (List Step)
  | 0, rest => if rest = [] then some [] else none
  | f + 1, rest => if rest = [] then some [] else if mayM (guessB rest) = true ∧ hasPre rest (writtenT (guessB rest)) = true then (parseF f (rest.drop (writtenT (guessB rest)).length)).map (guessB rest :: ·) else none
def parseO (s : List UInt8) : Option (List Step) := if hasPre s [36] = true then parseF s.length (s.drop 1) else none
def finP : Option (List Step) → List Step × Int
  | none => ([], 21)
  | some l => if 8 < l.length then ([], 3) else (l, 0)
def parseT (s : List UInt8) : List Step × Int := finP (parseO s)
def printS (l : List Step) : List UInt8 := 36 :: l.flatMap writtenT
theorem hasPre_iff {s p : List UInt8} : hasPre s p = true ↔ ∃ t, s = p ++ t := by
  simp only [hasPre, Bool.and_eq_true, decide_eq_true_eq]
  constructor
  · rintro ⟨_, h⟩; exact ⟨s.drop p.length, by rw [show p ++ s.drop p.length = s.take p.length ++ s.drop p.length by rw [h]]; exact (List.take_append_drop _ _).symm⟩
  · rintro ⟨t, rfl⟩; simp
theorem written_head (t : Step) : ∃ b r, writtenT t = b :: r ∧ (b = 46 ∨ b = 91 ∨ b = 42) := by
  unfold writtenT
  repeat' split
  all_goals first | exact ⟨_, _, rfl, .inl rfl⟩ | exact ⟨_, _, rfl, .inr (.inl rfl)⟩ | exact ⟨_, _, rfl, .inr (.inr rfl)⟩
theorem written_pos (t : Step) : 1 ≤ (writtenT t).length := by
  obtain ⟨b, r, e, _⟩ := written_head t; rw [e]; simp
theorem ok_may {t : Step} (h : mayM t = true) : okStep t := by
  unfold mayM stepM at h
  unfold okStep
  by_cases h1 : t.kind = 1
  · rw [if_pos h1] at h; simp only [Bool.and_eq_true, decide_eq_true_eq] at h
    exact .inl ⟨h1, h.1.2, by omega, h.2⟩
  rw [if_neg h1] at h
  by_cases h2 : t.kind = 2
  · rw [if_pos h2] at h; simp only [Bool.and_eq_true, decide_eq_true_eq] at h
    exact .inr (.inl ⟨h2, h.1.1, h.1.2, h.2⟩)
  rw [if_neg h2] at h
  by_cases h3 : 3 ≤ t.kind ∧ t.kind ≤ 5
  · rw [if_pos h3] at h; simp only [Bool.and_eq_true, decide_eq_true_eq] at h
    exact .inr (.inr ⟨by omega, h⟩)
  · rw [if_neg h3] at h; cases h
theorem flat_head (l : List Step) : ∀ b, (l.flatMap writtenT).head? = some b → b = 46 ∨ b = 91 ∨ b = 42 := by
  intro b hb
  cases l with
  | nil => simp at hb
  | cons t l =>
    obtain ⟨c, r, e, h⟩ := written_head t
    simp only [List.flatMap_cons, e, List.cons_append, List.head?_cons, Option.some.injEq] at hb
    subst hb; exact h
theorem flat_ne {t : Step} {l : List Step} : (t :: l).flatMap writtenT ≠ [] := by
  obtain ⟨c, r, e, h⟩ := written_head t
  simp [List.flatMap_cons, e]
/-- What was written is parsed. -/
theorem parse_back : ∀ (l : List Step) (n : Nat), l.all mayM = true → l.length ≤ n → parseF n (l.flatMap writtenT) = some l
  | [], n, _, _ => by cases n <;> simp [parseF]
  | t :: l, n, h, hn => by
    obtain ⟨n, rfl⟩ : ∃ m, n = m + 1 := ⟨n - 1, by simp at hn; omega⟩
    simp only [List.all_cons, Bool.and_eq_true] at h
    have hg : guessB ((t :: l).flatMap writtenT) = t := by
      rw [List.flatMap_cons]; exact guess_written (ok_may h.1) (flat_head l)
    have hp : hasPre ((t :: l).flatMap writtenT) (writtenT t) = true := hasPre_iff.2 ⟨l.flatMap writtenT, by simp⟩
    have hd : ((t :: l).flatMap writtenT).drop (writtenT t).length = l.flatMap writtenT := by simp
    simp only [parseF]
    rw [if_neg flat_ne, hg, if_pos ⟨h.1, hp⟩, hd, parse_back l n h.2 (by simpa using hn)]
    rfl
/-- What was parsed is written so. -/
theorem parse_inv : ∀ (n : Nat) (rest : List UInt8) (l : List Step), parseF n rest = some l → rest = l.flatMap writtenT ∧ l.all mayM = true
  | 0, rest, l, h => by
    simp only [parseF] at h
    split at h
    · cases h; subst rest; simp
    · cases h
  | n + 1, rest, l, h => by
    simp only [parseF] at h
    split at h
    · cases h; subst rest; simp
    · split at h
      · rename_i hne hc
        obtain ⟨m, hm, rfl⟩ := Option.map_eq_some_iff.1 h
        obtain ⟨e, ha⟩ := parse_inv n _ m hm
        obtain ⟨t, ht⟩ := hasPre_iff.1 hc.2
        generalize guessB rest = g at *
        subst ht
        simp only [List.drop_left] at e
        subst e
        simp [hc.1, ha]
      · cases h
theorem flat_len : ∀ l : List Step, l.length ≤ (l.flatMap writtenT).length
  | [] => by simp
  | t :: l => by have := flat_len l; have := written_pos t; simp only [List.flatMap_cons, List.length_append, List.length_cons]; omega
theorem printS_parse {l : List Step} (h : l.all mayM = true) (h8 : l.length ≤ 8) : parseT (printS l) = (l, 0) := by
  have hl := flat_len l
  have e := parse_back l (36 :: l.flatMap writtenT).length h (by rw [List.length_cons]; omega)
  have eo : parseO (printS l) = some l := by
    unfold parseO printS
    rw [if_pos (by simp [hasPre]), List.drop_succ_cons, List.drop_zero, e]
  unfold parseT; rw [eo]; unfold finP; simp only
  rw [if_neg (by omega)]
theorem parseO_inv {s : List UInt8} {l : List Step} (h : parseO s = some l) : s = printS l ∧ l.all mayM = true := by
  unfold parseO at h
  split at h
  · rename_i hp
    obtain ⟨t, rfl⟩ := hasPre_iff.1 hp
    simp only [List.cons_append, List.nil_append, List.drop_succ_cons, List.drop_zero] at h ⊢
    obtain ⟨e1, e2⟩ := parse_inv _ _ _ h
    exact ⟨by simp [printS, e1], e2⟩
  · cases h
theorem parse_printS {s : List UInt8} (h : (parseT s).2 = 0) : printS (parseT s).1 = s ∧ (parseT s).1.all mayM = true ∧ (parseT s).1.length ≤ 8 := by
  unfold parseT at h ⊢
  cases e : parseO s with
  | none => rw [e] at h; simp [finP] at h
  | some l =>
    rw [e] at h
    obtain ⟨e1, e2⟩ := parseO_inv e
    unfold finP at h ⊢
    simp only at h ⊢
    split at h
    · simp at h
    · rename_i h8
      rw [if_neg h8]
      exact ⟨e1.symm, e2, by simp only []; omega⟩
theorem parse_bad {s : List UInt8} (h : (parseT s).2 ≠ 0) : (parseT s).1 = [] := by
  unfold parseT finP at h ⊢
  split
  · rfl
  · rename_i h1
    rw [h1] at h; simp only at h
    split
    · rfl
    · rename_i h2; rw [if_neg h2] at h; exact absurd rfl h
end Go.Proofs.YtdjjmppnnkkloaaGreatDoor
/-
  OUR OWN LAYER: strings.Builder: copyCheck and String.
-/
namespace Go.Proofs.YtdjjmppnnkkloaaGreatDoor
open Sy Go
set_option maxRecDepth 100000
set_option linter.unusedSimpArgs false
set_option linter.unusedVariables false
variable {G : Glob}
/-- What a builder's first field holds: whether it was written. -/
def bldA (u : Bool) : V := if u then .ptr 2 0 else .p .nilp
/-- A builder that is box 2, its bytes box 3. -/
def bldH (u : Bool) (bs : List UInt8) : List (Nat × Box) := [(2, .vars 112 [bldA u, .ms 3]), (3, .row 5 1 (bytesP bs))]
theorem bld_size : (Tryz.prog.info? 112).map (·.size) = some 2 := by kernel_rfl
theorem bld_lies : liesAt Tryz.prog Tryz.prog.depth 112 (2 / Tryz.prog.cellsOf 112) 0 112 1 = true := by kernel_rfl
section
set_option maxHeartbeats 1000000 in
theorem cc_used (b : Nat) (w : World) (h0 : w.cell? ⟨b, 0, none⟩ = some (.pointer (some ⟨b, 0, none⟩))) :
    Calls Tryz.prog 118 #[.pointer (some ⟨b, 0, none⟩)] w fun e w' => e = .returned (.tuple #[]) ∧ w' = w := by
  obtain ⟨j, hj, _⟩ := Option.map_eq_some_iff.1 bld_size
  go_enter Tryz.func118, Tryz.ntmps118
  go_wp2
  rw [Lib.run_neq_ptr_same w _ Tryz.underlying109 hj]
  go_wp2
  go_end0
  exact ⟨rfl, rfl⟩
set_option maxHeartbeats 1000000 in
theorem cc_fresh (b : Nat) (w : World) (h0 : w.cell? ⟨b, 0, none⟩ = some (.pointer none)) (hsh : w.shape? b = some (112, 2)) (hfz : w.frozen? ⟨b, 0, none⟩ = false) :
    Calls Tryz.prog 118 #[.pointer (some ⟨b, 0, none⟩)] w fun e w' => e = .returned (.tuple #[]) ∧ w' = w.setCell ⟨b, 0, none⟩ (.pointer (some ⟨b, 0, none⟩)) := by
  obtain ⟨j, hj, hjs⟩ := Option.map_eq_some_iff.1 bld_size
  go_enter Tryz.func118, Tryz.ntmps118
  go_wp2
  rw [Lib.run_to_unsafe w ⟨b, 0, none⟩ Tryz.underlying109 Tryz.underlying160 hj (by rw [hjs]; decide) hsh (Nat.zero_lt_succ 1)]
  simp only [Result.andThen]
  rw [Oper.upon_value]
  go_wp2
  rw [run_callFunc_extern Tryz.func140 (by kernel_rfl) (by kernel_rfl) (by kernel_rfl) (e := Extern.AbiNoEscape.same) (by kernel_rfl)]
  rw [Lib.run_noEscape]
  simp only [Result.andThen]
  rw [Oper.upon_value]
  go_wp2
  rw [Lib.run_from_unsafe w ⟨b, 0, none⟩ Tryz.underlying160 Tryz.underlying109 hj hsh bld_lies]
  simp only [Result.andThen]
  rw [Oper.upon_value]
  go_wp2
  go_end0
  exact ⟨rfl, rfl⟩
end
theorem copyCheck_ax (u : Bool) (bs : List UInt8) : AX Tryz.prog G 118 [.ptr 2 0] (bldH u bs) (.tuple []) [2, 3] (bldH true bs) := by
  refine ⟨callable_of Tryz.func118 (by kernel_rfl) rfl, fun M μ w vs hg rel => ?_⟩
  obtain ⟨l⟩ := vs
  have hsz : l.length = 1 := by simpa using rel.slots.1
  match l, hsz with
  | [v], _ =>
  have hv := rel.slots.2 0 v (.ptr 2 0) rfl rfl
  cases hv with
  | @ptr _ _ b hb =>
  have hbx := rel.box 2 (.vars 112 [bldA u, .ms 3]) (by simp [bldH])
  cases hbx with
  | @vars _ _ b' arr h0 hh hs ho hc =>
  rw [hb] at h0; cases h0
  obtain ⟨x, y, rfl⟩ : ∃ x y, arr = #[x, y] := by
    obtain ⟨l⟩ := arr
    match l, hs with
    | [x, y], _ => exact ⟨x, y, rfl⟩
  have hx := hc 0 x (bldA u) rfl rfl
  have hy := hc 1 y (.ms 3) rfl rfl
  have hfin : ∀ w', Rel ⟨w.heap.size, w, M, μ, lentBy μ (bldH u bs)⟩ M μ ⟨[.ptr 2 0], (bldH u bs).map (·.1), bldH true bs, 0⟩ #[.pointer (some ⟨b, 0, none⟩)] w' →
      ∃ v M' μ', (Ending.returned (.tuple #[]) : Ending) = .returned v ∧ Rel ⟨w.heap.size, w, M, μ, lentBy μ (bldH u bs)⟩ M' μ' ⟨[.tuple []], [2, 3], bldH true bs, 0⟩ #[v] w' := by
    intro w' r
    refine ⟨_, M, μ, rfl, { r with slots := ⟨rfl, fun i u x hu hx => ?_⟩, pins := fun _ _ => rfl }⟩
    cases i with
    | zero => simp at hu hx; subst hu; subst hx; exact .tuple rfl fun i u x hu => by simp at hu
    | succ i => simp at hx
  cases u with
  | true =>
    obtain rfl : x = .pointer (some ⟨b, 0, none⟩) := by
      cases hx with
      | ptr h => rw [hb] at h; cases h; rfl
    refine (cc_used b w (by rw [cell_of_block hh]; rfl)).mono ?_
    rintro e w' ⟨rfl, rfl⟩
    exact hfin _ rel
  | false =>
    obtain rfl : x = .pointer none := by
      cases hx with
      | p h => cases h; rfl
    refine (cc_fresh b w (by rw [cell_of_block hh]; rfl) (by simp [World.shape?, hh]) (by simp [World.frozen?, hh])).mono ?_
    rintro e w' ⟨rfl, rfl⟩
    refine hfin _ ?_
    have ht : Turned w (w.setCell ⟨b, 0, none⟩ (.pointer (some ⟨b, 0, none⟩))) b :=
      ⟨rfl, rfl, rfl, by simp [World.setCell], fun k hk => RowKit.Below.heap_setCell w ⟨b, 0, none⟩ _ k hk⟩
    have := rel.write (id := 2) (bx := .vars 112 [bldA true, .ms 3]) (by simp [keyIn, bldH]) hb ht (.vars (arr := #[.pointer (some ⟨b, 0, none⟩), y]) hb (by simp only [World.setCell, Array.getElem?_modify, if_pos, hh]; simp) rfl (fun i u hu => ?_) (fun i u x hu hx => ?_))
    · simpa [bldH, setBox] using this
    · match i, hu with
      | 0, hu => simp at hu; subst hu; rfl
      | 1, hu => exact ho 1 u (by simpa using hu)
      | i + 2, hu => simp at hu
    · match i, hu, hx with
      | 0, hu, hx => simp at hu hx; subst hu; subst hx; exact .ptr hb
      | 1, hu, hx => simp at hu hx; subst hu; subst hx; exact hy
      | i + 2, hu, hx => simp at hu
theorem ccF_ax (bs : List UInt8) : AX Tryz.prog G 118 [.ptr 2 0] [(2, .vars 112 [.p .nilp, .ms 3]), (3, .row 5 1 (bytesP bs))] (.tuple []) [2, 3] [(2, .vars 112 [.ptr 2 0, .ms 3]), (3, .row 5 1 (bytesP bs))] := copyCheck_ax false bs
theorem cc_ax (bs : List UInt8) : AX Tryz.prog G 118 [.ptr 2 0] [(2, .vars 112 [.ptr 2 0, .ms 3]), (3, .row 5 1 (bytesP bs))] (.tuple []) [2, 3] [(2, .vars 112 [.ptr 2 0, .ms 3]), (3, .row 5 1 (bytesP bs))] := copyCheck_ax true bs
open Go.Shelf Go.RowKit
section
variable {P : Program} {ρ : Ren}
abbrev Mild (g : Nat) (w w' : World) : Prop := Kept (fun k => k = g ∨ w.heap.size ≤ k) w w'
theorem mild_drew (g : Nat) (w : World) : Mild g w w.drew := ⟨rfl, rfl, rfl, Nat.le_refl _, fun _ _ => rfl⟩
theorem mild_freeze (g : Nat) (w : World) (n : Nat) : Mild g w (w.drew.freeze ⟨g, 0, none⟩ n) := by
  unfold World.freeze
  split
  · exact mild_drew g w
  · exact ⟨rfl, rfl, rfl, by simp only [Array.size_modify]; exact Nat.le_refl _, fun k hk => by
      simp only [Array.getElem?_modify]
      rw [if_neg (by omega)]; rfl⟩
theorem mild_alloc (g : Nat) (w : World) (o : Obj) : Mild g w (w.alloc o).drew := ⟨rfl, rfl, rfl, by show w.heap.size ≤ (w.heap.push o).size; simp, fun k hk => by
  show (w.heap.push o)[k]? = _
  rw [Array.getElem?_push, if_neg (by omega)]⟩
theorem mild_alloc' (g : Nat) (w : World) (o : Obj) : Mild g w (w.drew.alloc o) := mild_alloc g w o
set_option maxHeartbeats 1000000 in
theorem bld_row (L : Lays.n169 P ρ) (X : Builder.Extra P ρ) (b g cap : Nat) (p : Value) (cur : Array Value) (l : List UInt8) (w : World) (hbk : w.heap[b]? = some (.cells #[p, .slice (some ⟨g, 0, none⟩) l.length cap] (ρ.t 72) (0, 0)))
    (hg : w.heap[g]? = some (.cells cur (ρ.t 5) (0, 0))) (hnc : l.length ≤ cap) (hcm : cap ≤ maxLen) (hcs : cur.size = cap) (hcells : ∀ (j : Nat) (x : UInt8), l[j]? = some x → cur[j]? = some (Value.int .u8 x.toNat)) (h0 : l ≠ []) :
    Calls P (ρ.f 169) #[.pointer (some ⟨b, 0, none⟩)] w fun e w' => e = .returned (.string ⟨l.toArray⟩) ∧ Mild g w w' := by
  have hl0 : l.length ≠ 0 := by simpa using h0
  have c1 : w.drew.cell? ⟨b, 1, none⟩ = some (.slice (some ⟨g, 0, none⟩) l.length cap) := by
    have : w.drew.heap[b]? = some (.cells #[p, .slice (some ⟨g, 0, none⟩) l.length cap] (ρ.t 72) (0, 0)) := hbk
    rw [Lib.cell_of_heap this]; rfl
  have hSD : (Builtin.unsafeSliceData_ #[(ρ.t 37)] (ρ.t 127) #[.slice (some ⟨g, 0, none⟩) l.length cap]).run P w.drew = .ok (.pointer (some ⟨g, 0, none⟩)) w.drew :=
    Lib.run_unsafeSliceData_row _ _ _ _ _ _ (by omega)
  have hUS : (Builtin.unsafeString_ #[(ρ.t 127), (ρ.t 3)] (ρ.t 9) #[.pointer (some ⟨g, 0, none⟩), .int .i64 l.length]).run P w.drew = .ok (.string ⟨l.toArray⟩) (w.drew.freeze ⟨g, 0, none⟩ l.length) := by
    refine Lib.run_unsafeString_row w.drew (ρ.t 127) (ρ.t 3) (ρ.t 9) (ρ.t 5) L.t127 X.cellsByte g cur.size (by have hg' : w.drew.heap[g]? = some (.cells cur (ρ.t 5) (0, 0)) := hg; simp [World.shape?, hg']) l h0 (by omega) (by unfold maxLen at hcm; omega) ?_
    intro j x hx
    have hg' : w.drew.heap[g]? = some (.cells cur (ρ.t 5) (0, 0)) := hg
    rw [add_eq, Nat.zero_add, Lib.cell_of_heap hg']
    exact hcells j x hx
  have mixed := L.mixed
  have t72 := L.t72; have a72 := L.a72; have z72 := L.z72; have v72 := L.v72; have u72 := run_underlying L.t72
  have t70 := L.t70; have a70 := L.a70; have z70 := L.z70; have v70 := L.v70; have u70 := run_underlying L.t70
  have t37 := L.t37; have a37 := L.a37; have z37 := L.z37; have v37 := L.v37; have u37 := run_underlying L.t37
  have t127 := L.t127; have a127 := L.a127; have z127 := L.z127; have v127 := L.v127; have u127 := run_underlying L.t127
  have t3 := L.t3; have a3 := L.a3; have z3 := L.z3; have v3 := L.v3; have u3 := run_underlying L.t3
  have t9 := L.t9; have a9 := L.a9; have z9 := L.z9; have v9 := L.v9; have u9 := run_underlying L.t9
  have t5 := X.t5; have a5 := X.a5; have z5 := X.z5; have v5 := X.v5; have u5 := run_underlying X.t5
  go_enter L.f169, Body.n169_ntmps ρ
  go_wp2
  go_region_o
  all_goals (go_wp2; go_ret; exact ⟨rfl, mild_freeze g w _⟩)
set_option maxHeartbeats 2000000 in
theorem bld_nil (L : Lays.n169 P ρ) (X : Builder.Extra P ρ) (b : Nat) (p : Value) (w : World) (hbk : w.heap[b]? = some (.cells #[p, .slice none 0 0] (ρ.t 72) (0, 0))) :
    Calls P (ρ.f 169) #[.pointer (some ⟨b, 0, none⟩)] w fun e w' => e = .returned (.string ⟨#[]⟩) ∧ Mild w.heap.size w w' := by
  have hUS := Any.unsafeString_none L X
  have c1 : w.drew.cell? ⟨b, 1, none⟩ = some (.slice none 0 0) := by
    have : w.drew.heap[b]? = some (.cells #[p, .slice none 0 0] (ρ.t 72) (0, 0)) := hbk
    rw [Lib.cell_of_heap this]; rfl
  have hSD : (Builtin.unsafeSliceData_ #[(ρ.t 37)] (ρ.t 127) #[.slice none 0 0]).run P w.drew = .ok (.pointer none) w.drew := rfl
  have mixed := L.mixed
  have t72 := L.t72; have a72 := L.a72; have z72 := L.z72; have v72 := L.v72; have u72 := run_underlying L.t72
  have t70 := L.t70; have a70 := L.a70; have z70 := L.z70; have v70 := L.v70; have u70 := run_underlying L.t70
  have t37 := L.t37; have a37 := L.a37; have z37 := L.z37; have v37 := L.v37; have u37 := run_underlying L.t37
  have t127 := L.t127; have a127 := L.a127; have z127 := L.z127; have v127 := L.v127; have u127 := run_underlying L.t127
  have t3 := L.t3; have a3 := L.a3; have z3 := L.z3; have v3 := L.v3; have u3 := run_underlying L.t3
  have t9 := L.t9; have a9 := L.a9; have z9 := L.z9; have v9 := L.v9; have u9 := run_underlying L.t9
  have t5 := X.t5; have a5 := X.a5; have z5 := X.z5; have v5 := X.v5; have u5 := run_underlying X.t5
  go_enter L.f169, Body.n169_ntmps ρ
  go_wp2
  go_region_o
  all_goals (go_wp2; go_ret; exact ⟨rfl, mild_drew _ w⟩)
set_option maxHeartbeats 2000000 in
theorem bld_none (L : Lays.n169 P ρ) (X : Builder.Extra P ρ) (b g : Nat) (p : Value) (cur : Array Value) (w : World) (hlt : b < w.heap.size) (hbk : w.heap[b]? = some (.cells #[p, .slice (some ⟨g, 0, none⟩) 0 0] (ρ.t 72) (0, 0))) (hg : w.heap[g]? = some (.cells cur (ρ.t 5) (0, 0))) :
    Calls P (ρ.f 169) #[.pointer (some ⟨b, 0, none⟩)] w fun e w' => e = .returned (.string ⟨#[]⟩) ∧ Mild g w w' := by
  have hUS := Any.unsafeString_none L X
  have c1 : w.drew.cell? ⟨b, 1, none⟩ = some (.slice (some ⟨g, 0, none⟩) 0 0) := by
    have : w.drew.heap[b]? = some (.cells #[p, .slice (some ⟨g, 0, none⟩) 0 0] (ρ.t 72) (0, 0)) := hbk
    rw [Lib.cell_of_heap this]; rfl
  have hSD : (Builtin.unsafeSliceData_ #[(ρ.t 37)] (ρ.t 127) #[.slice (some ⟨g, 0, none⟩) 0 0]).run P w.drew = .ok (.pointer (some ⟨w.drew.heap.size, 0, none⟩)) (w.drew.alloc (.view ⟨g, 0, none⟩ (ρ.t 5))) :=
    Lib.run_unsafeSliceData_zero w.drew _ _ (ρ.t 5) L.t127 ⟨g, 0, none⟩ 0 ((ρ.t 5), cur.size) (by have hg' : w.drew.heap[g]? = some (.cells cur (ρ.t 5) (0, 0)) := hg; simp [World.shape?, hg'])
  have c2 : (w.drew.alloc (.view ⟨g, 0, none⟩ (ρ.t 5))).cell? ⟨b, 1, none⟩ = some (.slice (some ⟨g, 0, none⟩) 0 0) := by
    have : (w.drew.alloc (.view ⟨g, 0, none⟩ (ρ.t 5))).heap[b]? = _ := (Lib.alloc_old w.drew _ b hlt).trans hbk
    rw [Lib.cell_of_heap this]; rfl
  have c3 : (w.alloc (.view ⟨g, 0, none⟩ (ρ.t 5))).drew.cell? ⟨b, 1, none⟩ = some (.slice (some ⟨g, 0, none⟩) 0 0) := c2
  have c0 : w.cell? ⟨b, 1, none⟩ = some (.slice (some ⟨g, 0, none⟩) 0 0) := c1
  have mixed := L.mixed
  have t72 := L.t72; have a72 := L.a72; have z72 := L.z72; have v72 := L.v72; have u72 := run_underlying L.t72
  have t70 := L.t70; have a70 := L.a70; have z70 := L.z70; have v70 := L.v70; have u70 := run_underlying L.t70
  have t37 := L.t37; have a37 := L.a37; have z37 := L.z37; have v37 := L.v37; have u37 := run_underlying L.t37
  have t127 := L.t127; have a127 := L.a127; have z127 := L.z127; have v127 := L.v127; have u127 := run_underlying L.t127
  have t3 := L.t3; have a3 := L.a3; have z3 := L.z3; have v3 := L.v3; have u3 := run_underlying L.t3
  have t9 := L.t9; have a9 := L.a9; have z9 := L.z9; have v9 := L.v9; have u9 := run_underlying L.t9
  have t5 := X.t5; have a5 := X.a5; have z5 := X.z5; have v5 := X.v5; have u5 := run_underlying X.t5
  go_enter L.f169, Body.n169_ntmps ρ
  go_wp2
  go_region_o
  all_goals (go_wp2; go_ret; first | exact ⟨rfl, mild_alloc g w _⟩ | exact ⟨rfl, mild_alloc' g w _⟩)
set_option maxHeartbeats 2000000 in
theorem bld_room (L : Lays.n169 P ρ) (X : Builder.Extra P ρ) (b g cap : Nat) (p : Value) (w : World) (hc0 : cap ≠ 0) (hbk : w.heap[b]? = some (.cells #[p, .slice (some ⟨g, 0, none⟩) 0 cap] (ρ.t 72) (0, 0))) :
    Calls P (ρ.f 169) #[.pointer (some ⟨b, 0, none⟩)] w fun e w' => e = .returned (.string ⟨#[]⟩) ∧ Mild g w w' := by
  have hUS := Any.unsafeString_none L X
  have c1 : w.drew.cell? ⟨b, 1, none⟩ = some (.slice (some ⟨g, 0, none⟩) 0 cap) := by
    have : w.drew.heap[b]? = some (.cells #[p, .slice (some ⟨g, 0, none⟩) 0 cap] (ρ.t 72) (0, 0)) := hbk
    rw [Lib.cell_of_heap this]; rfl
  have hSD : (Builtin.unsafeSliceData_ #[(ρ.t 37)] (ρ.t 127) #[.slice (some ⟨g, 0, none⟩) 0 cap]).run P w.drew = .ok (.pointer (some ⟨g, 0, none⟩)) w.drew :=
    Lib.run_unsafeSliceData_row _ _ _ _ _ _ hc0
  clear hc0
  have mixed := L.mixed
  have t72 := L.t72; have a72 := L.a72; have z72 := L.z72; have v72 := L.v72; have u72 := run_underlying L.t72
  have t70 := L.t70; have a70 := L.a70; have z70 := L.z70; have v70 := L.v70; have u70 := run_underlying L.t70
  have t37 := L.t37; have a37 := L.a37; have z37 := L.z37; have v37 := L.v37; have u37 := run_underlying L.t37
  have t127 := L.t127; have a127 := L.a127; have z127 := L.z127; have v127 := L.v127; have u127 := run_underlying L.t127
  have t3 := L.t3; have a3 := L.a3; have z3 := L.z3; have v3 := L.v3; have u3 := run_underlying L.t3
  have t9 := L.t9; have a9 := L.a9; have z9 := L.z9; have v9 := L.v9; have u9 := run_underlying L.t9
  have t5 := X.t5; have a5 := X.a5; have z5 := X.z5; have v5 := X.v5; have u5 := run_underlying X.t5
  go_enter L.f169, Body.n169_ntmps ρ
  go_wp2
  go_region_o
  all_goals (go_wp2; go_ret; exact ⟨rfl, mild_drew _ w⟩)
end
theorem bldS_extra : Builder.Extra Tryz.prog Tryz.lays169_ren where
  sizeBuilder := by kernel_rfl
  liesBuilder := by kernel_rfl
  t5 := Tryz.underlying5
  a5 := Tryz.isAgg5
  z5 := Tryz.sizeOf5
  v5 := Tryz.zeroValue5
  infoByte := by kernel_rfl
  cellsByte := by kernel_rfl
  sizeByte := by kernel_rfl
  neB5 := by decide
theorem bld_String_ax (u : Bool) (bs : List UInt8) : AX Tryz.prog G 89 [.ptr 2 0] (bldH u bs) (.p (.str bs)) [] [] := by
  refine ⟨callable_of Tryz.func89 (by kernel_rfl) rfl, fun M μ w vs hg rel => ?_⟩
  obtain ⟨l⟩ := vs
  have hsz : l.length = 1 := by simpa using rel.slots.1
  match l, hsz with
  | [v], _ =>
  have hv := rel.slots.2 0 v (.ptr 2 0) rfl rfl
  cases hv with
  | @ptr _ _ b hb =>
  have hbx := rel.box 2 (.vars 112 [bldA u, .ms 3]) (by simp [bldH])
  cases hbx with
  | @vars _ _ b' arr h0 hh hs ho hc =>
  rw [hb] at h0; cases h0
  obtain ⟨x, y, rfl⟩ : ∃ x y, arr = #[x, y] := by
    obtain ⟨l⟩ := arr
    match l, hs with
    | [x, y], _ => exact ⟨x, y, rfl⟩
  have hy := hc 1 y (.ms 3) rfl rfl
  have hblt : b < w.heap.size := (Array.getElem?_eq_some_iff.1 hh).1
  have hfin : ∀ (g : Nat) (w' : World), (g < w.heap.size → lentBy μ (bldH u bs) g ∧ ∀ o, M g o = none) → bs.length ≤ maxLen → Mild g w w' →
      ∃ v M' μ', (Ending.returned (.string ⟨bs.toArray⟩) : Ending) = .returned v ∧ Rel ⟨w.heap.size, w, M, μ, lentBy μ (bldH u bs)⟩ M' μ' ⟨[.p (.str bs)], [], [], 0⟩ #[v] w' := by
    intro g w' hl hm hk
    refine ⟨_, M, μ, rfl, ?_⟩
    have hko : ∀ k, k < w.heap.size → k ≠ g → w'.heap[k]? = w.heap[k]? := fun k h1 h2 => hk.block k (by omega)
    refine ⟨fun b o v hv => ?_, fun _ _ _ h => h, fun _ _ _ => rfl, ⟨rfl, fun i u x hu hx => ?_⟩, fun _ h => (by cases h), fun _ _ h => (by cases h), by simp, fun _ _ _ h => by simp [keyIn] at h, fun _ _ h => by simp [keyIn] at h, hk.size, ?_⟩
    · have h1 := rel.mem b o v hv
      have hlt := lt_of_cell h1
      exact (World.cell?_of_block (w := w) (hko b hlt (by rintro rfl; rw [(hl hlt).2 o] at hv; cases hv))).trans h1
    · cases i with
      | zero => simp at hu hx; subst hu; subst hx; exact .p (.str (by simp) hm)
      | succ i => simp at hx
    · refine ⟨hk.os, hk.tape, hk.output, hk.size, fun k h => ?_⟩
      have h1 : k < w.heap.size := Nat.not_le.1 fun h' => h (.inl h')
      exact hko k h1 (by rintro rfl; exact h (.inr (hl h1).1))
  have hrow := rel.box 3 (.row 5 1 (bytesP bs)) (by simp [bldH])
  have key : ∃ g, (g < w.heap.size → lentBy μ (bldH u bs) g ∧ ∀ o, M g o = none) ∧ bs.length ≤ maxLen ∧ Calls Tryz.prog 89 #[.pointer (some ⟨b, 0, none⟩)] w fun e w' => e = .returned (.string ⟨bs.toArray⟩) ∧ Mild g w w' := by
    rcases hrow.cells with ⟨he, hn, hval⟩ | ⟨g, cap, cur, hg0, hval, hgh, hcs, hlc, hcm, hone, hro⟩
    · obtain rfl : bs = [] := by simpa [bytesP] using he
      have hy' : y = .slice none 0 0 := by cases hy with | ms h _ => rw [h, hval]
      subst hy'
      exact ⟨w.heap.size, fun h => absurd h (Nat.lt_irrefl _), by simp, bld_nil Tryz.lays169 bldS_extra b x w hh⟩
    · have hy' : y = .slice (some ⟨g, 0, none⟩) bs.length cap := by cases hy with | ms h _ => rw [h, hval]; simp [bytesP]
      subst hy'
      have hown := rel.own 3 g (by simp [keyIn, bldH]) hg0
      refine ⟨g, fun h => ⟨⟨3, by simp [keyIn, bldH], hg0⟩, hown.2.2⟩, by simp [bytesP] at hlc; omega, ?_⟩
      by_cases hbs : bs = []
      · subst hbs
        by_cases hc0 : cap = 0
        · subst hc0; exact bld_none Tryz.lays169 bldS_extra b g x cur w hblt hh hgh
        · exact bld_room Tryz.lays169 bldS_extra b g cap x w hc0 hh
      · refine bld_row Tryz.lays169 bldS_extra b g cap x cur bs w hh hgh (by simpa [bytesP] using hlc) hcm (by simpa using hcs) (fun j z hz => ?_) hbs
        have hjl := (List.getElem?_eq_some_iff.1 hz).1
        have hj : j < cur.size := by rw [hcs]; simp [bytesP] at hlc; omega
        have := hro.get j (.int .u8 z.toNat) 0 (.int .u8 z.toNat) cur[j] (by simp [bytesP, hz]) rfl (by simp [bytesP, List.getElem?_take, hjl, hj])
        rw [Array.getElem?_eq_getElem hj]
        generalize cur[j] = q at this
        cases this
        rfl
  obtain ⟨g, h1, h2, h3⟩ := key
  refine h3.mono ?_
  rintro e w' ⟨rfl, hk⟩
  exact hfin g w' h1 h2 hk
theorem String_ax (bs : List UInt8) : AX Tryz.prog G 89 [.ptr 2 0] [(2, .vars 112 [.ptr 2 0, .ms 3]), (3, .row 5 1 (bytesP bs))] (.p (.str bs)) [] [] := bld_String_ax true bs
theorem StringF_ax (bs : List UInt8) : AX Tryz.prog G 89 [.ptr 2 0] [(2, .vars 112 [.p .nilp, .ms 3]), (3, .row 5 1 (bytesP bs))] (.p (.str bs)) [] [] := bld_String_ax false bs
end Go.Proofs.YtdjjmppnnkkloaaGreatDoor
namespace Go.Proofs.YtdjjmppnnkkloaaGreatDoor
open Sy Go
set_option maxRecDepth 100000
set_option maxHeartbeats 4000000
set_option linter.unusedSimpArgs false
set_option linter.unusedVariables false
variable {G : Glob}
@[simp] theorem bytesP_app (a s : List UInt8) : bytesP (a ++ s) = bytesP a ++ s.map fun b => .int .u8 b.toNat := by simp [bytesP]
theorem WriteByteF_ax (bs : List UInt8) (c : UInt8) (hb : bs.length ≤ 100000000000) : AX Tryz.prog G 86 [.ptr 2 0, .p (.int .u8 c.toNat)] [(2, .vars 112 [.p .nilp, .ms 3]), (3, .row 5 1 (bytesP bs))] (.dead) [2] [(2, .vars 112 [.ptr 2 0, .ms 3]), (3, .row 5 1 (bytesP (bs ++ [c])))] := by
  refine AX.introU tok 900 Tryz.func86 (by kernel_rfl) rfl rfl ?_
  simp only [Tryz.f86, enumA, List.map_cons, List.map_nil]
  refine rgn [] [[0, 1]] ?_
  refine op1 tok ?_
  refine runEnd ?_
  refine rgn [] [[]] ?_
  refine op1 tok ?_
  refine runOff ?_
  refine AOpsO.stepK [0, 1] (y_cx rfl (ccF_ax bs) (by simp)) (by conv => lhs; simp) rfl ?_
  refine AOpsO.nil ?_
  refine rgn [.int .u8 c.toNat] [[], [], [], [], [1, 7, 11], [], [], [7, 14], [], [], [17]] ?_
  iterate 11 refine op1 tok ?_
  refine runEnd ?_
  refine rgn [] [[]] ?_
  refine op1 tok ?_
  refine runEnd ?_
  exact AW.ret ⟨.inr rfl, _, _, by (conv => lhs; simp), trivial, by simp, by simp, by simp, by simp⟩
theorem WriteStringF_ax (bs s : List UInt8) (hb : bs.length ≤ 100000000000) (hs : s.length ≤ 100000000000) : AX Tryz.prog G 88 [.ptr 2 0, .p (.str s)] [(2, .vars 112 [.p .nilp, .ms 3]), (3, .row 5 1 (bytesP bs))] (.dead) [2] [(2, .vars 112 [.ptr 2 0, .ms 3]), (3, .row 5 1 (bytesP (bs ++ s)))] := by
  refine AX.introU tok 900 Tryz.func88 (by kernel_rfl) rfl rfl ?_
  simp only [Tryz.f88, enumA, List.map_cons, List.map_nil]
  refine rgn [] [[], [0, 1]] ?_
  iterate 2 refine op1 tok ?_
  refine runEnd ?_
  refine rgn [] [[]] ?_
  refine op1 tok ?_
  refine runOff ?_
  refine AOpsO.stepK [0, 1] (y_cx rfl (ccF_ax bs) (by simp)) (by conv => lhs; simp) rfl ?_
  refine AOpsO.nil ?_
  refine rgn [] [[], [], [], [], [1, 8, 12], [], [], [], [1, 14, 16], [1]] ?_
  iterate 10 refine op1 tok ?_
  refine runEnd ?_
  refine rgn [] [[], [], [], [4, 5]] ?_
  iterate 4 refine op1 tok ?_
  refine runEnd ?_
  exact AW.ret ⟨.inr rfl, _, _, by (conv => lhs; simp), trivial, by simp, by simp, by simp, by simp⟩
theorem WriteByte_ax (bs : List UInt8) (c : UInt8) (hb : bs.length ≤ 100000000000) : AX Tryz.prog G 86 [.ptr 2 0, .p (.int .u8 c.toNat)] [(2, .vars 112 [.ptr 2 0, .ms 3]), (3, .row 5 1 (bytesP bs))] (.dead) [2] [(2, .vars 112 [.ptr 2 0, .ms 3]), (3, .row 5 1 (bytesP (bs ++ [c])))] := by
  refine AX.introU tok 900 Tryz.func86 (by kernel_rfl) rfl rfl ?_
  simp only [Tryz.f86, enumA, List.map_cons, List.map_nil]
  refine rgn [] [[0, 1]] ?_
  refine op1 tok ?_
  refine runEnd ?_
  refine rgn [] [[]] ?_
  refine op1 tok ?_
  refine runOff ?_
  refine AOpsO.stepK [0, 1] (y_cx rfl (cc_ax bs) (by simp)) (by conv => lhs; simp) rfl ?_
  refine AOpsO.nil ?_
  refine rgn [.int .u8 c.toNat] [[], [], [], [], [1, 7, 11], [], [], [7, 14], [], [], [17]] ?_
  iterate 11 refine op1 tok ?_
  refine runEnd ?_
  refine rgn [] [[]] ?_
  refine op1 tok ?_
  refine runEnd ?_
  exact AW.ret ⟨.inr rfl, _, _, by (conv => lhs; simp), trivial, by simp, by simp, by simp, by simp⟩
theorem WriteString_ax (bs s : List UInt8) (hb : bs.length ≤ 100000000000) (hs : s.length ≤ 100000000000) : AX Tryz.prog G 88 [.ptr 2 0, .p (.str s)] [(2, .vars 112 [.ptr 2 0, .ms 3]), (3, .row 5 1 (bytesP bs))] (.dead) [2] [(2, .vars 112 [.ptr 2 0, .ms 3]), (3, .row 5 1 (bytesP (bs ++ s)))] := by
  refine AX.introU tok 900 Tryz.func88 (by kernel_rfl) rfl rfl ?_
  simp only [Tryz.f88, enumA, List.map_cons, List.map_nil]
  refine rgn [] [[], [0, 1]] ?_
  iterate 2 refine op1 tok ?_
  refine runEnd ?_
  refine rgn [] [[]] ?_
  refine op1 tok ?_
  refine runOff ?_
  refine AOpsO.stepK [0, 1] (y_cx rfl (cc_ax bs) (by simp)) (by conv => lhs; simp) rfl ?_
  refine AOpsO.nil ?_
  refine rgn [] [[], [], [], [], [1, 8, 12], [], [], [], [1, 14, 16], [1]] ?_
  iterate 10 refine op1 tok ?_
  refine runEnd ?_
  refine rgn [] [[], [], [], [4, 5]] ?_
  iterate 4 refine op1 tok ?_
  refine runEnd ?_
  exact AW.ret ⟨.inr rfl, _, _, by (conv => lhs; simp), trivial, by simp, by simp, by simp, by simp⟩
@[simp] theorem bytesP_nil : bytesP [] = [] := rfl
theorem encP (r : Int) (l : List Int) (h : Lib.encodeRuneZ r = l) : bytesP (Lib.encodeRune r) = l.map (PD.int .u8) := by
  subst h
  simp only [bytesP, Lib.encodeRune, List.map_map]
  apply List.map_congr_left
  intro x hx
  obtain ⟨h0, h1⟩ := Lib.encodeRuneZ_byte r x hx
  simp [Function.comp]
  omega
theorem fin_of {k : Nat} {n : Int} (h : 0 ≤ n ∧ n < k) : ∃ x : Fin k, n = x.val := ⟨⟨n.toNat, by omega⟩, by simp; omega⟩
theorem wrap8 (n : Int) (h : 0 ≤ n) : IntKind.u8.wrap n = n % 256 := by simp [IntKind.wrap, IntKind.bits, IntKind.signed]
theorem lead192 (n : Int) (h : 0 ≤ n ∧ n < 32) : IntKind.u8.wrap ↑(192 % 2 ^ IntKind.u8.bits ||| (IntKind.u8.wrap n % 2 ^ IntKind.u8.bits).toNat) = 192 + n := by
  obtain ⟨x, rfl⟩ := fin_of h; revert x; decide +kernel
theorem lead224 (n : Int) (h : 0 ≤ n ∧ n < 16) : IntKind.u8.wrap ↑(224 % 2 ^ IntKind.u8.bits ||| (IntKind.u8.wrap n % 2 ^ IntKind.u8.bits).toNat) = 224 + n := by
  obtain ⟨x, rfl⟩ := fin_of h; revert x; decide +kernel
theorem lead240 (n : Int) (h : 0 ≤ n ∧ n < 8) : IntKind.u8.wrap ↑(240 % 2 ^ IntKind.u8.bits ||| (IntKind.u8.wrap n % 2 ^ IntKind.u8.bits).toNat) = 240 + n := by
  obtain ⟨x, rfl⟩ := fin_of h; revert x; decide +kernel
theorem cont256 : ∀ x : Fin 256, IntKind.u8.wrap ↑(128 % 2 ^ IntKind.u8.bits ||| (IntKind.u8.wrap ↑((((x.val : Nat) : Int) % 2 ^ IntKind.u8.bits).toNat &&& 63 % 2 ^ IntKind.u8.bits) % 2 ^ IntKind.u8.bits).toNat) = 128 + ((x.val : Nat) : Int) % 64 := by decide +kernel
theorem cont8 (n : Int) (h : 0 ≤ n) : IntKind.u8.wrap ↑(128 % 2 ^ IntKind.u8.bits ||| (IntKind.u8.wrap ↑((IntKind.u8.wrap n % 2 ^ IntKind.u8.bits).toNat &&& 63 % 2 ^ IntKind.u8.bits) % 2 ^ IntKind.u8.bits).toNat) = 128 + n % 64 := by
  rw [wrap8 n h]
  obtain ⟨x, hx⟩ := fin_of (k := 256) (n := n % 256) (by omega)
  rw [hx, cont256 x, ← hx]
  omega
theorem shr6 (r : Int) : r.fdiv (2 ^ min 6 IntKind.i32.bits) = r / 64 := Int.fdiv_eq_ediv_of_nonneg _ (by decide)
theorem shr12 (r : Int) : r.fdiv (2 ^ min 12 IntKind.i32.bits) = r / 4096 := Int.fdiv_eq_ediv_of_nonneg _ (by decide)
theorem shr18 (r : Int) : r.fdiv (2 ^ min 18 IntKind.i32.bits) = r / 262144 := Int.fdiv_eq_ediv_of_nonneg _ (by decide)
theorem appendNon_ax (bs : List UInt8) (r : Int) (hb : bs.length ≤ 100000000000) (h0 : 128 ≤ r) (h1 : r ≤ 1114111) (h2 : r < 55296 ∨ 57343 < r) : AX Tryz.prog G 141 [.ms 3, .p (.int .i32 r)] [(3, .row 5 1 (bytesP bs))] (.ms 3) [] [(3, .row 5 1 (bytesP bs ++ bytesP (Lib.encodeRune r)))] := by
  refine AX.introU tok 900 Tryz.func141 (by kernel_rfl) rfl rfl ?_
  simp only [Tryz.f141, enumA, List.map_cons, List.map_nil]
  have hw : IntKind.u32.wrap r = r := by simp [IntKind.wrap, IntKind.bits, IntKind.signed]; omega
  refine rgn [] [[0, 1]] ?_
  refine op1 tok ?_
  refine runEnd ?_
  refine rgn [] [[], [], [0, 1, 5]] ?_
  iterate 3 refine op1 tok ?_
  refine runEnd ?_
  refine AW.block ?_
  refine rgn [] [[], [], [0, 1, 5, 11]] ?_
  iterate 3 refine op1 tok ?_
  refine runEnd ?_
  refine cnd ?_ ?_
  · intro h11
    try simp at h11
    rw [encP r _ (Lib.encodeRuneZ_two (by omega) (by omega))]
    refine rgn [.int .u8 (192 + r / 64), .int .u8 (128 + r % 64)] [[], [], [], [], [1, 14, 18], [], [], [], [14, 18, 22], [], [24], [4]] ?_
    iterate 12 refine op1 tok ?_ (hv := by first | with_reducible exact True.intro | (simp only [shr6, shr12, shr18]; exact ⟨lead192 _ (by omega), cont8 _ (by omega)⟩; done) | omega | simp | (simp; omega) | (simp +contextual; omega))
    refine runEnd ?_
    exact AW.ret ⟨.inr rfl, _, _, by (conv => lhs; simp), trivial, by simp, by simp, by simp, by simp⟩
  · intro h11
    try simp at h11
    refine AW.seq ?_
    refine rgn [] [[], [], [0, 1, 5, 25]] ?_
    iterate 3 refine op1 tok ?_
    refine runEnd ?_
    refine cnd ?_ ?_
    · intro h25
      try simp at h25
      refine AW.skip ?_
      refine cnd ?_ ?_
      · intro h25
        try simp at h25
        rw [encP r _ (Lib.encodeRuneZ_three (by omega))]
        refine rgn [.int .u8 (224 + r / 4096), .int .u8 (128 + r / 64 % 64), .int .u8 (128 + r % 64)] [[], [], [], [], [1, 34, 38], [], [], [], [], [1, 34, 38, 43], [], [], [], [34, 38, 43, 47], [], [49], [4]] ?_
        iterate 17 refine op1 tok ?_ (hv := by first | with_reducible exact True.intro | (simp only [shr6, shr12, shr18]; exact ⟨lead224 _ (by omega), cont8 _ (by omega), cont8 _ (by omega)⟩; done) | omega | simp | (simp; omega) | (simp +contextual; omega))
        refine runEnd ?_
        exact AW.ret ⟨.inr rfl, _, _, by (conv => lhs; simp), trivial, by simp, by simp, by simp, by simp⟩
      · intro h25
        try simp at h25
        refine rgn [] [[], [], [], [], [0, 1, 53, 55], [], [0, 1, 50]] ?_
        iterate 3 refine op1 tok ?_
        iterate 2 refine op2 tok ?_
        iterate 2 refine op1 tok ?_
        refine runEnd ?_
        refine cnd ?_ ?_
        · intro h50
          try simp at h50
          rw [encP r _ (Lib.encodeRuneZ_four (by omega) (by omega))]
          refine rgn [.int .u8 (240 + r / 262144), .int .u8 (128 + r / 4096 % 64), .int .u8 (128 + r / 64 % 64), .int .u8 (128 + r % 64)] [[], [], [], [], [1, 57, 61], [], [], [], [], [1, 57, 61, 66], [], [], [], [], [1, 57, 61, 66, 71], [], [], [], [57, 61, 66, 71, 75], [57, 76], [], [4]] ?_
          iterate 22 refine op1 tok ?_ (hv := by first | with_reducible exact True.intro | (simp only [shr6, shr12, shr18]; exact ⟨lead240 _ (by omega), cont8 _ (by omega), cont8 _ (by omega), cont8 _ (by omega)⟩; done) | omega | simp | (simp; omega) | (simp +contextual; omega))
          refine runEnd ?_
          exact AW.ret ⟨.inr rfl, _, _, by (conv => lhs; simp), trivial, by simp, by simp, by simp, by simp⟩
        · intro h50
          try simp at h50
          omega
    · intro h25
      try simp at h25
      refine rgz [] [[], [], [], [], [], [0, 1, 5, 33], [0, 1, 5, 25]] ?_
      iterate 3 refine op1 tok ?_
      iterate 2 refine op2 tok ?_
      iterate 2 refine op1 tok ?_
      refine runEnd ?_
      refine cnd ?_ ?_
      · intro h25
        try simp at h25
        rw [encP r _ (Lib.encodeRuneZ_three (by omega))]
        refine rgn [.int .u8 (224 + r / 4096), .int .u8 (128 + r / 64 % 64), .int .u8 (128 + r % 64)] [[], [], [], [], [1, 34, 38], [], [], [], [], [1, 34, 38, 43], [], [], [], [34, 38, 43, 47], [], [49], [4]] ?_
        iterate 17 refine op1 tok ?_ (hv := by first | with_reducible exact True.intro | (simp only [shr6, shr12, shr18]; exact ⟨lead224 _ (by omega), cont8 _ (by omega), cont8 _ (by omega)⟩; done) | omega | simp | (simp; omega) | (simp +contextual; omega))
        refine runEnd ?_
        exact AW.ret ⟨.inr rfl, _, _, by (conv => lhs; simp), trivial, by simp, by simp, by simp, by simp⟩
      · intro h25
        try simp at h25
        refine rgn [] [[], [], [], [], [0, 1, 53, 55], [], [0, 1, 50]] ?_
        iterate 3 refine op1 tok ?_
        iterate 2 refine op2 tok ?_
        iterate 2 refine op1 tok ?_
        refine runEnd ?_
        refine cnd ?_ ?_
        · intro h50
          try simp at h50
          rw [encP r _ (Lib.encodeRuneZ_four (by omega) (by omega))]
          refine rgn [.int .u8 (240 + r / 262144), .int .u8 (128 + r / 4096 % 64), .int .u8 (128 + r / 64 % 64), .int .u8 (128 + r % 64)] [[], [], [], [], [1, 57, 61], [], [], [], [], [1, 57, 61, 66], [], [], [], [], [1, 57, 61, 66, 71], [], [], [], [57, 61, 66, 71, 75], [57, 76], [], [4]] ?_
          iterate 22 refine op1 tok ?_ (hv := by first | with_reducible exact True.intro | (simp only [shr6, shr12, shr18]; exact ⟨lead240 _ (by omega), cont8 _ (by omega), cont8 _ (by omega), cont8 _ (by omega)⟩; done) | omega | simp | (simp; omega) | (simp +contextual; omega))
          refine runEnd ?_
          exact AW.ret ⟨.inr rfl, _, _, by (conv => lhs; simp), trivial, by simp, by simp, by simp, by simp⟩
        · intro h50
          try simp at h50
          omega
theorem AppendRune_ax (bs : List UInt8) (r : Int) (hb : bs.length ≤ 100000000000) (h0 : 0 ≤ r) (h1 : r ≤ 1114111) (h2 : r < 55296 ∨ 57343 < r) : AX Tryz.prog G 119 [.ms 3, .p (.int .i32 r)] [(3, .row 5 1 (bytesP bs))] (.ms 3) [] [(3, .row 5 1 (bytesP bs ++ bytesP (Lib.encodeRune r)))] := by
  refine AX.introU tok 900 Tryz.func119 (by kernel_rfl) rfl rfl ?_
  simp only [Tryz.f119, enumA, List.map_cons, List.map_nil]
  have hw : IntKind.u32.wrap r = r := by simp [IntKind.wrap, IntKind.bits, IntKind.signed]; omega
  have hw8 := wrap8 r h0
  refine rgn [] [[0, 1]] ?_
  refine op1 tok ?_
  refine runEnd ?_
  refine AW.seq ?_
  refine rgn [] [[], [], [0, 1, 7]] ?_
  iterate 3 refine op1 tok ?_
  refine runEnd ?_
  refine cnd ?_ ?_
  · intro h7
    try simp at h7
    rw [encP r _ (Lib.encodeRuneZ_one (by omega) (by omega))]
    refine rgn [.int .u8 r] [[], [], [], [8, 11], [], [4]] ?_
    iterate 6 refine op1 tok ?_ (hv := by first | with_reducible exact True.intro | ((rw [hw8]; omega); done) | omega | simp | (simp; omega) | (simp +contextual; omega))
    refine runEnd ?_
    exact AW.ret ⟨.inr rfl, _, _, by (conv => lhs; simp), trivial, by simp, by simp, by simp, by simp⟩
  · intro h7
    try simp at h7
    refine AW.skip ?_
    refine rgn [] [[], []] ?_
    iterate 2 refine op1 tok ?_
    refine runOff ?_
    refine AOpsO.stepK [15] (y_cx rfl (appendNon_ax bs r hb (by omega) h1 h2) (by simp)) (by conv => lhs; simp) rfl ?_
    refine AOpsO.run [[4]] ?_
    refine op1 tok ?_
    refine runEnd ?_
    exact AW.ret ⟨.inr rfl, _, _, by (conv => lhs; simp), trivial, by simp, by simp, by simp, by simp⟩
theorem WriteRuneF_ax (bs : List UInt8) (r : Int) (hb : bs.length ≤ 100000000000) (h0 : 0 ≤ r) (h1 : r ≤ 1114111) (h2 : r < 55296 ∨ 57343 < r) : AX Tryz.prog G 87 [.ptr 2 0, .p (.int .i32 r)] [(2, .vars 112 [.p .nilp, .ms 3]), (3, .row 5 1 (bytesP bs))] (.dead) [2] [(2, .vars 112 [.ptr 2 0, .ms 3]), (3, .row 5 1 (bytesP bs ++ bytesP (Lib.encodeRune r)))] := by
  refine AX.introU tok 900 Tryz.func87 (by kernel_rfl) rfl rfl ?_
  simp only [Tryz.f87, enumA, List.map_cons, List.map_nil]
  have hel : (Lib.encodeRune r).length ≤ 4 := by simp only [Lib.encodeRune, List.length_map]; exact (Lib.encodeRuneZ_length r).2
  refine rgn [] [[], [0, 1]] ?_
  iterate 2 refine op1 tok ?_
  refine runEnd ?_
  refine rgn [] [[]] ?_
  refine op1 tok ?_
  refine runOff ?_
  refine AOpsO.stepK [0, 1] (y_cx rfl (ccF_ax bs) (by simp)) (by conv => lhs; simp) rfl ?_
  refine AOpsO.nil ?_
  refine rgn [] [[], [], [], [], [0, 1, 13], [0, 1, 6]] ?_
  iterate 6 refine op1 tok ?_
  refine runEnd ?_
  refine rgn [] [[], [], [], [], [], [0, 6, 14, 18, 19]] ?_
  iterate 6 refine op1 tok ?_
  refine runOff ?_
  refine AOpsO.stepK [0, 6, 14, 20] (y_cx rfl (AppendRune_ax bs r hb h0 h1 h2) (by simp)) (by conv => lhs; simp) rfl ?_
  refine AOpsO.run [[], [], [0, 6]] ?_
  iterate 3 refine op1 tok ?_
  refine runEnd ?_
  refine rgn [] [[], [], [], [6, 26], [], [], [29], [], [4, 5]] ?_
  iterate 9 refine op1 tok ?_
  refine runEnd ?_
  exact AW.ret ⟨.inr rfl, _, _, by (conv => lhs; simp), trivial, by simp, by simp, by simp, by simp⟩
theorem WriteRune_ax (bs : List UInt8) (r : Int) (hb : bs.length ≤ 100000000000) (h0 : 0 ≤ r) (h1 : r ≤ 1114111) (h2 : r < 55296 ∨ 57343 < r) : AX Tryz.prog G 87 [.ptr 2 0, .p (.int .i32 r)] [(2, .vars 112 [.ptr 2 0, .ms 3]), (3, .row 5 1 (bytesP bs))] (.dead) [2] [(2, .vars 112 [.ptr 2 0, .ms 3]), (3, .row 5 1 (bytesP bs ++ bytesP (Lib.encodeRune r)))] := by
  refine AX.introU tok 900 Tryz.func87 (by kernel_rfl) rfl rfl ?_
  simp only [Tryz.f87, enumA, List.map_cons, List.map_nil]
  have hel : (Lib.encodeRune r).length ≤ 4 := by simp only [Lib.encodeRune, List.length_map]; exact (Lib.encodeRuneZ_length r).2
  refine rgn [] [[], [0, 1]] ?_
  iterate 2 refine op1 tok ?_
  refine runEnd ?_
  refine rgn [] [[]] ?_
  refine op1 tok ?_
  refine runOff ?_
  refine AOpsO.stepK [0, 1] (y_cx rfl (cc_ax bs) (by simp)) (by conv => lhs; simp) rfl ?_
  refine AOpsO.nil ?_
  refine rgn [] [[], [], [], [], [0, 1, 13], [0, 1, 6]] ?_
  iterate 6 refine op1 tok ?_
  refine runEnd ?_
  refine rgn [] [[], [], [], [], [], [0, 6, 14, 18, 19]] ?_
  iterate 6 refine op1 tok ?_
  refine runOff ?_
  refine AOpsO.stepK [0, 6, 14, 20] (y_cx rfl (AppendRune_ax bs r hb h0 h1 h2) (by simp)) (by conv => lhs; simp) rfl ?_
  refine AOpsO.run [[], [], [0, 6]] ?_
  iterate 3 refine op1 tok ?_
  refine runEnd ?_
  refine rgn [] [[], [], [], [6, 26], [], [], [29], [], [4, 5]] ?_
  iterate 9 refine op1 tok ?_
  refine runEnd ?_
  exact AW.ret ⟨.inr rfl, _, _, by (conv => lhs; simp), trivial, by simp, by simp, by simp, by simp⟩
theorem BLenF_ax (bs : List UInt8) : AX Tryz.prog G 108 [.ptr 2 0] [(2, .vars 112 [.p .nilp, .ms 3]), (3, .row 5 1 (bytesP bs))] (.p (.int .i64 bs.length)) [2, 3] [(2, .vars 112 [.p .nilp, .ms 3]), (3, .row 5 1 (bytesP bs))] := by
  refine AX.introU tok 900 Tryz.func108 (by kernel_rfl) rfl rfl ?_
  simp only [Tryz.f108, enumA, List.map_cons, List.map_nil]
  refine rgn [] [[0]] ?_
  refine op1 tok ?_
  refine runEnd ?_
  refine rgn [] [[], [], [], [6], [], [2]] ?_
  iterate 6 refine op1 tok ?_
  refine runEnd ?_
  exact AW.ret ⟨.inr rfl, _, _, by (conv => lhs; simp), trivial, by simp, by simp, by simp, by simp⟩
theorem BLen_ax (bs : List UInt8) : AX Tryz.prog G 108 [.ptr 2 0] [(2, .vars 112 [.ptr 2 0, .ms 3]), (3, .row 5 1 (bytesP bs))] (.p (.int .i64 bs.length)) [2, 3] [(2, .vars 112 [.ptr 2 0, .ms 3]), (3, .row 5 1 (bytesP bs))] := by
  refine AX.introU tok 900 Tryz.func108 (by kernel_rfl) rfl rfl ?_
  simp only [Tryz.f108, enumA, List.map_cons, List.map_nil]
  refine rgn [] [[0]] ?_
  refine op1 tok ?_
  refine runEnd ?_
  refine rgn [] [[], [], [], [6], [], [2]] ?_
  iterate 6 refine op1 tok ?_
  refine runEnd ?_
  exact AW.ret ⟨.inr rfl, _, _, by (conv => lhs; simp), trivial, by simp, by simp, by simp, by simp⟩
end Go.Proofs.YtdjjmppnnkkloaaGreatDoor
/-
  OUR OWN LAYER: contracts of the kit's shelf as ours: utf8.DecodeRuneInString.
-/
namespace Go.Proofs.YtdjjmppnnkkloaaGreatDoor
open Sy Go
variable {G : Glob}
theorem decodeL_max (l : List UInt8) : (Lib.decodeL l).1 ≤ 1114111 := decode_range _ _
theorem DecodeRune_ev (hG : U8 G) (s : List UInt8) (hs : s ≠ []) : AFn Tryz.prog G 107 [.str s] (.tup [.int .i32 (Lib.decodeL s).1, .int .i64 (Lib.decodeL s).2]) := by
  refine AFn.of_calls (callable_of Tryz.func107 (by kernel_rfl) rfl) fun M w vs hg hmem hsz hrd => ?_
  obtain ⟨b, rfl, rfl, hm⟩ := arg_str hsz hrd
  refine (Any.utf8_DecodeRuneInString Tryz.lays197 b w (u8_tabs hG hg hmem)).mono ?_
  rintro e w' ⟨rfl, hb⟩
  have h0 : b.size ≠ 0 := fun h => hs (List.eq_nil_of_length_eq_zero (by simpa using h))
  have e : Lib.decodeGo b = Lib.decodeL b.data.toList := by
    unfold Lib.decodeGo Lib.decodeL
    rw [if_neg h0]
  rw [e]
  have h1 := decodeL_max b.data.toList
  have h2 := Lib.decodeL_le b.data.toList hs
  have h3 : b.data.toList.length ≤ maxLen := by simpa using hm
  refine ⟨_, rfl, .tup rfl fun i u d hu hd => ?_, hb⟩
  match i, hu, hd with
  | 0, hu, hd => simp at hu hd; subst hu; subst hd; exact .int (by rw [kmin_eq]; simp only [kmin]; omega) (by rw [kmax_eq]; simp only [kmax]; omega)
  | 1, hu, hd => simp at hu hd; subst hu; subst hd; exact .int (by rw [kmin_eq]; simp only [kmin]; omega) (by rw [kmax_eq]; simp only [kmax]; unfold maxLen at h3; omega)
  | i + 2, hu, hd => simp at hu
end Go.Proofs.YtdjjmppnnkkloaaGreatDoor
/-
  A PLAIN LAW: runes of a text: those below 128 are its bytes.
-/
namespace Go.Proofs.YtdjjmppnnkkloaaGreatDoor
open Sy Go
set_option linter.unusedSimpArgs false
set_option linter.unusedVariables false
theorem decL_pos {s : List UInt8} {pos : Nat} (h : pos < s.length) : 1 ≤ (decL s pos).2 := Lib.decode_width_pos _ _ (by simpa [ByteArray.size] using h)
theorem decL_ascii {s : List UInt8} {pos : Nat} (h : pos < s.length) (ha : (s.getD pos 0).toNat < 128) : decL s pos = ((s.getD pos 0).toNat, 1) := by
  have hs : pos < (⟨s.toArray⟩ : ByteArray).size := by simpa [ByteArray.size] using h
  have e : (⟨s.toArray⟩ : ByteArray)[pos]'hs = s.getD pos 0 := by simp [List.getD_eq_getElem?_getD, h]; rfl
  unfold decL
  rw [decode_ascii _ _ hs (by rw [e]; exact ha), e]
theorem decL_big {s : List UInt8} {pos : Nat} (h : pos < s.length) (ha : 128 ≤ (s.getD pos 0).toNat) : 128 ≤ (decL s pos).1 := by
  have e : ((⟨s.toArray⟩ : ByteArray).get! (pos + 0)).toNat = (s.getD pos 0).toNat := by
    simp [ByteArray.get!, List.getD_eq_getElem?_getD, h]
  unfold decL Utf8.decode
  simp only [e]
  rw [if_neg (by omega)]
  split
  · split
    · simp only [ge_iff_le] at *; omega
    · simp [Utf8.runeError]
  · split
    · split
      · rename_i hc; simp only [ge_iff_le, Bool.and_eq_true, decide_eq_true_eq] at hc; omega
      · simp [Utf8.runeError]
    · split
      · split
        · rename_i hc; simp only [ge_iff_le, Bool.and_eq_true, decide_eq_true_eq] at hc; omega
        · simp [Utf8.runeError]
      · simp [Utf8.runeError]
/-- The place of the first rune that is so. -/
def idxF (p : Int → Bool) (s : List UInt8) : Nat → Nat → Int
  | 0, _ => -1
  | f + 1, pos => if pos < s.length then (if p (decL s pos).1 then (pos : Int) else idxF p s f (pos + (decL s pos).2)) else -1
def indexF (p : Int → Bool) (s : List UInt8) : Int := idxF p s (s.length + 1) 0
theorem idxF_fuel (p : Int → Bool) (s : List UInt8) : ∀ (f g pos : Nat), s.length < pos + f → s.length < pos + g → idxF p s f pos = idxF p s g pos
  | 0, 0, _, _, _ => rfl
  | 0, g + 1, pos, h, _ => by simp only [idxF]; rw [if_neg (by omega)]
  | f + 1, 0, pos, _, h => by simp only [idxF]; rw [if_neg (by omega)]
  | f + 1, g + 1, pos, hf, hg => by
    simp only [idxF]
    by_cases h : pos < s.length
    · rw [if_pos h, if_pos h]
      split
      · rfl
      · have := decL_pos h
        exact idxF_fuel p s f g _ (by omega) (by omega)
    · rw [if_neg h, if_neg h]
def idxAt (p : Int → Bool) (s : List UInt8) (pos : Nat) : Int := idxF p s (s.length + 1 - pos) pos
theorem idxAt_end {p : Int → Bool} {s : List UInt8} {pos : Nat} (h : ¬ pos < s.length) : idxAt p s pos = -1 := by
  unfold idxAt; cases hf : s.length + 1 - pos with
  | zero => rfl
  | succ f => simp only [idxF]; rw [if_neg h]
theorem idxAt_hit {p : Int → Bool} {s : List UInt8} {pos : Nat} (h : pos < s.length) (hp : p (decL s pos).1 = true) : idxAt p s pos = pos := by
  unfold idxAt; rw [show s.length + 1 - pos = (s.length - pos) + 1 by omega]; simp only [idxF]; rw [if_pos h, if_pos hp]
theorem idxAt_miss {p : Int → Bool} {s : List UInt8} {pos : Nat} (h : pos < s.length) (hp : p (decL s pos).1 = false) : idxAt p s pos = idxAt p s (pos + (decL s pos).2) := by
  unfold idxAt; rw [show s.length + 1 - pos = (s.length - pos) + 1 by omega]; simp only [idxF]
  have := decL_pos h
  rw [if_pos h, if_neg (by simp [hp])]; exact idxF_fuel p s _ _ _ (by omega) (by omega)
theorem indexF_at (p : Int → Bool) (s : List UInt8) : indexF p s = idxAt p s 0 := by simp [indexF, idxAt]
/-- Where a rune of 128 or more is so, the first such is the first byte that is so. -/
theorem idxAt_bytes {p : Int → Bool} (hbig : ∀ n : Int, 128 ≤ n → p n = true) (s : List UInt8) : ∀ (f pos : Nat), f = s.length - pos → pos ≤ s.length → idxAt p s pos = if (s.drop pos).all (fun b => !p b.toNat) then -1 else ((pos + ((s.drop pos).takeWhile fun b => !p b.toNat).length : Nat) : Int)
  | 0, pos, hf, hp => by
    rw [idxAt_end (by omega), List.drop_eq_nil_of_le (by omega)]; simp
  | f + 1, pos, hf, hp => by
    have hlt : pos < s.length := by omega
    have hd : s.drop pos = s.getD pos 0 :: s.drop (pos + 1) := by
      rw [List.drop_eq_getElem_cons hlt]; congr 1; simp [List.getD_eq_getElem?_getD, hlt]
    rw [hd]
    have hda0 := fun h => decL_ascii (s := s) (pos := pos) hlt h
    have hdb0 := fun h => decL_big (s := s) (pos := pos) hlt h
    clear hd
    generalize s.getD pos 0 = c at *
    by_cases ha : c.toNat < 128
    · have hda := hda0 ha
      cases hpb : p ((c.toNat : Nat) : Int) with
      | true => rw [idxAt_hit hlt (by rw [hda]; exact hpb)]; simp [hpb]
      | false =>
        rw [idxAt_miss hlt (by rw [hda]; exact hpb), hda, idxAt_bytes hbig s f (pos + 1) (by omega) (by omega)]
        simp only [List.all_cons, hpb, Bool.not_false, Bool.true_and, List.takeWhile_cons, if_true, List.length_cons]
        split <;> first | rfl | (congr 1; omega)
    · have hb := hdb0 (by omega)
      rw [idxAt_hit hlt (hbig _ (by omega))]
      have : p ((c.toNat : Nat) : Int) = true := hbig _ (by omega)
      simp [this]
theorem indexF_bytes {p : Int → Bool} (hbig : ∀ n : Int, 128 ≤ n → p n = true) (s : List UInt8) : indexF p s = if s.all (fun b => !p b.toNat) then -1 else (((s.takeWhile fun b => !p b.toNat).length : Nat) : Int) := by
  rw [indexF_at, idxAt_bytes hbig s _ 0 rfl (by omega)]; simp
theorem indexF_lt (p : Int → Bool) (s : List UInt8) : -1 ≤ indexF p s ∧ indexF p s ≤ s.length := by
  have key : ∀ (f pos : Nat), pos ≤ s.length → -1 ≤ idxF p s f pos ∧ idxF p s f pos ≤ s.length := by
    intro f
    induction f with
    | zero => intro pos _; simp [idxF] <;> omega
    | succ f ih =>
      intro pos hpos
      simp only [idxF]
      split
      · split
        · omega
        · by_cases h : pos + (decL s pos).2 ≤ s.length
          · exact ih _ h
          · cases f with
            | zero => simp [idxF] <;> omega
            | succ f => simp only [idxF]; rw [if_neg (by omega)]; omega
      · omega
  exact key _ 0 (by omega)
end Go.Proofs.YtdjjmppnnkkloaaGreatDoor
namespace Go.Proofs.YtdjjmppnnkkloaaGreatDoor
open Sy Go
set_option maxRecDepth 100000
set_option maxHeartbeats 4000000
set_option linter.unusedSimpArgs false
set_option linter.unusedVariables false
variable {G : Glob}
theorem decL_drop (s : List UInt8) (pos : Nat) : decL s pos = Lib.decodeL (s.drop pos) := by
  unfold decL Lib.decodeL
  rw [Lib.decode_at, Lib.decode_at]
  have g : ∀ k, (⟨s.toArray⟩ : ByteArray).get! (pos + k) = (⟨(s.drop pos).toArray⟩ : ByteArray).get! (0 + k) := by
    intro k
    show s.toArray[pos + k]! = (s.drop pos).toArray[0 + k]!
    simp
  have g0 := g 0
  have g1 := g 1
  have g2 := g 2
  have g3 := g 3
  simp only [Nat.add_zero, Nat.zero_add] at g0 g1 g2 g3
  have hsz : (⟨s.toArray⟩ : ByteArray).size - pos = (⟨(s.drop pos).toArray⟩ : ByteArray).size - 0 := by simp [ByteArray.size]
  rw [hsz, g0, g1, g2, g3]
/-- A rune, as it stands in quotes. -/
def qC (r : Nat) : List UInt8 :=
  if r = 34 ∨ r = 92 then 92 :: Lib.encodeRune r else if r = 10 then [92, 110] else if r = 13 then [92, 114] else if r = 9 then [92, 116]
  else if 32 ≤ r ∧ r ≠ 127 then Lib.encodeRune r else [92, 117, 48, 48, hexD (r / 16), hexD (r % 16)]
theorem decodeL_ok (l : List UInt8) : (Lib.decodeL l).1 < 55296 ∨ 57343 < (Lib.decodeL l).1 := by
  rw [decodeL_get l]
  unfold Lib.decodeN
  have := (l.getD 0 0).toNat_lt
  repeat' split
  all_goals simp only
  all_goals omega
theorem qC_lt (b : UInt8) (h : b.toNat < 128) : qC b.toNat = qb b := by
  have henc := ofNat_lt h
  have key : ∀ k : Fin 128, (k.val = 34 ∨ k.val = 92) = (UInt8.ofNat k.val = 34 ∨ UInt8.ofNat k.val = 92) ∧ (k.val = 10) = (UInt8.ofNat k.val = 10) ∧ (k.val = 13) = (UInt8.ofNat k.val = 13) ∧ (k.val = 9) = (UInt8.ofNat k.val = 9) ∧ (¬ (32 ≤ k.val ∧ k.val ≠ 127)) = (UInt8.ofNat k.val < 32 ∨ UInt8.ofNat k.val = 127) := by decide +kernel
  have k := key ⟨b.toNat, h⟩
  simp only [UInt8.ofNat_toNat] at k
  obtain ⟨k1, k2, k3, k4, k5⟩ := k
  unfold qC qb
  rw [henc]
  simp only [k1, k2, k3, k4, ← k5]
  split
  · rfl
  · split
    · rfl
    · split
      · rfl
      · split
        · rfl
        · split
          · rfl
          · rfl
theorem qC_big (r : Nat) (h : 128 ≤ r) : qC r = Lib.encodeRune r := by
  unfold qC
  rw [if_neg (by omega), if_neg (by omega), if_neg (by omega), if_neg (by omega), if_pos (by omega)]
theorem qBody_step {l : List UInt8} (hne : l ≠ []) (hv : Lib.validD l = true) : qBody l = qC (Lib.decodeL l).1 ++ qBody (l.drop (Lib.decodeL l).2) ∧ Lib.validD (l.drop (Lib.decodeL l).2) = true := by
  obtain ⟨b, t, rfl⟩ : ∃ b t, l = b :: t := by cases l with
    | nil => exact absurd rfl hne
    | cons b t => exact ⟨b, t, rfl⟩
  by_cases hb : b.toNat < 128
  · rw [decodeL_lt hb, qC_lt b hb]
    rw [Lib.validD_cons b t hb] at hv
    exact ⟨rfl, hv⟩
  · rw [Lib.validD_step _ hne] at hv
    split at hv
    · cases hv
    · rename_i hok
      obtain ⟨h1, h2⟩ := big_bytes (b :: t) hne hok (by simpa using by omega)
      have henc := Lib.encode_decode (b :: t) hne hok
      refine ⟨?_, hv⟩
      rw [qC_big _ h2, henc]
      conv => lhs; rw [← List.take_append_drop (Lib.decodeL (b :: t)).2 (b :: t)]
      rw [qBody_append, qBody_big h1]
theorem qC_len (r : Nat) : (qC r).length ≤ 6 := by
  have := (Lib.encodeRuneZ_length r).2
  unfold qC
  have h : (Lib.encodeRune r).length ≤ 4 := by simpa only [Lib.encodeRune, List.length_map] using this
  repeat' split
  all_goals simp <;> omega
theorem hexT : ∀ k : Fin 16, ([48, 49, 50, 51, 52, 53, 54, 55, 56, 57, 97, 98, 99, 100, 101, 102] : List UInt8)[k.val]? = some (hexD k.val) := by decide +kernel
theorem and15 : ∀ k : Fin 128, IntKind.i32.wrap ↑(k.val % 2 ^ IntKind.i32.bits &&& 15 % 2 ^ IntKind.i32.bits) = ((k.val % 16 : Nat) : Int) := by decide +kernel
theorem shr4 (r : Nat) : (r : Int).fdiv (2 ^ min 4 IntKind.i32.bits) = ((r / 16 : Nat) : Int) := (Int.fdiv_eq_ediv_of_nonneg _ (by decide)).trans (by show (r : Int) / 16 = _; omega)
theorem Quote_ev (s : List UInt8) (hv : Lib.validD s = true) (hs : s.length ≤ 1000000000) : AFn Tryz.prog G 51 [.str s] (.str (quoteT s)) := by
  refine AFn.introU tok Tryz.func51 (by kernel_rfl) rfl rfl ?_
  simp only [Tryz.f51, enumA, List.map_cons, List.map_nil]
  refine rgn [] [[0]] ?_
  refine op1 tok ?_
  refine runEnd ?_
  refine rgn [] [[]] ?_
  refine op1 tok ?_
  refine runEnd ?_
  refine AW.renE 3 2 (by simp) (by conv => lhs; simp) ?_
  refine AW.beginBox 2 3 1 5 1 (by simp; exact ⟨rfl, rfl⟩) (by simp) (by simp) (by conv => lhs; simp) ?_
  refine AW.seqRegionO [] ?_
  refine AOpsO.stepK [0, 3] (y_cx rfl (WriteByteF_ax [] 34 (by simp)) (by simp)) (by conv => lhs; simp) rfl ?_
  refine AOpsO.nil ?_
  refine AW.seq ?_
  refine rgn [] [[], [3, 8]] ?_
  iterate 2 refine op1 tok ?_
  refine runEnd ?_
  refine AW.block ?_
  refine AW.loop (α := Nat × List UInt8) (fun a => a.1 ≤ s.length ∧ Lib.validD (s.drop a.1) = true ∧ quoteT s = a.2 ++ (qBody (s.drop a.1) ++ [34]) ∧ a.2.length ≤ 6 * a.1 + 1) (fun a => ⟨upds 47 [(3, .ptr 2 0), (8, .it 8)], [], [(2, .vars 112 [.ptr 2 0, .ms 3]), (3, .row 5 1 (bytesP a.2)), (8, .iter s a.1)], 0⟩) (fun a => s.length - a.1) ((0, [34])) ⟨by simp, by simpa using hv, by simp [quoteT], by simp⟩ ⟨upds_le (by simp), rfl, by simp, by simp⟩ ?_
  rintro ⟨pos, out⟩ ⟨hp, hvp, hq, hol⟩
  simp only at hp hvp hq hol
  by_cases hs4 : pos < s.length
  ·
    refine rgn [.bool true] [[], []] ?_
    iterate 2 refine op1 tok ?_ (hv := by first | with_reducible exact True.intro | (simpa using hs4; done) | omega | simp | (simp; omega) | (simp +contextual; omega))
    refine runEnd ?_
    refine AW.seq ?_
    refine cnd ?_ ?_
    · intro h10
      try simp at h10
      have hne : s.drop pos ≠ [] := by intro e; have := congrArg List.length e; simp at this; omega
      obtain ⟨hst, hvn⟩ := qBody_step hne hvp
      have hok := decodeL_ok (s.drop pos)
      have hmx := decodeL_max (s.drop pos)
      have hwl := Lib.decodeL_le (s.drop pos) hne
      rw [← decL_drop] at hst hvn hok hmx hwl
      rw [List.length_drop] at hwl
      rw [List.drop_drop] at hst hvn
      have hdp := decL_pos hs4
      generalize decL s pos = p at *
      obtain ⟨r, w⟩ := p
      simp only at *
      have hlen := qC_len r
      have hnext : quoteT s = out ++ qC r ++ (qBody (s.drop (pos + w)) ++ [34]) := by rw [hq, hst]; simp
      refine AW.skip ?_
      refine AW.block ?_
      refine rgn [] [[], [3, 5, 8]] ?_
      iterate 2 refine op1 tok ?_
      refine runEnd ?_
      refine rgn [] [[]] ?_
      refine op1 tok ?_
      refine runEnd ?_
      refine AW.block ?_
      refine AW.seq ?_
      refine rgn [] [[], [3, 5, 8, 12, 30]] ?_
      iterate 2 refine op1 tok ?_
      refine runEnd ?_
      refine cnd ?_ ?_
      · intro h30
        try simp at h30
        refine AW.skip ?_
        refine cnd ?_ ?_
        · intro h30
          try simp at h30
          refine AW.seqRegionO [] ?_
          refine AOpsO.stepK [3, 5, 8] (y_cx rfl (WriteByte_ax out 92 (by omega)) (by simp)) (by conv => lhs; simp) rfl ?_
          refine AOpsO.nil ?_
          have hqc : qC r = 92 :: Lib.encodeRune r := by unfold qC; rw [if_pos (by omega)]
          refine rgz [] [[]] ?_
          refine op1 tok ?_
          refine runOff ?_
          refine AOpsO.stepK [3, 8] (y_cx rfl (WriteRune_ax (out ++ [92]) r (by simp; omega) (by omega) (by omega) (by omega)) (by simp)) (by conv => lhs; simp) rfl ?_
          refine AOpsO.nil ?_
          exact ⟨(pos + w, out ++ qC r), ⟨by simp only []; omega, hvn, hnext, by simp; omega⟩, by simp only []; omega, upds_le (by simp [hqc, bytesP]), rfl, by simp [hqc, bytesP], by simp [hqc, bytesP]⟩
        · intro h30
          try simp at h30
          omega
      · intro h30
        try simp at h30
        refine rgz [] [[], [3, 5, 8, 12, 30]] ?_
        iterate 2 refine op1 tok ?_
        refine runEnd ?_
        refine cnd ?_ ?_
        · intro h30
          try simp at h30
          refine AW.seqRegionO [] ?_
          refine AOpsO.stepK [3, 5, 8] (y_cx rfl (WriteByte_ax out 92 (by omega)) (by simp)) (by conv => lhs; simp) rfl ?_
          refine AOpsO.nil ?_
          have hqc : qC r = 92 :: Lib.encodeRune r := by unfold qC; rw [if_pos (by omega)]
          refine rgz [] [[]] ?_
          refine op1 tok ?_
          refine runOff ?_
          refine AOpsO.stepK [3, 8] (y_cx rfl (WriteRune_ax (out ++ [92]) r (by simp; omega) (by omega) (by omega) (by omega)) (by simp)) (by conv => lhs; simp) rfl ?_
          refine AOpsO.nil ?_
          exact ⟨(pos + w, out ++ qC r), ⟨by simp only []; omega, hvn, hnext, by simp; omega⟩, by simp only []; omega, upds_le (by simp [hqc, bytesP]), rfl, by simp [hqc, bytesP], by simp [hqc, bytesP]⟩
        · intro h30
          try simp at h30
          refine rgn [] [[], [3, 5, 8, 12, 36]] ?_
          iterate 2 refine op1 tok ?_
          refine runEnd ?_
          refine cnd ?_ ?_
          · intro h36
            try simp at h36
            have hqc : qC r = [92, 110] := by unfold qC; rw [if_neg (by omega), if_pos (by omega)]
            refine AW.regionO [] ?_
            refine AOpsO.stepK [3, 8] (y_cx rfl (WriteString_ax out [92, 110] (by omega) (by simp)) (by simp)) (by conv => lhs; simp) rfl ?_
            refine AOpsO.nil ?_
            exact ⟨(pos + w, out ++ qC r), ⟨by simp only []; omega, hvn, hnext, by simp; omega⟩, by simp only []; omega, upds_le (by simp [hqc, bytesP]), rfl, by simp [hqc, bytesP], by simp [hqc, bytesP]⟩
          · intro h36
            try simp at h36
            refine rgn [] [[], [3, 5, 8, 12, 39]] ?_
            iterate 2 refine op1 tok ?_
            refine runEnd ?_
            refine cnd ?_ ?_
            · intro h39
              try simp at h39
              have hqc : qC r = [92, 114] := by unfold qC; rw [if_neg (by omega), if_neg (by omega), if_pos (by omega)]
              refine AW.regionO [] ?_
              refine AOpsO.stepK [3, 8] (y_cx rfl (WriteString_ax out [92, 114] (by omega) (by simp)) (by simp)) (by conv => lhs; simp) rfl ?_
              refine AOpsO.nil ?_
              exact ⟨(pos + w, out ++ qC r), ⟨by simp only []; omega, hvn, hnext, by simp; omega⟩, by simp only []; omega, upds_le (by simp [hqc, bytesP]), rfl, by simp [hqc, bytesP], by simp [hqc, bytesP]⟩
            · intro h39
              try simp at h39
              refine rgn [] [[], [3, 5, 8, 42]] ?_
              iterate 2 refine op1 tok ?_
              refine runEnd ?_
              refine cnd ?_ ?_
              · intro h42
                try simp at h42
                have hqc : qC r = [92, 116] := by unfold qC; rw [if_neg (by omega), if_neg (by omega), if_neg (by omega), if_pos (by omega)]
                refine AW.regionO [] ?_
                refine AOpsO.stepK [3, 8] (y_cx rfl (WriteString_ax out [92, 116] (by omega) (by simp)) (by simp)) (by conv => lhs; simp) rfl ?_
                refine AOpsO.nil ?_
                exact ⟨(pos + w, out ++ qC r), ⟨by simp only []; omega, hvn, hnext, by simp; omega⟩, by simp only []; omega, upds_le (by simp [hqc, bytesP]), rfl, by simp [hqc, bytesP], by simp [hqc, bytesP]⟩
              · intro h42
                try simp at h42
                refine AW.seq ?_
                refine rgn [] [[], [], [], [], [], [3, 5, 8, 18]] ?_
                iterate 3 refine op1 tok ?_
                iterate 2 refine op2 tok ?_
                refine op1 tok ?_
                refine runEnd ?_
                refine cnd ?_ ?_
                · intro h18
                  try simp at h18
                  have hqc : qC r = Lib.encodeRune r := by unfold qC; rw [if_neg (by omega), if_neg (by omega), if_neg (by omega), if_neg (by omega), if_pos (by omega)]
                  refine rgn [] [[]] ?_
                  refine op1 tok ?_
                  refine runOff ?_
                  refine AOpsO.stepK [3, 8] (y_cx rfl (WriteRune_ax out r (by omega) (by omega) (by omega) (by omega)) (by simp)) (by conv => lhs; simp) rfl ?_
                  refine AOpsO.nil ?_
                  refine AW.exit ?_
                  simp
                  exact ⟨pos + w, out ++ qC r, ⟨by omega, hvn, by simpa using hnext, by simp; omega⟩, by omega, upds_le (by simp [hqc, bytesP]), rfl, by simp [hqc, bytesP], by simp [hqc, bytesP]⟩
                · intro h18
                  try simp at h18
                  refine AW.skip ?_
                  have hqc : qC r = [92, 117, 48, 48, hexD (r / 16), hexD (r % 16)] := by unfold qC; rw [if_neg (by omega), if_neg (by omega), if_neg (by omega), if_neg (by omega), if_neg (by omega)]
                  refine AW.seqRegionO [] ?_
                  refine AOpsO.stepK [3, 5, 8] (y_cx rfl (WriteString_ax out [92, 117, 48, 48] (by omega) (by simp)) (by simp)) (by conv => lhs; simp) rfl ?_
                  refine AOpsO.nil ?_
                  refine rgn [.int .u8 (hexD (r / 16)).toNat] [[], [], []] ?_
                  iterate 3 refine op1 tok ?_ (hv := by first | with_reducible exact True.intro | (rw [shr4]; exact ⟨by omega, _, hexT ⟨r / 16, by omega⟩, rfl⟩; done) | omega | simp | (simp; omega) | (simp +contextual; omega))
                  refine runOff ?_
                  refine AOpsO.stepK [3, 5, 8] (y_cx rfl (WriteByte_ax (out ++ [92, 117, 48, 48]) (hexD (r / 16)) (by simp; omega)) (by simp)) (by conv => lhs; simp) rfl ?_
                  refine AOpsO.nil ?_
                  refine rgz [.int .u8 (hexD (r % 16)).toNat] [[], [], []] ?_
                  iterate 3 refine op1 tok ?_ (hv := by first | with_reducible exact True.intro | (rw [and15 ⟨r, by omega⟩]; exact ⟨by omega, _, hexT ⟨r % 16, by omega⟩, rfl⟩; done) | omega | simp | (simp; omega) | (simp +contextual; omega))
                  refine runOff ?_
                  refine AOpsO.stepK [3, 8] (y_cx rfl (WriteByte_ax (out ++ [92, 117, 48, 48, hexD (r / 16)]) (hexD (r % 16)) (by simp; omega)) (by simp)) (by conv => lhs; simp) rfl ?_
                  refine AOpsO.nil ?_
                  exact ⟨(pos + w, out ++ qC r), ⟨by simp only []; omega, hvn, hnext, by simp; omega⟩, by simp only []; omega, upds_le (by simp [hqc, bytesP]), rfl, by simp [hqc, bytesP], by simp [hqc, bytesP]⟩
    · intro h10
      try simp at h10
  ·
    refine rgn [.bool false] [[], []] ?_
    iterate 2 refine op1 tok ?_ (hv := by first | with_reducible exact True.intro | (simpa using hs4; done) | omega | simp | (simp; omega) | (simp +contextual; omega))
    refine runEnd ?_
    refine AW.seq ?_
    refine cnd ?_ ?_
    · intro h10
      try simp at h10
    · intro h10
      try simp at h10
      refine AW.exit ?_
      simp
      obtain rfl : pos = s.length := by omega
      simp only [List.drop_length, qBody, List.flatMap_nil, List.nil_append] at hq
      refine AW.seqRegionO [] ?_
      refine AOpsO.stepK [3] (y_cx rfl (WriteByte_ax out 34 (by omega)) (by simp)) (by conv => lhs; simp) rfl ?_
      refine AOpsO.nil ?_
      refine AW.seqRegionO [] ?_
      refine AOpsO.stepK [46] (y_cx rfl (String_ax (out ++ [34])) (by simp)) (by conv => lhs; simp) rfl ?_
      refine AOpsO.run [[2]] ?_
      refine op1 tok ?_
      refine runEnd ?_
      exact AW.ret ⟨.inr rfl, _, _, by (conv => lhs; simp), trivial, by simp [hq]⟩
def upC (c : UInt8) : UInt8 := if 65 ≤ c ∧ c ≤ 70 then c + 32 else c
def hexS : List UInt8 := [48, 49, 50, 51, 52, 53, 54, 55, 56, 57, 97, 98, 99, 100, 101, 102]
theorem hexV_at : ∀ k : Fin 256, Lib.indexByte hexS (upC (UInt8.ofNat k.val)) = match hexV (UInt8.ofNat k.val) with | none => -1 | some n => (n : Int) := by decide +kernel
theorem hexV_idx (c : UInt8) : Lib.indexByte hexS (upC c) = match hexV c with | none => -1 | some n => (n : Int) := by
  have := hexV_at ⟨c.toNat, c.toNat_lt⟩
  simpa using this
theorem hexV_lt {c : UInt8} {n : Nat} (h : hexV c = some n) : n < 16 := by
  unfold hexV at h
  have h0 := c.toNat_lt
  split at h
  · rename_i h1; cases h; rw [UInt8.le_iff_toNat_le, UInt8.le_iff_toNat_le] at h1; simp at h1; omega
  · split at h
    · rename_i h1; cases h; rw [UInt8.le_iff_toNat_le, UInt8.le_iff_toNat_le] at h1; simp at h1; omega
    · split at h
      · rename_i h1; cases h; rw [UInt8.le_iff_toNat_le, UInt8.le_iff_toNat_le] at h1; simp at h1; omega
      · cases h
theorem upC_T {c : UInt8} (h : 65 ≤ (c.toNat : Int) ∧ (c.toNat : Int) ≤ 70) : IntKind.u8.wrap ((c.toNat : Int) + 32) = ((upC c).toNat : Int) := by
  have key : ∀ k : Fin 256, 65 ≤ k.val ∧ k.val ≤ 70 → IntKind.u8.wrap ((k.val : Int) + 32) = ((upC (UInt8.ofNat k.val)).toNat : Int) := by decide +kernel
  have := key ⟨c.toNat, c.toNat_lt⟩ (by simp only []; omega)
  simpa using this
theorem upC_F {c : UInt8} (h : ¬ (65 ≤ (c.toNat : Int) ∧ (c.toNat : Int) ≤ 70)) : upC c = c := by
  unfold upC
  rw [if_neg]
  rw [UInt8.le_iff_toNat_le, UInt8.le_iff_toNat_le]
  simp; omega
theorem or_hex {x k : Nat} (hx : x < 4096) (hk : k < 16) : IntKind.i32.wrap ↑((IntKind.i32.wrap (↑x * 2 ^ min 4 IntKind.i32.bits) % 2 ^ IntKind.i32.bits).toNat ||| (IntKind.i32.wrap ↑k % 2 ^ IntKind.i32.bits).toNat) = ((16 * x + k : Nat) : Int) := by
  have hw : ∀ n : Nat, n < 70000 → IntKind.i32.wrap (n : Int) = n := fun n h => by simp [IntKind.wrap, IntKind.bits, IntKind.signed]; omega
  have e1 : (x : Int) * 2 ^ min 4 IntKind.i32.bits = ((16 * x : Nat) : Int) := by show (x : Int) * 16 = _; omega
  have e2 : ∀ n : Nat, n < 70000 → (((n : Int)) % 2 ^ IntKind.i32.bits).toNat = n := fun n h => by show ((n : Int) % 4294967296).toNat = n; omega
  rw [e1, hw (16 * x) (by omega), hw k (by omega), e2 (16 * x) (by omega), e2 k (by omega)]
  have : 16 * x ||| k = 16 * x + k := by
    have := Nat.shiftLeft_add_eq_or_of_lt (i := 4) (b := k) hk x
    rw [Nat.shiftLeft_eq] at this
    rw [show 16 * x = x * 2 ^ 4 by omega]
    exact this.symm
  rw [this, hw (16 * x + k) (by omega)]
theorem unit_ev (s : List UInt8) : AFn Tryz.prog G 128 [.str s] (.tup [.int .i32 ((unitL s).getD 0 : Nat), .bool (unitL s).isSome]) := by
  refine AFn.introU tok Tryz.func128 (by kernel_rfl) rfl rfl ?_
  simp only [Tryz.f128, enumA, List.map_cons, List.map_nil]
  have hw32 : ∀ n : Int, 0 ≤ n → n ≤ 1000000 → IntKind.i32.wrap n = n := fun n h1 h2 => by simp [IntKind.wrap, IntKind.bits, IntKind.signed]; omega
  refine rgn [] [[], [0]] ?_
  iterate 2 refine op1 tok ?_
  refine runEnd ?_
  refine AW.seq ?_
  refine rgn [] [[], [], [], [], [], [0, 11, 13], [], [0, 15]] ?_
  iterate 4 refine op1 tok ?_
  iterate 3 refine op2 tok ?_
  refine op1 tok ?_
  refine runEnd ?_
  refine cnd ?_ ?_
  · intro h15
    try simp at h15
    have hu : unitL s = none := by
      unfold unitL; rw [if_pos (h15.imp (fun h => by omega) id)]
    refine rgn [] [[], []] ?_
    iterate 2 refine op1 tok ?_
    refine runEnd ?_
    exact AW.ret ⟨.inr rfl, _, _, by (conv => lhs; simp), trivial, by simp [hu]⟩
  · intro h15
    try simp at h15
    have hu : unitL s = hexN ((s.drop 2).take 4) 0 := by
      unfold unitL; rw [if_neg (fun h => h.elim (fun h => by omega) (fun h => h h15.2))]
    rw [hu]
    have htl : (s.take 6).drop 2 = (s.drop 2).take 4 := by rw [List.drop_take]
    have hlen : ((s.drop 2).take 4).length = 4 := by simp; omega
    refine AW.skip ?_
    refine rgn [] [[]] ?_
    refine op1 tok ?_
    refine runEnd ?_
    refine AW.seq ?_
    refine rgn [] [[], [], [], [], [4, 18, 19, 20]] ?_
    iterate 5 refine op1 tok ?_ (hv := by first | with_reducible exact True.intro | (omega; done) | omega | simp | (simp; omega) | (simp +contextual; omega))
    refine runEnd ?_
    refine AW.block ?_
    rw [htl]; generalize (s.drop 2).take 4 = tl at *
    refine AW.loop (α := Nat × Nat) (fun a => a.1 ≤ 4 ∧ hexN (tl.drop a.1) a.2 = hexN tl 0 ∧ a.2 < 16 ^ a.1) (fun a => ⟨upds 43 [(4, .p (.int .i32 a.2)), (18, .p (.sl 1 (bytesP tl))), (19, .p (.int .i64 4)), (20, .p (.int .i64 a.1))], [], [], 0⟩) (fun a => 4 - a.1) ((0, 0)) ⟨by omega, rfl, by decide⟩ ⟨upds_le (by simp; omega), rfl, by simp, by simp⟩ ?_
    rintro ⟨i, x⟩ ⟨hi, hx, hxl⟩
    simp only at hi hx hxl
    have hix : i < 4 → tl[i]? = some (tl.getD i 0) := fun h => by simp [List.getD_eq_getElem?_getD, show i < tl.length by omega]
    refine rgn [] [[]] ?_
    refine op1 tok ?_
    refine runEnd ?_
    refine AW.seq ?_
    refine cnd ?_ ?_
    · intro h21
      try simp at h21
      have hxl2 : x < 4096 := Nat.lt_of_lt_of_le hxl (Nat.pow_le_pow_right (by omega) (show i ≤ 3 by omega))
      have hc := hix (by omega)
      generalize tl.getD i 0 = c at *
      have hcl := c.toNat_lt
      have hdr : tl.drop i = c :: tl.drop (i + 1) := by
        rw [List.drop_eq_getElem_cons (by omega)]; congr 1
        have := List.getElem?_eq_getElem (l := tl) (i := i) (by omega)
        rw [hc] at this; exact (Option.some.inj this).symm
      have hstep : hexN tl 0 = (match hexV c with | none => none | some k => hexN (tl.drop (i + 1)) (16 * x + k)) := by rw [← hx, hdr]; rfl
      have hi2 := hexV_idx c
      have hIB : AFn Tryz.prog G 115 [.str hexS, .int .u8 (upC c).toNat] (.int .i64 (Lib.indexByte hexS (upC c))) := by
        have := IndexByte_ev (G := G) hexS ((upC c).toNat)
        simpa using this
      refine AW.skip ?_
      refine AW.seq ?_
      refine AW.block ?_
      refine rgn [.int .u8 c.toNat] [[], [], [4, 6, 18, 19, 20]] ?_
      iterate 3 refine op1 tok ?_ (hv := by first | with_reducible exact True.intro | (simp [bytesP, hc]; done) | omega | simp | (simp; omega) | (simp +contextual; omega))
      refine runEnd ?_
      refine AW.join (α := Unit) (fun _ => True) (fun a => ⟨upds 43 [(4, .p (.int .i32 x)), (6, .p (.int .u8 (upC c).toNat)), (18, .p (.sl 1 (bytesP tl))), (19, .p (.int .i64 4)), (20, .p (.int .i64 i))], [], [], 0⟩) ?_ ?_
      ·
        refine rgn [] [[], [], [], [], [], [4, 6, 18, 19, 20, 29]] ?_
        iterate 3 refine op1 tok ?_
        iterate 2 refine op2 tok ?_
        refine op1 tok ?_
        refine runEnd ?_
        refine cnd ?_ ?_
        · intro h29
          try simp at h29
          refine rgz [] [[], [], [4, 6, 18, 19, 20]] ?_
          iterate 3 refine op1 tok ?_
          refine runEnd ?_
          exact ⟨(), trivial, upds_le (by simp [upC_T h29]), rfl, by simp [upC_T h29], by simp [upC_T h29]⟩
        · intro h29
          try simp at h29
          refine AW.skip ?_
          exact ⟨(), trivial, upds_le (by simp [upC_F (c := c) (by omega)]), rfl, by simp [upC_F (c := c) (by omega)], by simp [upC_F (c := c) (by omega)]⟩
      ·
        rintro a hI
        refine rgn [.nilp, .int .i64 (Lib.indexByte hexS (upC c))] [[], [], [4, 7, 18, 19, 20]] ?_
        iterate 3 refine op1 tok ?_ (hv := by first | with_reducible exact True.intro | (exact hIB; done) | omega | simp | (simp; omega) | (simp +contextual; omega))
        refine runEnd ?_
        refine AW.seq ?_
        refine rgn [] [[], [4, 7, 18, 19, 20, 35]] ?_
        iterate 2 refine op1 tok ?_
        refine runEnd ?_
        refine cnd ?_ ?_
        · intro h35
          try simp at h35
          have hn : hexN tl 0 = none := by
            rw [hstep]
            cases hk : hexV c with
            | none => rfl
            | some k => rw [hk] at hi2; simp only at hi2; omega
          refine rgn [] [[], []] ?_
          iterate 2 refine op1 tok ?_
          refine runEnd ?_
          exact AW.ret ⟨.inr rfl, _, _, by (conv => lhs; simp), trivial, by simp [hn]⟩
        · intro h35
          try simp at h35
          obtain ⟨k, hk⟩ : ∃ k, hexV c = some k := by
            cases hk : hexV c with
            | none => rw [hk] at hi2; simp only at hi2; omega
            | some k => exact ⟨k, rfl⟩
          have hk16 := hexV_lt hk
          rw [hk] at hi2 hstep
          simp only at hi2 hstep
          rw [hi2]
          refine AW.skip ?_
          refine rgz [] [[], [], [], [18, 19, 20, 37, 39], [], [4, 18, 19, 20]] ?_
          iterate 6 refine op1 tok ?_
          refine runEnd ?_
          refine rgz [] [[], [4, 18, 19, 20]] ?_
          iterate 2 refine op1 tok ?_
          refine runEnd ?_
          exact ⟨(i + 1, 16 * x + k), ⟨by simp only []; omega, hstep.symm, by simp only []; rw [Nat.pow_succ]; omega⟩, by simp only []; omega, upds_le (by simp [or_hex hxl2 hk16]), rfl, by simp [or_hex hxl2 hk16], by simp [or_hex hxl2 hk16]⟩
    · intro h21
      try simp at h21
      obtain rfl : i = 4 := by omega
      have hfin : hexN tl 0 = some x := by rw [← hx, List.drop_of_length_le (by omega)]; rfl
      refine AW.exit ?_
      simp
      refine rgn [] [[], [], [2, 3]] ?_
      iterate 3 refine op1 tok ?_
      refine runEnd ?_
      exact AW.ret ⟨.inr rfl, _, _, by (conv => lhs; simp), trivial, by simp [hfin]⟩
def escS : List UInt8 := [34, 92, 47, 98, 102, 110, 114, 116]
def escV : List UInt8 := [34, 92, 47, 8, 12, 10, 13, 9]
theorem esc_all : ∀ k : Fin 256, if (escT (UInt8.ofNat k.val)).isSome = true then 0 ≤ Lib.indexByte escS (UInt8.ofNat k.val) ∧ (Lib.indexByte escS (UInt8.ofNat k.val)).toNat < 8 ∧ escV[(Lib.indexByte escS (UInt8.ofNat k.val)).toNat]? = some (UInt8.ofNat ((escT (UInt8.ofNat k.val)).getD 0)) ∧ (escT (UInt8.ofNat k.val)).getD 0 < 256 else Lib.indexByte escS (UInt8.ofNat k.val) = -1 := by decide +kernel
theorem esc_at (c : UInt8) : if (escT c).isSome = true then 0 ≤ Lib.indexByte escS c ∧ (Lib.indexByte escS c).toNat < 8 ∧ escV[(Lib.indexByte escS c).toNat]? = some (UInt8.ofNat ((escT c).getD 0)) ∧ (escT c).getD 0 < 256 else Lib.indexByte escS c = -1 := by
  have := esc_all ⟨c.toNat, c.toNat_lt⟩
  simpa only [UInt8.ofNat_toNat] using this
theorem hexN_lt : ∀ (l : List UInt8) (x n : Nat), hexN l x = some n → n < (x + 1) * 16 ^ l.length
  | [], x, n, h => by simp [hexN] at h; subst h; simp
  | c :: l, x, n, h => by
    simp only [hexN] at h
    split at h
    · cases h
    · rename_i k hk
      have h1 := hexN_lt l _ n h
      have h2 := hexV_lt hk
      rw [List.length_cons, Nat.pow_succ]
      calc n < (16 * x + k + 1) * 16 ^ l.length := h1
        _ ≤ (16 * (x + 1)) * 16 ^ l.length := Nat.mul_le_mul_right _ (by omega)
        _ = (x + 1) * (16 ^ l.length * 16) := by rw [Nat.mul_comm 16, Nat.mul_assoc, Nat.mul_comm 16]
theorem unitL_lt (s : List UInt8) : (unitL s).getD 0 < 65536 := by
  cases h : unitL s with
  | none => simp
  | some n =>
    unfold unitL at h
    split at h
    · cases h
    · have h1 := hexN_lt _ _ _ h
      have h2 : ((s.drop 2).take 4).length ≤ 4 := by simp; omega
      have h3 : 16 ^ ((s.drop 2).take 4).length ≤ 16 ^ 4 := Nat.pow_le_pow_right (by omega) h2
      simp only [Option.getD_some]; omega
theorem shr10 (r : Nat) : (r : Int).fdiv (2 ^ min 10 IntKind.i32.bits) = ((r / 1024 : Nat) : Int) := (Int.fdiv_eq_ediv_of_nonneg _ (by decide)).trans (by show (r : Int) / 1024 = _; omega)
theorem shr10_54 (x : Nat) : ((x : Int).fdiv (2 ^ min 10 IntKind.i32.bits) = 54) = (x / 1024 = 54) := by rw [shr10]; exact propext (by omega)
theorem shr10_55 (x : Nat) : ((x : Int).fdiv (2 ^ min 10 IntKind.i32.bits) = 55) = (x / 1024 = 55) := by rw [shr10]; exact propext (by omega)
theorem and1023 {x : Nat} (h : x < 65536) : IntKind.i32.wrap ↑(x % 2 ^ IntKind.i32.bits &&& 1023 % 2 ^ IntKind.i32.bits) = ((x % 1024 : Nat) : Int) := by
  have e1 : x % 2 ^ IntKind.i32.bits = x := Nat.mod_eq_of_lt (by show x < 4294967296; omega)
  have e2 : 1023 % 2 ^ IntKind.i32.bits = 2 ^ 10 - 1 := rfl
  rw [e1, e2, Nat.and_two_pow_sub_one_eq_mod]
  simp [IntKind.wrap, IntKind.bits, IntKind.signed]; omega
theorem shl10 (x : Nat) : IntKind.i32.wrap (((x % 1024 : Nat) : Int) * 2 ^ min 10 IntKind.i32.bits) = ((x % 1024 * 1024 : Nat) : Int) := by
  have e : ((x % 1024 : Nat) : Int) * 2 ^ min 10 IntKind.i32.bits = ((x % 1024 * 1024 : Nat) : Int) := by show ((x % 1024 : Nat) : Int) * 1024 = _; omega
  rw [e]
  simp [IntKind.wrap, IntKind.bits, IntKind.signed]; omega
theorem escape_ev (s : List UInt8) (hs : s.length ≤ 1000000000000) : AFn Tryz.prog G 109 [.str s] (.tup [.int .i32 (escG s).1, .int .i64 (escG s).2.1, .bool (escG s).2.2]) := by
  refine AFn.introU tok Tryz.func109 (by kernel_rfl) rfl rfl ?_
  simp only [Tryz.f109, enumA, List.map_cons, List.map_nil]
  have hu1 := unit_ev (G := G) s
  have hu2 := unit_ev (G := G) (s.drop 6)
  have hl1 := unitL_lt s
  have hl2 := unitL_lt (s.drop 6)
  have hIB : ∀ c : UInt8, AFn Tryz.prog G 115 [.str escS, .int .u8 c.toNat] (.int .i64 (Lib.indexByte escS c)) := fun c => by
    have := IndexByte_ev (G := G) escS c.toNat
    simpa using this
  refine rgn [] [[], [], [0]] ?_
  iterate 3 refine op1 tok ?_
  refine runEnd ?_
  refine AW.seq ?_
  refine rgn [] [[], [], [0, 11]] ?_
  iterate 3 refine op1 tok ?_
  refine runEnd ?_
  refine cnd ?_ ?_
  · intro h11
    try simp at h11
    have he : escG s = (0, 0, false) := by
      match s, h11 with
      | [], _ => rfl
      | [a], _ => rfl
      | a :: b :: t, h => simp at h; omega
    refine rgn [] [[], [], []] ?_
    iterate 3 refine op1 tok ?_
    refine runEnd ?_
    exact AW.ret ⟨.inr rfl, _, _, by (conv => lhs; simp), trivial, by simp [he]⟩
  · intro h11
    try simp at h11
    obtain ⟨a, c, t, rfl⟩ : ∃ a c t, s = a :: c :: t := by
      match s, h11 with
      | [], h => simp at h
      | [a], h => simp at h
      | a :: c :: t, _ => exact ⟨a, c, t, rfl⟩
    have hat := esc_at c
    refine AW.skip ?_
    refine AW.seq ?_
    refine rgn [.int .u8 c.toNat, .nilp, .int .i64 (Lib.indexByte escS c)] [[], [], [], [0, 5]] ?_
    iterate 4 refine op1 tok ?_ (hv := by first | with_reducible exact True.intro | (first | exact hIB c | simp; done) | omega | simp | (simp; omega) | (simp +contextual; omega))
    refine runEnd ?_
    refine rgn [] [[], [0, 5, 16]] ?_
    iterate 2 refine op1 tok ?_
    refine runEnd ?_
    refine cnd ?_ ?_
    · intro h16
      try simp at h16
      obtain ⟨v, hv⟩ : ∃ v, escT c = some v := by
        cases hv : escT c with
        | none => rw [hv] at hat; simp at hat; omega
        | some v => exact ⟨v, rfl⟩
      rw [hv] at hat
      simp only [Option.isSome_some, if_true, Option.getD_some] at hat
      have he : escG (a :: c :: t) = (v, 2, true) := by unfold escG; simp only [hv]
      have hvn : ((UInt8.ofNat v).toNat : Int) = v := by simp; omega
      refine rgn [.int .u8 (UInt8.ofNat v).toNat] [[], [], [], [2], [], []] ?_
      iterate 6 refine op1 tok ?_ (hv := by first | with_reducible exact True.intro | (first | exact ⟨hat.1, _, hat.2.2.1, rfl⟩ | simp; done) | omega | simp | (simp; omega) | (simp +contextual; omega))
      refine runEnd ?_
      exact AW.ret ⟨.inr rfl, _, _, by (conv => lhs; simp), trivial, by simp [he]; omega⟩
    · intro h16
      try simp at h16
      have hv : escT c = none := by
        cases hv : escT c with
        | none => rfl
        | some v => rw [hv] at hat; simp at hat; omega
      have he : escG (a :: c :: t) = escU (unitL (a :: c :: t)) (unitL ((a :: c :: t).drop 6)) := by unfold escG; simp only [hv]
      rw [he]
      unfold escU
      have hlen6 : (unitL (a :: c :: t)).isSome = true → 6 ≤ (a :: c :: t).length := by
        unfold unitL; split
        · intro h; cases h
        · intro _; omega
      generalize unitL (a :: c :: t) = A at *
      generalize unitL ((a :: c :: t).drop 6) = B at *
      generalize A.getD 0 = x at *
      generalize B.getD 0 = y at *
      refine AW.skip ?_
      refine rgn [.nilp, .tup [.int .i32 x, .bool A.isSome]] [[], [], [], [], [], [0, 6, 24], [0, 6, 7]] ?_
      iterate 7 refine op1 tok ?_ (hv := by first | with_reducible exact True.intro | (exact hu1; done) | omega | simp | (simp; omega) | (simp +contextual; omega))
      refine runEnd ?_
      refine AW.seq ?_
      refine rgn [] [[], [], [], [], [], [0, 6, 7, 27, 30], [0, 6, 7, 31]] ?_
      iterate 3 refine op1 tok ?_
      iterate 3 refine op2 tok ?_
      refine op1 tok ?_
      refine runEnd ?_
      refine cnd ?_ ?_
      · intro h31
        try simp at h31
        rw [shr10_54] at h31
        have hc : A.isSome = false ∨ x / 1024 ≠ 54 := h31.imp (fun h => by rw [h]; rfl) id
        rw [if_pos hc]
        refine rgn [] [[], [], [], [], [32, 34, 36], [], [], [2, 38], [], [2, 3, 4]] ?_
        iterate 3 refine op1 tok ?_
        iterate 3 refine op2 tok ?_
        iterate 4 refine op1 tok ?_
        refine runEnd ?_
        exact AW.ret ⟨.inr rfl, _, _, by (conv => lhs; simp), trivial, by simp [shr10_55]⟩
      · intro h31
        try simp at h31
        rw [shr10_54] at h31
        have hA : A.isSome = true := by
          cases A with
          | none => exact absurd rfl h31.1
          | some v => rfl
        rw [if_neg (fun h => h.elim (fun h => by rw [hA] at h; cases h) (fun h => h h31.2))]
        have h6 := hlen6 hA
        have ht : List.take ((t.length : Int) + 1 + 1).toNat (a :: c :: t) = a :: c :: t := List.take_of_length_le (by simp; omega)
        have e1 := and1023 hl1
        have e2 := and1023 hl2
        have e3 := shl10 x
        refine AW.skip ?_
        refine rgn [.nilp, .tup [.int .i32 y, .bool B.isSome]] [[], [], [], [6, 39], [], [], [], [6, 7, 8]] ?_
        iterate 8 refine op1 tok ?_ (hv := by first | with_reducible exact True.intro | (first | (rw [ht]; exact hu2) | (simp at h6; omega); done) | omega | simp | (simp; omega) | (simp +contextual; omega))
        refine runEnd ?_
        refine rgn [] [[], [], [], [7, 8, 48], [], [], [], [8, 51, 52], [], [], [], [51, 53, 56], [], [], [], [2, 3, 4]] ?_
        iterate 9 refine op1 tok ?_ (hv := by first | with_reducible exact True.intro | (simp only [e1, e2, e3]; omega; done) | omega | simp | (simp; omega) | (simp +contextual; omega))
        iterate 3 refine op2 tok ?_ (hv := by first | with_reducible exact True.intro | (simp only [e1, e2, e3]; omega; done) | omega | simp | (simp; omega) | (simp +contextual; omega))
        iterate 4 refine op1 tok ?_ (hv := by first | with_reducible exact True.intro | (simp only [e1, e2, e3]; omega; done) | omega | simp | (simp; omega) | (simp +contextual; omega))
        refine runEnd ?_
        exact AW.ret ⟨.inr rfl, _, _, by (conv => lhs; simp), trivial, by simp [shr10_55, e1, e2]; simpa using e3⟩
theorem escG_ok {s : List UInt8} (h : (escG s).2.2 = true) : (escG s).1 ≤ 1114111 ∧ ((escG s).1 < 55296 ∨ 57343 < (escG s).1) ∧ 2 ≤ (escG s).2.1 ∧ (escG s).2.1 ≤ 12 := by
  match s with
  | [] => simp [escG] at h
  | [a] => simp [escG] at h
  | a :: c :: t =>
    have hat := esc_at c
    have h1 := unitL_lt (a :: c :: t)
    unfold escG at h ⊢
    cases hv : escT c with
    | some v =>
      simp only [hv, Option.isSome_some, if_true, Option.getD_some] at hat h ⊢
      omega
    | none =>
      simp only [hv] at h ⊢
      unfold escU at h ⊢
      generalize unitL (a :: c :: t) = A at *
      generalize unitL ((a :: c :: t).drop 6) = B at *
      generalize A.getD 0 = x at *
      generalize B.getD 0 = y at *
      by_cases hc : A.isSome = false ∨ x / 1024 ≠ 54
      · rw [if_pos hc] at h ⊢
        simp only [Bool.and_eq_true, decide_eq_true_eq] at h
        have h54 : x / 1024 ≠ 54 := hc.resolve_left (fun e => by rw [h.1] at e; cases e)
        simp only
        omega
      · rw [if_neg hc] at h ⊢
        simp only
        omega
theorem unqG_nil (f k : Nat) (out : List UInt8) : unqG f [] k out = ([], 0, 6) := by cases f <;> simp [unqG]
theorem enc_len (r : Int) : 1 ≤ (Lib.encodeRune r).length ∧ (Lib.encodeRune r).length ≤ 4 := by
  have := Lib.encodeRuneZ_length r
  simpa only [Lib.encodeRune, List.length_map] using this
theorem Unquote_ev (hG : U8 G) (s : List UInt8) (hs : s.length ≤ 1000000000) : AFn Tryz.prog G 73 [.str s] (.tup [.str (unquoteT s).1, .int .i64 (unquoteT s).2.1, .int .i64 (unquoteT s).2.2]) := by
  refine AFn.introU tok Tryz.func73 (by kernel_rfl) rfl rfl ?_
  simp only [Tryz.f73, enumA, List.map_cons, List.map_nil]
  have hpre : hasPre s [34] = decide (s.head? = some 34) := by cases s <;> simp [hasPre]
  refine rgn [] [[], [], [0]] ?_
  iterate 3 refine op1 tok ?_
  refine runEnd ?_
  refine AW.seq ?_
  refine rgn [.nilp, .bool (hasPre s [34])] [[], [], [0, 12]] ?_
  iterate 3 refine op1 tok ?_
  refine runEnd ?_
  refine cnd ?_ ?_
  · intro h12
    try simp at h12
    have hu : unquoteT s = ([], 0, 6) := by
      unfold unquoteT; rw [if_neg]; rw [hpre] at h12; simpa using h12
    refine rgn [] [[], [], []] ?_
    iterate 3 refine op1 tok ?_
    refine runEnd ?_
    exact AW.ret ⟨.inr rfl, _, _, by (conv => lhs; simp), trivial, by simp [hu]⟩
  · intro h12
    try simp at h12
    have hu : unquoteT s = unqG s.length (s.drop 1) 1 [] := by
      unfold unquoteT; rw [if_pos]; rw [hpre] at h12; simpa using h12
    rw [hu]
    have hs0 : 1 ≤ s.length := by cases s with
      | nil => rw [hpre] at h12; simp at h12
      | cons b s => simp
    refine AW.skip ?_
    refine rgn [] [[]] ?_
    refine op1 tok ?_
    refine runEnd ?_
    refine AW.seq ?_
    refine AW.renE 5 2 (by simp) (by conv => lhs; simp) ?_
    refine AW.beginBox 2 3 1 5 1 (by simp; exact ⟨rfl, rfl⟩) (by simp) (by simp) (by conv => lhs; simp) ?_
    refine rgn [] [[]] ?_
    refine op1 tok ?_
    refine runEnd ?_
    refine AW.block ?_
    refine AW.loop (α := Nat × List UInt8 × Bool × Nat) (fun a => unqG s.length (s.drop 1) 1 [] = unqG a.2.2.2 (s.drop a.1) a.1 a.2.1 ∧ s.length + 1 ≤ a.2.2.2 + a.1 ∧ a.2.1.length ≤ 4 * a.1 ∧ a.1 ≤ s.length + 12) (fun a => ⟨upds 61 [(0, .p (.str s)), (5, .ptr 2 0), (6, .p (.int .i64 a.1))], [], [(2, .vars 112 [if a.2.2.1 = true then .ptr 2 0 else .p .nilp, .ms 3]), (3, .row 5 1 (bytesP a.2.1))], 0⟩) (fun a => s.length + 12 - a.1) ((1, [], false, s.length)) ⟨rfl, by simp, by simp, by simp⟩ ⟨upds_le (by simp), rfl, by simp, by simp⟩ ?_
    rintro ⟨k, out, u, f⟩ ⟨hq, hf, hol, hk⟩
    simp only at hq hf hol hk
    rw [hq]
    clear hq hu
    refine AW.seq ?_
    by_cases hs5 : u = true
    ·
      first | rw [if_pos hs5] | rw [if_neg hs5]
      refine rgn [] [[], [], [], [0, 5, 6, 16]] ?_
      iterate 4 refine op1 tok ?_
      refine runEnd ?_
      refine cnd ?_ ?_
      · intro h16
        try simp at h16
        obtain ⟨f, rfl⟩ : ∃ g, f = g + 1 := ⟨f - 1, by omega⟩
        have hne : s.drop k ≠ [] := by intro e; have := congrArg List.length e; simp at this; omega
        have hdec := DecodeRune_ev (G := G) hG (s.drop k) hne
        have hstep : unqG (f + 1) (s.drop k) k out = if (Lib.decodeL (s.drop k)).1 = 34 then (if 4096 < out.length then ([], 0, 3) else (out, k + 1, 0)) else if (Lib.decodeL (s.drop k)).1 < 32 ∨ ((Lib.decodeL (s.drop k)).1 = 65533 ∧ (Lib.decodeL (s.drop k)).2 = 1) then ([], 0, 6)
            else if (Lib.decodeL (s.drop k)).1 = 92 then (match escL (s.drop k) with
              | none => ([], 0, 6)
              | some (c, n) => unqG f ((s.drop k).drop n) (k + n) (out ++ Lib.encodeRune c))
            else unqG f ((s.drop k).drop (Lib.decodeL (s.drop k)).2) (k + (Lib.decodeL (s.drop k)).2) (out ++ Lib.encodeRune (Lib.decodeL (s.drop k)).1) := by
          simp only [unqG]; rw [if_neg hne] <;> rfl
        rw [hstep]
        clear hstep
        have hok := decodeL_ok (s.drop k)
        have hmx := decodeL_max (s.drop k)
        have hwl := Lib.decodeL_le (s.drop k) hne
        have hwp := decodeL_pos (s.drop k) hne
        have hesc := escape_ev (G := G) (s.drop k) (by simp; omega)
        have hEL : escL (s.drop k) = if (escG (s.drop k)).2.2 = true then some ((escG (s.drop k)).1, (escG (s.drop k)).2.1) else none := rfl
        have hEO := escG_ok (s := s.drop k)
        rw [hEL]
        clear hEL
        rw [List.length_drop] at hwl
        generalize Lib.decodeL (s.drop k) = p at *
        obtain ⟨r, w⟩ := p
        generalize escG (s.drop k) = q at *
        obtain ⟨c, n, ok⟩ := q
        simp only at *
        refine AW.skip ?_
        refine AW.block ?_
        refine rgn [.nilp, .tup [.int .i32 r, .int .i64 w]] [[], [], [], [], [0, 5, 6, 17], [], [], [], [0, 5, 6, 7, 8]] ?_
        iterate 9 refine op1 tok ?_ (hv := by first | with_reducible exact True.intro | (first | exact hdec | omega; done) | omega | simp | (simp; omega) | (simp +contextual; omega))
        refine runEnd ?_
        refine AW.seq ?_
        refine AW.block ?_
        refine rgn [] [[], [], [0, 5, 6, 7, 8, 24]] ?_
        iterate 3 refine op1 tok ?_
        refine runEnd ?_
        refine cnd ?_ ?_
        · intro h24
          try simp at h24
          rw [if_pos (show r = 34 by omega)]
          refine AW.seq ?_
          refine AW.seqRegionO [] ?_
          refine AOpsO.stepK [5, 6, 27] (y_cx rfl (BLen_ax out) (by simp)) (by conv => lhs; simp) rfl ?_
          refine AOpsO.run [[5, 6, 28]] ?_
          refine op1 tok ?_
          refine runEnd ?_
          refine cnd ?_ ?_
          · intro h28
            try simp at h28
            rw [if_pos (show 4096 < out.length by omega)]
            refine rgn [] [[], [], []] ?_
            iterate 3 refine op1 tok ?_
            refine runEnd ?_
            exact AW.ret ⟨.inr rfl, _, _, by (conv => lhs; simp), trivial, by simp⟩
          · intro h28
            try simp at h28
            rw [if_neg (show ¬ 4096 < out.length by omega)]
            refine AW.skip ?_
            refine AW.seqRegionO [] ?_
            refine AOpsO.stepK [6, 29] (y_cx rfl (String_ax out) (by simp)) (by conv => lhs; simp) rfl ?_
            refine AOpsO.run [[], [], [], [2, 3], []] ?_
            iterate 5 refine op1 tok ?_
            refine runEnd ?_
            exact AW.ret ⟨.inr rfl, _, _, by (conv => lhs; simp), trivial, by simp⟩
        · intro h24
          try simp at h24
          rw [if_neg (show ¬ r = 34 by omega)]
          refine rgn [] [[], [], [], [], [], [0, 5, 6, 7, 8, 35, 38], [], [], [], [0, 5, 6, 7, 8, 42], [0, 5, 6, 7, 8, 32]] ?_
          iterate 3 refine op1 tok ?_
          iterate 6 refine op2 tok ?_
          iterate 2 refine op1 tok ?_
          refine runEnd ?_
          refine cnd ?_ ?_
          · intro h32
            try simp at h32
            rw [if_pos (show r < 32 ∨ (r = 65533 ∧ w = 1) by omega)]
            refine rgn [] [[], [], []] ?_
            iterate 3 refine op1 tok ?_
            refine runEnd ?_
            exact AW.ret ⟨.inr rfl, _, _, by (conv => lhs; simp), trivial, by simp⟩
          · intro h32
            try simp at h32
            rw [if_neg (show ¬ (r < 32 ∨ (r = 65533 ∧ w = 1)) by omega)]
            refine rgn [] [[], [], [0, 5, 6, 7, 8, 43]] ?_
            iterate 3 refine op1 tok ?_
            refine runEnd ?_
            refine cnd ?_ ?_
            · intro h43
              try simp at h43
              rw [if_pos (show r = 92 by omega)]
              refine rgn [] [[0, 5, 6]] ?_
              refine op1 tok ?_
              refine runEnd ?_
              refine rgn [.nilp, .tup [.int .i32 c, .int .i64 n, .bool ok]] [[], [], [], [], [0, 5, 6, 46], [], [], [], [], [], [0, 5, 6, 7, 8, 9]] ?_
              iterate 11 refine op1 tok ?_ (hv := by first | with_reducible exact True.intro | (first | exact hesc | omega; done) | omega | simp | (simp; omega) | (simp +contextual; omega))
              refine runEnd ?_
              refine rgn [] [[], [0, 5, 6, 7, 8, 55]] ?_
              iterate 2 refine op1 tok ?_
              refine runEnd ?_
              refine cnd ?_ ?_
              · intro h55
                try simp at h55
                subst h55
                refine rgn [] [[], [], []] ?_
                iterate 3 refine op1 tok ?_
                refine runEnd ?_
                exact AW.ret ⟨.inr rfl, _, _, by (conv => lhs; simp), trivial, by simp⟩
              · intro h55
                try simp at h55
                subst h55
                have hE := hEO rfl
                simp only [if_true]
                refine AW.skip ?_
                have hel := enc_len c
                refine rgn [] [[]] ?_
                refine op1 tok ?_
                refine runOff ?_
                refine AOpsO.stepK [0, 5, 6, 8] (y_cx rfl (WriteRune_ax out c (by omega) (by omega) (by omega) (by omega)) (by simp)) (by conv => lhs; simp) rfl ?_
                refine AOpsO.nil ?_
                refine rgz [] [[], [], [0, 5, 60], [0, 5, 6]] ?_
                iterate 4 refine op1 tok ?_
                refine runEnd ?_
                exact ⟨(k + n, out ++ Lib.encodeRune c, true, f), ⟨by rw [List.drop_drop], by simp only []; omega, by simp; omega, by simp only []; omega⟩, by simp only []; omega, upds_le (by simp [bytesP]), rfl, by simp [bytesP], by simp [bytesP]⟩
            · intro h43
              try simp at h43
              rw [if_neg (show ¬ r = 92 by omega)]
              refine AW.skip ?_
              have hel := enc_len r
              refine rgn [] [[]] ?_
              refine op1 tok ?_
              refine runOff ?_
              refine AOpsO.stepK [0, 5, 6, 8] (y_cx rfl (WriteRune_ax out r (by omega) (by omega) (by omega) (by omega)) (by simp)) (by conv => lhs; simp) rfl ?_
              refine AOpsO.nil ?_
              refine rgz [] [[], [], [0, 5, 60], [0, 5, 6]] ?_
              iterate 4 refine op1 tok ?_
              refine runEnd ?_
              exact ⟨(k + w, out ++ Lib.encodeRune r, true, f), ⟨by rw [List.drop_drop], by simp only []; omega, by simp; omega, by simp only []; omega⟩, by simp only []; omega, upds_le (by simp [bytesP]), rfl, by simp [bytesP], by simp [bytesP]⟩
      · intro h16
        try simp at h16
        rw [List.drop_of_length_le (show s.length ≤ k by omega), unqG_nil]
        refine AW.exit ?_
        simp
        refine rgn [] [[], [], []] ?_
        iterate 3 refine op1 tok ?_
        refine runEnd ?_
        exact AW.ret ⟨.inr rfl, _, _, by (conv => lhs; simp), trivial, by simp⟩
    ·
      first | rw [if_pos hs5] | rw [if_neg hs5]
      refine rgn [] [[], [], [], [0, 5, 6, 16]] ?_
      iterate 4 refine op1 tok ?_
      refine runEnd ?_
      refine cnd ?_ ?_
      · intro h16
        try simp at h16
        obtain ⟨f, rfl⟩ : ∃ g, f = g + 1 := ⟨f - 1, by omega⟩
        have hne : s.drop k ≠ [] := by intro e; have := congrArg List.length e; simp at this; omega
        have hdec := DecodeRune_ev (G := G) hG (s.drop k) hne
        have hstep : unqG (f + 1) (s.drop k) k out = if (Lib.decodeL (s.drop k)).1 = 34 then (if 4096 < out.length then ([], 0, 3) else (out, k + 1, 0)) else if (Lib.decodeL (s.drop k)).1 < 32 ∨ ((Lib.decodeL (s.drop k)).1 = 65533 ∧ (Lib.decodeL (s.drop k)).2 = 1) then ([], 0, 6)
            else if (Lib.decodeL (s.drop k)).1 = 92 then (match escL (s.drop k) with
              | none => ([], 0, 6)
              | some (c, n) => unqG f ((s.drop k).drop n) (k + n) (out ++ Lib.encodeRune c))
            else unqG f ((s.drop k).drop (Lib.decodeL (s.drop k)).2) (k + (Lib.decodeL (s.drop k)).2) (out ++ Lib.encodeRune (Lib.decodeL (s.drop k)).1) := by
          simp only [unqG]; rw [if_neg hne] <;> rfl
        rw [hstep]
        clear hstep
        have hok := decodeL_ok (s.drop k)
        have hmx := decodeL_max (s.drop k)
        have hwl := Lib.decodeL_le (s.drop k) hne
        have hwp := decodeL_pos (s.drop k) hne
        have hesc := escape_ev (G := G) (s.drop k) (by simp; omega)
        have hEL : escL (s.drop k) = if (escG (s.drop k)).2.2 = true then some ((escG (s.drop k)).1, (escG (s.drop k)).2.1) else none := rfl
        have hEO := escG_ok (s := s.drop k)
        rw [hEL]
        clear hEL
        rw [List.length_drop] at hwl
        generalize Lib.decodeL (s.drop k) = p at *
        obtain ⟨r, w⟩ := p
        generalize escG (s.drop k) = q at *
        obtain ⟨c, n, ok⟩ := q
        simp only at *
        refine AW.skip ?_
        refine AW.block ?_
        refine rgn [.nilp, .tup [.int .i32 r, .int .i64 w]] [[], [], [], [], [0, 5, 6, 17], [], [], [], [0, 5, 6, 7, 8]] ?_
        iterate 9 refine op1 tok ?_ (hv := by first | with_reducible exact True.intro | (first | exact hdec | omega; done) | omega | simp | (simp; omega) | (simp +contextual; omega))
        refine runEnd ?_
        refine AW.seq ?_
        refine AW.block ?_
        refine rgn [] [[], [], [0, 5, 6, 7, 8, 24]] ?_
        iterate 3 refine op1 tok ?_
        refine runEnd ?_
        refine cnd ?_ ?_
        · intro h24
          try simp at h24
          rw [if_pos (show r = 34 by omega)]
          refine AW.seq ?_
          refine AW.seqRegionO [] ?_
          refine AOpsO.stepK [5, 6, 27] (y_cx rfl (BLenF_ax out) (by simp)) (by conv => lhs; simp) rfl ?_
          refine AOpsO.run [[5, 6, 28]] ?_
          refine op1 tok ?_
          refine runEnd ?_
          refine cnd ?_ ?_
          · intro h28
            try simp at h28
            rw [if_pos (show 4096 < out.length by omega)]
            refine rgn [] [[], [], []] ?_
            iterate 3 refine op1 tok ?_
            refine runEnd ?_
            exact AW.ret ⟨.inr rfl, _, _, by (conv => lhs; simp), trivial, by simp⟩
          · intro h28
            try simp at h28
            rw [if_neg (show ¬ 4096 < out.length by omega)]
            refine AW.skip ?_
            refine AW.seqRegionO [] ?_
            refine AOpsO.stepK [6, 29] (y_cx rfl (StringF_ax out) (by simp)) (by conv => lhs; simp) rfl ?_
            refine AOpsO.run [[], [], [], [2, 3], []] ?_
            iterate 5 refine op1 tok ?_
            refine runEnd ?_
            exact AW.ret ⟨.inr rfl, _, _, by (conv => lhs; simp), trivial, by simp⟩
        · intro h24
          try simp at h24
          rw [if_neg (show ¬ r = 34 by omega)]
          refine rgn [] [[], [], [], [], [], [0, 5, 6, 7, 8, 35, 38], [], [], [], [0, 5, 6, 7, 8, 42], [0, 5, 6, 7, 8, 32]] ?_
          iterate 3 refine op1 tok ?_
          iterate 6 refine op2 tok ?_
          iterate 2 refine op1 tok ?_
          refine runEnd ?_
          refine cnd ?_ ?_
          · intro h32
            try simp at h32
            rw [if_pos (show r < 32 ∨ (r = 65533 ∧ w = 1) by omega)]
            refine rgn [] [[], [], []] ?_
            iterate 3 refine op1 tok ?_
            refine runEnd ?_
            exact AW.ret ⟨.inr rfl, _, _, by (conv => lhs; simp), trivial, by simp⟩
          · intro h32
            try simp at h32
            rw [if_neg (show ¬ (r < 32 ∨ (r = 65533 ∧ w = 1)) by omega)]
            refine rgn [] [[], [], [0, 5, 6, 7, 8, 43]] ?_
            iterate 3 refine op1 tok ?_
            refine runEnd ?_
            refine cnd ?_ ?_
            · intro h43
              try simp at h43
              rw [if_pos (show r = 92 by omega)]
              refine rgn [] [[0, 5, 6]] ?_
              refine op1 tok ?_
              refine runEnd ?_
              refine rgn [.nilp, .tup [.int .i32 c, .int .i64 n, .bool ok]] [[], [], [], [], [0, 5, 6, 46], [], [], [], [], [], [0, 5, 6, 7, 8, 9]] ?_
              iterate 11 refine op1 tok ?_ (hv := by first | with_reducible exact True.intro | (first | exact hesc | omega; done) | omega | simp | (simp; omega) | (simp +contextual; omega))
              refine runEnd ?_
              refine rgn [] [[], [0, 5, 6, 7, 8, 55]] ?_
              iterate 2 refine op1 tok ?_
              refine runEnd ?_
              refine cnd ?_ ?_
              · intro h55
                try simp at h55
                subst h55
                refine rgn [] [[], [], []] ?_
                iterate 3 refine op1 tok ?_
                refine runEnd ?_
                exact AW.ret ⟨.inr rfl, _, _, by (conv => lhs; simp), trivial, by simp⟩
              · intro h55
                try simp at h55
                subst h55
                have hE := hEO rfl
                simp only [if_true]
                refine AW.skip ?_
                have hel := enc_len c
                refine rgn [] [[]] ?_
                refine op1 tok ?_
                refine runOff ?_
                refine AOpsO.stepK [0, 5, 6, 8] (y_cx rfl (WriteRuneF_ax out c (by omega) (by omega) (by omega) (by omega)) (by simp)) (by conv => lhs; simp) rfl ?_
                refine AOpsO.nil ?_
                refine rgz [] [[], [], [0, 5, 60], [0, 5, 6]] ?_
                iterate 4 refine op1 tok ?_
                refine runEnd ?_
                exact ⟨(k + n, out ++ Lib.encodeRune c, true, f), ⟨by rw [List.drop_drop], by simp only []; omega, by simp; omega, by simp only []; omega⟩, by simp only []; omega, upds_le (by simp [bytesP]), rfl, by simp [bytesP], by simp [bytesP]⟩
            · intro h43
              try simp at h43
              rw [if_neg (show ¬ r = 92 by omega)]
              refine AW.skip ?_
              have hel := enc_len r
              refine rgn [] [[]] ?_
              refine op1 tok ?_
              refine runOff ?_
              refine AOpsO.stepK [0, 5, 6, 8] (y_cx rfl (WriteRuneF_ax out r (by omega) (by omega) (by omega) (by omega)) (by simp)) (by conv => lhs; simp) rfl ?_
              refine AOpsO.nil ?_
              refine rgz [] [[], [], [0, 5, 60], [0, 5, 6]] ?_
              iterate 4 refine op1 tok ?_
              refine runEnd ?_
              exact ⟨(k + w, out ++ Lib.encodeRune r, true, f), ⟨by rw [List.drop_drop], by simp only []; omega, by simp; omega, by simp only []; omega⟩, by simp only []; omega, upds_le (by simp [bytesP]), rfl, by simp [bytesP], by simp [bytesP]⟩
      · intro h16
        try simp at h16
        rw [List.drop_of_length_le (show s.length ≤ k by omega), unqG_nil]
        refine AW.exit ?_
        simp
        refine rgn [] [[], [], []] ?_
        iterate 3 refine op1 tok ?_
        refine runEnd ?_
        exact AW.ret ⟨.inr rfl, _, _, by (conv => lhs; simp), trivial, by simp⟩
end Go.Proofs.YtdjjmppnnkkloaaGreatDoor
namespace Go.Proofs.YtdjjmppnnkkloaaGreatDoor
open Sy Go
set_option maxRecDepth 100000
set_option maxHeartbeats 4000000
set_option linter.unusedSimpArgs false
set_option linter.unusedVariables false
variable {G : Glob}
theorem pre_hasPre (s p : List UInt8) : p.isPrefixOf s = hasPre s p := by
  rw [Bool.eq_iff_iff, hasPre_iff, List.isPrefixOf_iff_prefix]
  constructor
  · rintro ⟨t, rfl⟩; exact ⟨t, rfl⟩
  · rintro ⟨t, rfl⟩; exact ⟨t, rfl⟩
theorem nameLen_tw : ∀ r : List UInt8, nameLen r = r.takeWhile isNm
  | [] => by simp [nameLen]
  | c :: r => by
    have h : mayNameM [97, c] = isNm c := by
      have h97 : asF nameSet 97 = true := by decide
      simp [mayNameM, isNm, h97, letters]
    simp only [nameLen, List.takeWhile_cons, h, nameLen_tw r]
theorem guessB_pre (s : List UInt8) : guessB s = if hasPre s [42, 42] = true then ⟨5, [], 0⟩ else if hasPre s [46, 42] = true then ⟨3, [], 0⟩ else if hasPre s [91, 42] = true then ⟨4, [], 0⟩
  else if hasPre s [91, 34] = true then ⟨1, (unquoteT (s.drop 1)).1, 0⟩ else if hasPre s [91] = true then ⟨2, [], numG (s.drop 1) 0⟩ else if hasPre s [46] = true then ⟨1, nameLen (s.drop 1), 0⟩ else ⟨0, [], 0⟩ := by
  unfold guessB
  simp only [pre_hasPre, nameLen_tw]
theorem numG_go {s : List UInt8} {i : Nat} {n : Int} (h : i < s.length) : numG (s.drop i) n = if (48 ≤ ((s.getD i 0).toNat : Int) ∧ ((s.getD i 0).toNat : Int) ≤ 57) ∧ n ≤ 9999 then numG (s.drop (i + 1)) (n * 10 + (((s.getD i 0).toNat : Int) - 48)) else n := by
  have e : s.drop i = s.getD i 0 :: s.drop (i + 1) := by
    rw [List.drop_eq_getElem_cons h]; simp [List.getD_eq_getElem?_getD, h]
  rw [e]
  simp only [numG, isDig, digitM, Bool.and_eq_true, decide_eq_true_eq]
theorem guessB_ev (hG : U8 G) (s : List UInt8) (hs : s.length ≤ 1000000000) : AFn Tryz.prog G 104 [.str s] ((guessB s).enc) := by
  refine AFn.introU tok Tryz.func104 (by kernel_rfl) rfl rfl ?_
  simp only [Tryz.f104, enumA, List.map_cons, List.map_nil]
  rw [guessB_pre s]
  refine rgn [] [[]] ?_
  refine op1 tok ?_
  refine runEnd ?_
  refine AW.seq ?_
  refine AW.block ?_
  refine rgn [.nilp, .bool (hasPre s [42, 42])] [[], [], [0, 2, 9]] ?_
  iterate 3 refine op1 tok ?_
  refine runEnd ?_
  refine cnd ?_ ?_
  · intro h9
    try simp at h9
    rw [if_pos h9]
    refine rgn [] [[], [2]] ?_
    iterate 2 refine op1 tok ?_
    refine runEnd ?_
    exact AW.ret ⟨.inr rfl, _, _, by (conv => lhs; simp), trivial, by simp⟩
  · intro h9
    try simp at h9
    rw [if_neg (by simp [h9])]
    refine rgn [.nilp, .bool (hasPre s [46, 42])] [[], [], [0, 2, 13]] ?_
    iterate 3 refine op1 tok ?_
    refine runEnd ?_
    refine cnd ?_ ?_
    · intro h13
      try simp at h13
      rw [if_pos h13]
      refine rgn [] [[], [2]] ?_
      iterate 2 refine op1 tok ?_
      refine runEnd ?_
      exact AW.ret ⟨.inr rfl, _, _, by (conv => lhs; simp), trivial, by simp⟩
    · intro h13
      try simp at h13
      rw [if_neg (by simp [h13])]
      refine rgn [.nilp, .bool (hasPre s [91, 42])] [[], [], [0, 2, 17]] ?_
      iterate 3 refine op1 tok ?_
      refine runEnd ?_
      refine cnd ?_ ?_
      · intro h17
        try simp at h17
        rw [if_pos h17]
        refine rgn [] [[], [2]] ?_
        iterate 2 refine op1 tok ?_
        refine runEnd ?_
        exact AW.ret ⟨.inr rfl, _, _, by (conv => lhs; simp), trivial, by simp⟩
      · intro h17
        try simp at h17
        rw [if_neg (by simp [h17])]
        refine rgn [.nilp, .bool (hasPre s [91, 34])] [[], [], [0, 2, 21]] ?_
        iterate 3 refine op1 tok ?_
        refine runEnd ?_
        refine cnd ?_ ?_
        · intro h21
          try simp at h21
          rw [if_pos h21]
          have hu := Unquote_ev (G := G) hG (s.drop 1) (by simp; omega)
          have hs1 : 1 ≤ s.length := by obtain ⟨t, rfl⟩ := hasPre_iff.1 h21; simp
          generalize unquoteT (s.drop 1) = u at *
          simp only [List.drop_one] at hu
          refine rgn [.nilp, .tup [.str u.1, .int .i64 u.2.1, .int .i64 u.2.2]] [[], [], [], [2, 24], [], [], [], [], [2, 3, 30], [2, 3]] ?_
          iterate 10 refine op1 tok ?_ (hv := by first | with_reducible exact True.intro | (first | exact hu | omega; done) | omega | simp | (simp; omega) | (simp +contextual; omega))
          refine runEnd ?_
          refine rgn [] [[], [], [2]] ?_
          iterate 3 refine op1 tok ?_
          refine runEnd ?_
          exact AW.ret ⟨.inr rfl, _, _, by (conv => lhs; simp), trivial, by simp⟩
        · intro h21
          try simp at h21
          rw [if_neg (by simp [h21])]
          refine rgn [.nilp, .bool (hasPre s [91])] [[], [], [0, 2, 33]] ?_
          iterate 3 refine op1 tok ?_
          refine runEnd ?_
          refine cnd ?_ ?_
          · intro h33
            try simp at h33
            rw [if_pos h33]
            have hs1 : 1 ≤ s.length := by obtain ⟨t, rfl⟩ := hasPre_iff.1 h33; simp
            refine rgn [] [[]] ?_
            refine op1 tok ?_
            refine runEnd ?_
            refine AW.seq ?_
            refine rgn [] [[]] ?_
            refine op1 tok ?_
            refine runEnd ?_
            refine AW.block ?_
            refine AW.loop (α := Nat × Nat) (fun a => numG (s.drop a.1) (a.2 : Nat) = numG (s.drop 1) 0 ∧ 1 ≤ a.1 ∧ a.1 ≤ s.length ∧ a.2 ≤ 99999) (fun a => ⟨upds 91 [(0, .p (.str s)), (2, .ptr 2 0), (6, .p (.int .i64 a.2)), (7, .p (.int .i64 a.1))], [], [(2, .vars 57 [.p (.int .i64 0), .p (.str []), .p (.int .i64 0)])], 0⟩) (fun a => s.length - a.1) ((1, 0)) ⟨rfl, by omega, by simp only []; omega, by simp only []; omega⟩ ⟨upds_le (by simp), rfl, by simp, by simp⟩ ?_
            rintro ⟨i, n⟩ ⟨hq, h1, h2, h3⟩
            simp only at hq h1 h2 h3
            rw [← hq]
            have hix : i < s.length → s[i]? = some (s.getD i 0) := fun h => by simp [List.getD_eq_getElem?_getD, h]
            have hgo := fun h => numG_go (s := s) (i := i) (n := (n : Int)) h
            have hb := (s.getD i 0).toNat_lt
            generalize s.getD i 0 = c at *
            refine AW.seq ?_
            refine rgn [.int .u8 c.toNat, .int .u8 c.toNat] [[], [], [], [], [0, 2, 6, 7, 40], [], [], [], [], [0, 2, 6, 7, 45], [], [], [], [], [0, 2, 6, 7, 46, 50], [], [], [], [0, 2, 6, 7, 52, 54], [0, 2, 6, 7, 55]] ?_
            iterate 20 first | refine op1 tok ?_ (hv := by first | with_reducible exact True.intro | (first | exact fun h => ⟨by omega, _, hix (by omega), rfl⟩ | exact fun h h2 => ⟨by omega, _, hix h, rfl⟩ | (simp; omega); done) | omega | simp | (simp; omega) | (simp +contextual; omega)) | refine op2 tok ?_ (hv := by first | with_reducible exact True.intro | (first | exact fun h => ⟨by omega, _, hix (by omega), rfl⟩ | exact fun h h2 => ⟨by omega, _, hix h, rfl⟩ | (simp; omega); done) | omega | simp | (simp; omega) | (simp +contextual; omega))
            refine runEnd ?_
            refine cnd ?_ ?_
            · intro h55
              try simp at h55
              rw [hgo (by omega), if_pos (by omega)]
              have hw : IntKind.u8.wrap ((c.toNat : Int) - 48) = (c.toNat : Int) - 48 := by simp [IntKind.wrap, IntKind.bits, IntKind.signed]; omega
              have hix' := hix (by omega)
              have hcst : ((c.toNat - 48 : Nat) : Int) = (c.toNat : Int) - 48 := by omega
              refine AW.skip ?_
              refine AW.seq ?_
              refine AW.block ?_
              refine rgz [.int .u8 c.toNat] [[], [], [], [], [0, 2, 7, 59, 62], [], [], [0, 2, 7, 65], [0, 2, 6, 7]] ?_
              iterate 9 refine op1 tok ?_ (h := by intro C; conv => lhs; simp [hw]) (hv := by first | with_reducible exact True.intro | (first | exact ⟨_, hix', rfl⟩ | (simp [hw]; omega); done) | omega | simp | (simp; omega) | (simp +contextual; omega))
              refine runEnd ?_
              refine rgz [] [[], [], [0, 2, 6, 7]] ?_
              iterate 3 refine op1 tok ?_
              refine runEnd ?_
              exact ⟨(i + 1, n * 10 + (c.toNat - 48)), ⟨by simp only []; congr 1; omega, by simp only []; omega, by simp only []; omega, by simp only []; omega⟩, by simp only []; omega, upds_le (by simp [hcst]), rfl, by simp [hcst], by simp [hcst]⟩
            · intro h55
              try simp at h55
              have hn : numG (s.drop i) n = n := by
                rcases Nat.lt_or_ge i s.length with h | h
                · rw [hgo h, if_neg (by omega)]
                · rw [List.drop_of_length_le h]; rfl
              rw [hn]
              refine AW.exit ?_
              simp
              refine rgn [] [[], [], [2]] ?_
              iterate 3 refine op1 tok ?_
              refine runEnd ?_
              exact AW.ret ⟨.inr rfl, _, _, by (conv => lhs; simp), trivial, by simp⟩
          · intro h33
            try simp at h33
            rw [if_neg (by simp [h33])]
            refine rgn [.nilp, .bool (hasPre s [46])] [[], [], [0, 2, 68]] ?_
            iterate 3 refine op1 tok ?_
            refine runEnd ?_
            refine cnd ?_ ?_
            · intro h68
              try simp at h68
              rw [if_pos h68]
              obtain ⟨r, rfl⟩ := hasPre_iff.1 h68
              simp only [List.cons_append, List.nil_append, List.drop_succ_cons, List.drop_zero, List.length_cons] at hs ⊢
              have hnl := nameLen_le r
              refine rgn [] [[]] ?_
              refine op1 tok ?_
              refine runEnd ?_
              refine AW.seq ?_
              refine AW.block ?_
              refine AW.loop (α := Nat) (fun n => n ≤ (nameLen r).length) (fun n => ⟨upds 91 [(0, .p (.str (46 :: r))), (2, .ptr 2 0), (8, .p (.int .i64 (n + 1)))], [], [(2, .vars 57 [.p (.int .i64 0), .p (.str []), .p (.int .i64 0)])], 0⟩) (fun n => r.length - n) (0) (by omega) ⟨upds_le (by simp), rfl, by simp, by simp⟩ ?_
              rintro n hn
              refine AW.seq ?_
              by_cases hs19 : n < r.length
              ·
                obtain ⟨c, hc⟩ : ∃ c, r[n]? = some c := ⟨r[n], by simp [hs19]⟩
                have hgo := nameLen_go r n c hn hc
                have hM := MayName_ev (G := G) [97, c]
                have hsl := drop_take1 (l := 46 :: r) (k := n + 1) (x := c) (by simpa using hc)
                refine rgn [.tup [.str [97, c]], .bool (mayNameM [97, c])] [[], [], [], [], [0, 2, 8, 75], [], [], [], [], [0, 2, 8, 75, 80], [], [], [0, 2, 8, 83]] ?_
                iterate 5 refine op1 tok ?_ (hv := by first | with_reducible exact True.intro | ((simp [hs19]; exact ⟨by rw [show ((n : Int) + 1 + 1).toNat = n + 1 + 1 by omega]; exact hsl, hM⟩); done) | omega | simp | (simp; omega) | (simp +contextual; omega))
                iterate 7 refine op2 tok ?_ (hv := by first | with_reducible exact True.intro | ((simp [hs19]; exact ⟨by rw [show ((n : Int) + 1 + 1).toNat = n + 1 + 1 by omega]; exact hsl, hM⟩); done) | omega | simp | (simp; omega) | (simp +contextual; omega))
                refine op1 tok ?_ (hv := by first | with_reducible exact True.intro | ((simp [hs19]; exact ⟨by rw [show ((n : Int) + 1 + 1).toNat = n + 1 + 1 by omega]; exact hsl, hM⟩); done) | omega | simp | (simp; omega) | (simp +contextual; omega))
                refine runEnd ?_
                refine cnd ?_ ?_
                · intro h83
                  try simp at h83
                  have h8 := hgo.1 h83.2
                  refine AW.skip ?_
                  refine AW.block ?_
                  refine rgz [] [[], [], [0, 2, 8]] ?_
                  iterate 3 refine op1 tok ?_
                  refine runEnd ?_
                  exact ⟨n + 1, by omega, by omega, upds_le (by simp), rfl, by simp, by simp⟩
                · intro h83
                  try simp at h83
                  have h8 : n = (nameLen r).length := by
                    have : ¬ n < (nameLen r).length := fun h => by rw [hgo.2 h] at h83; simp [hs19] at h83
                    omega
                  have hk := nameLen_key 46 h8
                  have hk2 : List.take n r = nameLen r := by rw [h8]; exact nameLen_take r
                  refine AW.exit ?_
                  simp
                  refine rgn [] [[], [], [2, 88], [], [2]] ?_
                  iterate 5 refine op1 tok ?_
                  refine runEnd ?_
                  exact AW.ret ⟨.inr rfl, _, _, by (conv => lhs; simp), trivial, by simp [hk, hk2]⟩
              ·
                refine rgn [.nilp, .bool false] [[], [], [], [], [0, 2, 8, 75], [], [], [], [], [0, 2, 8, 75, 80], [], [], [0, 2, 8, 83]] ?_
                iterate 5 refine op1 tok ?_
                iterate 7 refine op2 tok ?_
                refine op1 tok ?_
                refine runEnd ?_
                refine cnd ?_ ?_
                · intro h83
                  try simp at h83
                · intro h83
                  try simp at h83
                  have h8 : n = (nameLen r).length := by omega
                  have hk := nameLen_key 46 h8
                  have hk2 : List.take n r = nameLen r := by rw [h8]; exact nameLen_take r
                  refine AW.exit ?_
                  simp
                  refine rgn [] [[], [], [2, 88], [], [2]] ?_
                  iterate 5 refine op1 tok ?_
                  refine runEnd ?_
                  exact AW.ret ⟨.inr rfl, _, _, by (conv => lhs; simp), trivial, by simp [hk, hk2]⟩
            · intro h68
              try simp at h68
              rw [if_neg (by simp [h68])]
              refine AW.skip ?_
              refine rgn [] [[], [2]] ?_
              iterate 2 refine op1 tok ?_
              refine runEnd ?_
              exact AW.ret ⟨.inr rfl, _, _, by (conv => lhs; simp), trivial, by simp⟩
end Go.Proofs.YtdjjmppnnkkloaaGreatDoor
namespace Go.Proofs.YtdjjmppnnkkloaaGreatDoor
open Sy Go
set_option maxRecDepth 100000
set_option maxHeartbeats 4000000
set_option linter.unusedSimpArgs false
set_option linter.unusedVariables false
variable {G : Glob}
/-- The table that numbers are written by is known. -/
abbrev PW (G : Glob) : Prop := HasPow 3 G
theorem itoa_ev (hP : PW G) (n : Int) : AFn Tryz.prog G 52 [.int .i64 n] (.str (Lib.itoa n)) := ItoaN_ev hP (by kernel_rfl) n
theorem qBody_le6 (s : List UInt8) : (qBody s).length ≤ 6 * s.length := by
  have h1 : ∀ b : UInt8, (qb b).length ≤ 6 := fun b => by unfold qb; (repeat' split) <;> simp
  induction s with
  | nil => simp [qBody]
  | cons b s ih => have := h1 b; simp only [qBody, List.flatMap_cons, List.length_append, List.length_cons] at ih ⊢; omega
theorem written_le {t : Step} (h : mayM t = true) : (writtenT t).length ≤ 200 := by
  have ho := ok_may h
  unfold writtenT
  have hq := qBody_le6 t.key
  rcases ho with ⟨h1, _, _, _⟩ | ⟨h1, h2, h3, _⟩ | ⟨h1, h2, h3⟩
  · have hk : t.key.length ≤ 24 := by
      unfold mayM stepM at h; rw [if_pos h1] at h; simp only [Bool.and_eq_true, decide_eq_true_eq] at h; omega
    rw [h1]; split
    · simp; omega
    · simp [quoteT]; omega
  · obtain ⟨m, hm⟩ : ∃ m : Nat, t.n = m := ⟨t.n.toNat, by omega⟩
    obtain ⟨_, _, _, g4⟩ := itoa_good (k := m) (by omega)
    rw [if_neg (by omega), if_neg (by omega), if_pos h1, hm]
    simp; omega
  · rw [if_neg (by omega), if_neg (by omega), if_neg (by omega)]
    split
    · simp
    · split <;> simp
theorem writtenB_ev (hP : PW G) (t : Step) (hm : mayM t = true) : AFn Tryz.prog G 85 [t.enc] (.str (writtenT t)) := by
  refine AFn.introU tok Tryz.func85 (by kernel_rfl) rfl rfl ?_
  simp only [Tryz.f85, enumA, List.map_cons, List.map_nil]
  have hM := MayName_ev (G := G) t.key
  have hlw := written_le hm
  unfold writtenT at hlw ⊢
  refine rgn [] [[], [1]] ?_
  iterate 2 refine op1 tok ?_
  refine runEnd ?_
  refine AW.seq ?_
  refine AW.block ?_
  refine rgn [.nilp, .bool (mayNameM t.key)] [[], [], [], [], [], [1, 7, 9], [], [], [1, 3]] ?_
  iterate 4 refine op1 tok ?_ (hv := by first | with_reducible exact True.intro | (simp +contextual [hM]; done) | omega | simp | (simp; omega) | (simp +contextual; omega))
  iterate 3 refine op2 tok ?_ (hv := by first | with_reducible exact True.intro | (simp +contextual [hM]; done) | omega | simp | (simp; omega) | (simp +contextual; omega))
  iterate 2 refine op1 tok ?_ (hv := by first | with_reducible exact True.intro | (simp +contextual [hM]; done) | omega | simp | (simp; omega) | (simp +contextual; omega))
  refine runEnd ?_
  refine cnd ?_ ?_
  · intro h3
    try simp at h3
    rw [if_pos h3] at hlw ⊢
    simp at hlw
    refine rgn [] [[], [], [], [2]] ?_
    iterate 4 refine op1 tok ?_
    refine runEnd ?_
    exact AW.ret ⟨.inr rfl, _, _, by (conv => lhs; simp), trivial, by simp⟩
  · intro h3
    try simp at h3
    rw [if_neg (by simpa using h3)] at hlw ⊢
    refine rgn [] [[], [], [], [1, 15]] ?_
    iterate 4 refine op1 tok ?_
    refine runEnd ?_
    refine cnd ?_ ?_
    · intro h15
      try simp at h15
      rw [if_pos h15] at hlw ⊢
      have hv : Lib.validD t.key = true ∧ t.key.length ≤ 24 := by
        unfold mayM stepM at hm; rw [if_pos h15] at hm; simp only [Bool.and_eq_true, decide_eq_true_eq] at hm; exact ⟨hm.1.2, by omega⟩
      have hQ := Quote_ev (G := G) t.key hv.1 (by omega)
      simp at hlw
      refine rgn [.nilp, .str (quoteT t.key)] [[], [], [], [22], [], [2]] ?_
      iterate 6 refine op1 tok ?_ (hv := by first | with_reducible exact True.intro | (first | exact hQ | (simp; omega); done) | omega | simp | (simp; omega) | (simp +contextual; omega))
      refine runEnd ?_
      exact AW.ret ⟨.inr rfl, _, _, by (conv => lhs; simp), trivial, by simp⟩
    · intro h15
      try simp at h15
      rw [if_neg h15] at hlw ⊢
      refine rgn [] [[], [], [], [1, 24]] ?_
      iterate 4 refine op1 tok ?_
      refine runEnd ?_
      refine cnd ?_ ?_
      · intro h24
        try simp at h24
        rw [if_pos h24] at hlw ⊢
        have hI := itoa_ev hP t.n
        simp at hlw
        refine rgn [.nilp, .str (Lib.itoa t.n)] [[], [], [], [31], [], [2]] ?_
        iterate 6 refine op1 tok ?_ (hv := by first | with_reducible exact True.intro | (first | exact hI | (simp; omega); done) | omega | simp | (simp; omega) | (simp +contextual; omega))
        refine runEnd ?_
        exact AW.ret ⟨.inr rfl, _, _, by (conv => lhs; simp), trivial, by simp⟩
      · intro h24
        try simp at h24
        rw [if_neg h24] at hlw ⊢
        refine rgn [] [[], [], [], [1, 33]] ?_
        iterate 4 refine op1 tok ?_
        refine runEnd ?_
        refine cnd ?_ ?_
        · intro h33
          try simp at h33
          rw [if_pos h33]
          refine rgn [] [[]] ?_
          refine op1 tok ?_
          refine runEnd ?_
          exact AW.ret ⟨.inr rfl, _, _, by (conv => lhs; simp), trivial, by simp⟩
        · intro h33
          try simp at h33
          rw [if_neg h33]
          refine rgn [] [[], [], [], [37]] ?_
          iterate 4 refine op1 tok ?_
          refine runEnd ?_
          refine cnd ?_ ?_
          · intro h37
            try simp at h37
            rw [if_pos h37]
            refine rgn [] [[]] ?_
            refine op1 tok ?_
            refine runEnd ?_
            exact AW.ret ⟨.inr rfl, _, _, by (conv => lhs; simp), trivial, by simp⟩
          · intro h37
            try simp at h37
            rw [if_neg h37]
            refine AW.skip ?_
            refine rgn [] [[]] ?_
            refine op1 tok ?_
            refine runEnd ?_
            exact AW.ret ⟨.inr rfl, _, _, by (conv => lhs; simp), trivial, by simp⟩
theorem guess_len (s : List UInt8) : True := trivial
theorem parseB_ev (hG : U8 G) (hP : PW G) (s : List UInt8) (hs : s.length ≤ 100000000) : AFn Tryz.prog G 72 [.str s] (.tup [.sl 3 ((parseT s).1.map Step.enc), .int .i64 (parseT s).2]) := by
  refine AFn.introU tok Tryz.func72 (by kernel_rfl) rfl rfl ?_
  simp only [Tryz.f72, enumA, List.map_cons, List.map_nil]
  have hC := CutPrefix_ev (G := G) s [36]
  have hcl : (cutPre s [36]).length ≤ s.length := by unfold cutPre; split <;> simp
  have hin : parseO s = if hasPre s [36] = true then (parseF s.length (cutPre s [36])).map ([] ++ ·) else none := by
    unfold parseO cutPre; split
    · rename_i h; simp
    · rfl
  unfold parseT
  refine rgn [] [[], [0]] ?_
  iterate 2 refine op1 tok ?_
  refine runEnd ?_
  refine rgn [.nilp, .tup [.str (cutPre s [36]), .bool (hasPre s [36])]] [[], [], [], [], [11, 12], [], [4, 5]] ?_
  iterate 7 refine op1 tok ?_ (hv := by first | with_reducible exact True.intro | (simp [hC]; done) | omega | simp | (simp; omega) | (simp +contextual; omega))
  refine runEnd ?_
  refine rgn [] [[]] ?_
  refine op1 tok ?_
  refine runEnd ?_
  refine AW.seq ?_
  refine AW.block ?_
  refine AW.beginE 6 33 57 3 (by simp) (by simp) (by conv => lhs; simp) ?_
  refine AW.loop (α := List UInt8 × List Step × Bool × Nat) (fun a => parseO s = (if a.2.2.1 = true then (parseF a.2.2.2 a.1).map (a.2.1 ++ ·) else none) ∧ (a.2.2.1 = true → a.1.length ≤ a.2.2.2) ∧ a.2.1.length + a.1.length ≤ s.length + 1 ∧ (a.2.2.1 = true → a.2.1.length + a.1.length ≤ s.length)) (fun a => ⟨upds 42 [(4, .p (.str a.1)), (5, .p (.bool a.2.2.1)), (6, .ms 33)], [], [(33, .row 57 3 (a.2.1.map Step.enc))], 0⟩) (fun a => 2 * a.1.length + (if a.2.2.1 = true then 1 else 0)) ((cutPre s [36], [], hasPre s [36], s.length)) ⟨hin, fun _ => hcl, by simp; omega, by simp; omega⟩ ⟨upds_le (by simp), rfl, by simp, by simp⟩ ?_
  rintro ⟨rest, l, ok, f⟩ ⟨hq, hf, hl, hl2⟩
  simp only at hq hf hl hl2
  refine AW.seq ?_
  refine rgn [] [[], [], [], [], [4, 5, 6, 17]] ?_
  iterate 2 refine op1 tok ?_
  iterate 2 refine op2 tok ?_
  refine op1 tok ?_
  refine runEnd ?_
  refine cnd ?_ ?_
  · intro h17
    try simp at h17
    obtain ⟨hok, hne⟩ := h17
    subst hok
    obtain ⟨f, rfl⟩ : ∃ g, f = g + 1 := ⟨f - 1, by have := List.length_pos_iff.2 hne; have := hf rfl; omega⟩
    have hg := guessB_ev hG rest (by omega)
    have hstep : (parseF (f + 1) rest) = if mayM (guessB rest) = true ∧ hasPre rest (writtenT (guessB rest)) = true then (parseF f (rest.drop (writtenT (guessB rest)).length)).map (guessB rest :: ·) else none := by
      simp only [parseF]; rw [if_neg hne]
    have hpos := List.length_pos_iff.2 hne
    rw [hstep] at hq
    clear hstep
    generalize guessB rest = t at *
    have hM := stepV_ev hG t
    simp at hg hM
    refine AW.skip ?_
    refine AW.block ?_
    refine rgn [.nilp, t.enc] [[], [], [], [4, 6, 7]] ?_
    iterate 4 refine op1 tok ?_ (hv := by first | with_reducible exact True.intro | (first | exact hg | simp; done) | omega | simp | (simp; omega) | (simp +contextual; omega))
    refine runEnd ?_
    refine rgn [.nilp, .bool (mayM t)] [[], [], [4, 5, 6, 7]] ?_
    iterate 3 refine op1 tok ?_ (hv := by first | with_reducible exact True.intro | (first | exact hM | simp; done) | omega | simp | (simp; omega) | (simp +contextual; omega))
    refine runEnd ?_
    refine rgn [] [[]] ?_
    refine op1 tok ?_
    refine runEnd ?_
    refine cnd ?_ ?_
    · intro h22
      try simp at h22
      have hw := writtenB_ev hP t h22
      have hC2 := CutPrefix_ev (G := G) rest (writtenT t)
      have hwp := written_pos t
      simp at hw
      generalize hwt : writtenT t = w at *
      have hcut : cutPre rest w = if hasPre rest w = true then rest.drop w.length else rest := rfl
      refine rgn [.nilp, .str w, .nilp, .tup [.str (cutPre rest w), .bool (hasPre rest w)]] [[], [], [], [6, 7, 27], [], [], [], [], [4, 5, 6, 7]] ?_
      iterate 9 refine op1 tok ?_ (hv := by first | with_reducible exact True.intro | (first | exact hw | exact hC2 | simp; done) | omega | simp | (simp; omega) | (simp +contextual; omega))
      refine runEnd ?_
      have hl3 := hl2 rfl
      have hf3 := hf rfl
      have hE1 : parseO s = if hasPre rest w = true then (parseF f (cutPre rest w)).map ((l ++ [t]) ++ ·) else none := by
        rw [hq, hcut]
        by_cases hp : hasPre rest w = true
        · simp [hp, h22, Option.map_map, Function.comp_def]
        · simp [hp]
      have hE2 : hasPre rest w = true → (cutPre rest w).length + w.length = rest.length := fun hp => by
        rw [hcut, if_pos hp]
        obtain ⟨q, rfl⟩ := hasPre_iff.1 hp; simp; omega
      have hE3 : (cutPre rest w).length ≤ rest.length := by rw [hcut]; split <;> simp
      have hE4 : 2 * (cutPre rest w).length + (if hasPre rest w = true then 1 else 0) < 2 * rest.length + 1 := by
        by_cases hp : hasPre rest w = true
        · rw [if_pos hp]; have := hE2 hp; omega
        · rw [if_neg hp]; omega
      refine rgz [t.enc] [[], [], [], [4, 5, 33], [4, 5, 6]] ?_
      iterate 5 refine op1 tok ?_ (hv := by first | with_reducible exact True.intro | (first | (simp; omega) | simp; done) | omega | simp | (simp; omega) | (simp +contextual; omega))
      refine runEnd ?_
      exact ⟨(cutPre rest w, l ++ [t], hasPre rest w, f), ⟨hE1, fun hp => by have := hE2 hp; simp only []; omega, by simp; omega, fun hp => by have := hE2 hp; simp; omega⟩, by simpa using hE4, upds_le (by simp), rfl, by simp, by simp⟩
    · intro h22
      try simp at h22
      refine AW.skip ?_
      exact ⟨(rest, l, false, f), ⟨by rw [hq]; simp [h22], fun hp => absurd hp (by simp), by simp only []; omega, fun hp => absurd hp (by simp)⟩, by simp, upds_le (by simp [h22]), rfl, by simp [h22], by simp [h22]⟩
  · intro h17
    try simp at h17
    have hend : parseO s = if ok = true then some l else none := by
      rw [hq]
      cases ok with
      | false => rfl
      | true =>
        have : rest = [] := by simpa using h17
        subst this
        cases f <;> simp [parseF]
    rw [hend]
    refine AW.exit ?_
    simp
    refine AW.seq ?_
    refine AW.block ?_
    refine rgn [] [[], [], [6, 34]] ?_
    iterate 3 refine op1 tok ?_
    refine runEnd ?_
    refine cnd ?_ ?_
    · intro h34
      try simp at h34
      subst h34
      refine rgn [] [[], []] ?_
      iterate 2 refine op1 tok ?_
      refine runEnd ?_
      exact AW.ret ⟨.inr rfl, _, _, by (conv => lhs; simp), trivial, by simp [finP]⟩
    · intro h34
      try simp at h34
      subst h34
      simp only [if_true, finP]
      refine rgn [] [[], [], [], [6, 37]] ?_
      iterate 4 refine op1 tok ?_
      refine runEnd ?_
      refine cnd ?_ ?_
      · intro h37
        try simp at h37
        rw [if_pos (by omega)]
        refine rgn [] [[], []] ?_
        iterate 2 refine op1 tok ?_
        refine runEnd ?_
        exact AW.ret ⟨.inr rfl, _, _, by (conv => lhs; simp), trivial, by simp⟩
      · intro h37
        try simp at h37
        rw [if_neg (by omega)]
        refine AW.skip ?_
        refine rgn [] [[], [], [2, 3]] ?_
        iterate 3 refine op1 tok ?_
        refine runEnd ?_
        exact AW.ret ⟨.inr rfl, _, _, by (conv => lhs; simp), trivial, by simp⟩
theorem printS_take {l : List Step} {k : Nat} {t : Step} (h : l[k]? = some t) : printS (l.take (k + 1)) = printS (l.take k) ++ writtenT t := by
  simp [printS, List.take_add_one, h]
theorem flat_le {l : List Step} (h : l.all mayM = true) : (l.flatMap writtenT).length ≤ 200 * l.length := by
  induction l with
  | nil => simp
  | cons t l ih =>
    simp only [List.all_cons, Bool.and_eq_true] at h
    have := written_le h.1
    have := ih h.2
    simp only [List.flatMap_cons, List.length_append, List.length_cons]; omega
theorem printB_ev (hP : PW G) (l : List Step) (ha : l.all mayM = true) (hl : l.length ≤ 1000000) : AFn Tryz.prog G 50 [.sl 3 (l.map Step.enc)] (.str (printS l)) := by
  refine AFn.introU tok Tryz.func50 (by kernel_rfl) rfl rfl ?_
  simp only [Tryz.f50, enumA, List.map_cons, List.map_nil]
  refine rgn [] [[0]] ?_
  refine op1 tok ?_
  refine runEnd ?_
  refine rgn [] [[]] ?_
  refine op1 tok ?_
  refine runEnd ?_
  refine AW.seq ?_
  refine rgn [] [[], [], [3, 6, 7, 8]] ?_
  iterate 3 refine op1 tok ?_
  refine runEnd ?_
  refine AW.block ?_
  refine AW.loop (α := Nat) (fun k => k ≤ l.length) (fun k => ⟨upds 18 [(3, .p (.str (printS (l.take k)))), (6, .p (.sl 3 (l.map Step.enc))), (7, .p (.int .i64 l.length)), (8, .p (.int .i64 k))], [], [], 0⟩) (fun k => l.length - k) (0) (by omega) ⟨upds_le (by simp [printS]), rfl, by simp, by simp⟩ ?_
  rintro k hk
  refine rgn [] [[]] ?_
  refine op1 tok ?_
  refine runEnd ?_
  refine AW.seq ?_
  refine cnd ?_ ?_
  · intro h9
    try simp at h9
    obtain ⟨t, ht⟩ : ∃ t, l[k]? = some t := ⟨l[k], by simp [h9]⟩
    have hmt := List.all_eq_true.1 ha t (List.mem_of_getElem? ht)
    have hw := writtenB_ev hP t hmt
    have hwl := written_le hmt
    have hpl : (printS (l.take k)).length ≤ 200 * k + 1 := by
      have := flat_le (l := l.take k) (List.all_eq_true.2 fun x hx => List.all_eq_true.1 ha x (List.mem_of_mem_take hx))
      simp only [printS, List.length_cons, List.length_take] at this ⊢; omega
    have hsn := printS_take ht
    simp at hw
    generalize writtenT t = w at *
    generalize printS (l.take k) = p at *
    refine AW.skip ?_
    refine AW.seq ?_
    refine AW.block ?_
    refine rgn [t.enc] [[], [], [], [3, 5, 6, 7, 8]] ?_
    iterate 4 refine op1 tok ?_ (hv := by first | with_reducible exact True.intro | (simp [ht]; done) | omega | simp | (simp; omega) | (simp +contextual; omega))
    refine runEnd ?_
    refine rgz [.nilp, .str w] [[], [], [], [6, 7, 8, 15], [3, 6, 7, 8]] ?_
    iterate 5 refine op1 tok ?_ (hv := by first | with_reducible exact True.intro | (first | exact hw | (simp; omega); done) | omega | simp | (simp; omega) | (simp +contextual; omega))
    refine runEnd ?_
    refine rgz [] [[], [3, 6, 7, 8]] ?_
    iterate 2 refine op1 tok ?_
    refine runEnd ?_
    exact ⟨k + 1, by omega, by omega, upds_le (by simp [hsn]), rfl, by simp [hsn], by simp [hsn]⟩
  · intro h9
    try simp at h9
    rw [List.take_of_length_le h9]
    refine AW.exit ?_
    simp
    refine rgn [] [[], [2]] ?_
    iterate 2 refine op1 tok ?_
    refine runEnd ?_
    exact AW.ret ⟨.inr rfl, _, _, by (conv => lhs; simp), trivial, by simp⟩
end Go.Proofs.YtdjjmppnnkkloaaGreatDoor
/-
  DERIVED: THE SHELF's CONTRACTS AT THIS DUMP, IN PLAIN WORDS (tools/lay-plain.mjs out of 'TryzShelf4Q.lean', which tools/lay-shelf.mjs wrote): THE SAME DECLARATIONS UNDER THE SAME NAMES: 'import', 'namespace', 'open', 'def', 'theorem' AND NOTHING ELSE: no command of the shelf's: FOR A HAND-IN. Each laying: the table of numbers ('.._ren') and one theorem, a field a fact of the dump's own or the kernel's comparison; each contract: ONE APPLICATION.
-/
namespace Go.Proofs
open Go.Shelf
def Tryz.laysC172_ren : Go.Shelf.Ren := ⟨fun | 172 => 110 | 244 => 129 | 245 => 130 | 247 => 149 | 279 => 150 | 280 => 151 | 281 => 152 | 282 => 153 | 287 => 165 | 316 => 166 | 171 => 52 | 205 => 167 | 321 => 172 | 322 => 173 | 243 => 90 | 246 => 120 | 283 => 142 | 284 => 143 | 285 => 144 | 286 => 145 | 129 => 160 | 317 => 159 | 318 => 161 | 319 => 162 | 320 => 163 | 337 => 170 | 338 => 171 | n => n, fun | 9 => 9 | 3 => 3 | 75 => 114 | 76 => 116 | 4 => 4 | 5 => 5 | 167 => 169 | 37 => 110 | 0 => 0 | 85 => 170 | 2 => 2 | 168 => 172 | 53 => 37 | 175 => 183 | 46 => 119 | 210 => 186 | 127 => 147 | 145 => 193 | 143 => 191 | 21 => 21 | 171 => 163 | 173 => 166 | 212 => 178 | 51 => 162 | 20 => 20 | 213 => 179 | 232 => 195 | 233 => 196 | 80 => 120 | n => n, fun | 15 => 4 | 16 => 5 | 17 => 3 | 18 => 6 | 19 => 7 | n => n⟩
theorem Tryz.laysC172 : Go.Proofs.LaysC.n172 Tryz.prog Tryz.laysC172_ren := {
  mixed := by kernel_rfl
  f129 := Tryz.func160.trans (congrArg some (by kernel_rfl))
  f171 := Tryz.func52.trans (congrArg some (by kernel_rfl))
  f172 := Tryz.func110.trans (congrArg some (by kernel_rfl))
  f205 := Tryz.func167.trans (congrArg some (by kernel_rfl))
  f243 := Tryz.func90.trans (congrArg some (by kernel_rfl))
  f244 := Tryz.func129.trans (congrArg some (by kernel_rfl))
  f245 := Tryz.func130.trans (congrArg some (by kernel_rfl))
  f246 := Tryz.func120.trans (congrArg some (by kernel_rfl))
  f247 := Tryz.func149.trans (congrArg some (by kernel_rfl))
  f279 := Tryz.func150.trans (congrArg some (by kernel_rfl))
  f280 := Tryz.func151.trans (congrArg some (by kernel_rfl))
  f281 := Tryz.func152.trans (congrArg some (by kernel_rfl))
  f282 := Tryz.func153.trans (congrArg some (by kernel_rfl))
  f283 := Tryz.func142.trans (congrArg some (by kernel_rfl))
  f284 := Tryz.func143.trans (congrArg some (by kernel_rfl))
  f285 := Tryz.func144.trans (congrArg some (by kernel_rfl))
  f286 := Tryz.func145.trans (congrArg some (by kernel_rfl))
  f287 := Tryz.func165.trans (congrArg some (by kernel_rfl))
  f316 := Tryz.func166.trans (congrArg some (by kernel_rfl))
  f317 := Tryz.func159.trans (congrArg some (by kernel_rfl))
  f318 := Tryz.func161.trans (congrArg some (by kernel_rfl))
  f319 := Tryz.func162.trans (congrArg some (by kernel_rfl))
  f320 := Tryz.func163.trans (congrArg some (by kernel_rfl))
  f321 := Tryz.func172.trans (congrArg some (by kernel_rfl))
  f322 := Tryz.func173.trans (congrArg some (by kernel_rfl))
  f337 := Tryz.func170.trans (congrArg some (by kernel_rfl))
  f338 := Tryz.func171.trans (congrArg some (by kernel_rfl))
  t0 := Tryz.underlying0
  a0 := Tryz.isAgg0
  z0 := Tryz.sizeOf0
  v0 := Tryz.zeroValue0
  t2 := Tryz.underlying2
  a2 := Tryz.isAgg2
  z2 := Tryz.sizeOf2
  v2 := Tryz.zeroValue2
  t3 := Tryz.underlying3
  a3 := Tryz.isAgg3
  z3 := Tryz.sizeOf3
  v3 := Tryz.zeroValue3
  t4 := Tryz.underlying4
  a4 := Tryz.isAgg4
  z4 := Tryz.sizeOf4
  v4 := Tryz.zeroValue4
  t5 := Tryz.underlying5
  a5 := Tryz.isAgg5
  z5 := Tryz.sizeOf5
  v5 := Tryz.zeroValue5
  t9 := Tryz.underlying9
  a9 := Tryz.isAgg9
  z9 := Tryz.sizeOf9
  v9 := Tryz.zeroValue9
  t20 := Tryz.underlying20
  a20 := Tryz.isAgg20
  z20 := Tryz.sizeOf20
  v20 := Tryz.zeroValue20
  t21 := Tryz.underlying21
  a21 := Tryz.isAgg21
  z21 := Tryz.sizeOf21
  v21 := Tryz.zeroValue21
  t37 := Tryz.underlying110
  a37 := Tryz.isAgg110
  z37 := Tryz.sizeOf110
  v37 := Tryz.zeroValue110
  t46 := Tryz.underlying119
  a46 := Tryz.isAgg119
  z46 := Tryz.sizeOf119
  v46 := Tryz.zeroValue119
  t51 := Tryz.underlying162
  a51 := Tryz.isAgg162
  z51 := Tryz.sizeOf162
  v51 := Tryz.zeroValue162
  t53 := Tryz.underlying37
  a53 := Tryz.isAgg37
  z53 := Tryz.sizeOf37
  v53 := Tryz.zeroValue37
  t75 := Tryz.underlying114
  a75 := Tryz.isAgg114
  z75 := Tryz.sizeOf114
  v75 := Tryz.zeroValue114
  t76 := Tryz.underlying116
  a76 := Tryz.isAgg116
  z76 := Tryz.sizeOf116
  v76 := Tryz.zeroValue116
  t85 := Tryz.underlying170
  a85 := Tryz.isAgg170
  z85 := Tryz.sizeOf170
  v85 := Tryz.zeroValue170
  t127 := Tryz.underlying147
  a127 := Tryz.isAgg147
  z127 := Tryz.sizeOf147
  v127 := Tryz.zeroValue147
  t143 := Tryz.underlying191
  a143 := Tryz.isAgg191
  z143 := Tryz.sizeOf191
  v143 := Tryz.zeroValue191
  t145 := Tryz.underlying193
  a145 := Tryz.isAgg193
  z145 := Tryz.sizeOf193
  v145 := Tryz.zeroValue193
  t167 := Tryz.underlying169
  a167 := Tryz.isAgg169
  z167 := Tryz.sizeOf169
  v167 := Tryz.zeroValue169
  t168 := Tryz.underlying172
  a168 := Tryz.isAgg172
  z168 := Tryz.sizeOf172
  v168 := Tryz.zeroValue172
  t171 := Tryz.underlying163
  a171 := Tryz.isAgg163
  z171 := Tryz.sizeOf163
  v171 := Tryz.zeroValue163
  t173 := Tryz.underlying166
  a173 := Tryz.isAgg166
  z173 := Tryz.sizeOf166
  v173 := Tryz.zeroValue166
  t175 := Tryz.underlying183
  a175 := Tryz.isAgg183
  z175 := Tryz.sizeOf183
  v175 := Tryz.zeroValue183
  t210 := Tryz.underlying186
  a210 := Tryz.isAgg186
  z210 := Tryz.sizeOf186
  v210 := Tryz.zeroValue186
  t212 := Tryz.underlying178
  a212 := Tryz.isAgg178
  z212 := Tryz.sizeOf178
  v212 := Tryz.zeroValue178
  t213 := Tryz.underlying179
  a213 := Tryz.isAgg179
  z213 := Tryz.sizeOf179
  t232 := Tryz.underlying195
  a232 := Tryz.isAgg195
  z232 := Tryz.sizeOf195
  v232 := Tryz.zeroValue195
  t233 := Tryz.underlying196
  a233 := Tryz.isAgg196
  z233 := Tryz.sizeOf196
  v233 := Tryz.zeroValue196
  g15 := by kernel_rfl
  g16 := by kernel_rfl
  g17 := by kernel_rfl
  g18 := by kernel_rfl
  g19 := by kernel_rfl
  t80 := Tryz.underlying120
  a80 := Tryz.isAgg120
  z80 := Tryz.sizeOf120
  v80 := Tryz.zeroValue120
  i0 := by kernel_rfl
  i2 := by kernel_rfl
  i3 := by kernel_rfl
  i4 := by kernel_rfl
  i5 := by kernel_rfl
  i9 := by kernel_rfl
  i20 := by kernel_rfl
  i21 := by kernel_rfl
  i37 := by kernel_rfl
  i46 := by kernel_rfl
  i51 := by kernel_rfl
  i53 := by kernel_rfl
  i75 := by kernel_rfl
  i76 := by kernel_rfl
  i80 := by kernel_rfl
  i85 := by kernel_rfl
  i127 := by kernel_rfl
  i143 := by kernel_rfl
  i145 := by kernel_rfl
  i167 := by kernel_rfl
  i168 := by kernel_rfl
  i171 := by kernel_rfl
  i173 := by kernel_rfl
  i175 := by kernel_rfl
  i210 := by kernel_rfl
  i212 := by kernel_rfl
  i232 := by kernel_rfl
  i233 := by kernel_rfl
  m15 := by kernel_rfl
  m16 := by kernel_rfl
  m17 := by kernel_rfl
  m18 := by kernel_rfl
  m19 := by kernel_rfl
  c0 := by kernel_rfl
  c2 := by kernel_rfl
  c3 := by kernel_rfl
  c4 := by kernel_rfl
  c5 := by kernel_rfl
  c9 := by kernel_rfl
  c20 := by kernel_rfl
  c21 := by kernel_rfl
  c37 := by kernel_rfl
  c46 := by kernel_rfl
  c51 := by kernel_rfl
  c53 := by kernel_rfl
  c75 := by kernel_rfl
  c76 := by kernel_rfl
  c80 := by kernel_rfl
  c85 := by kernel_rfl
  c127 := by kernel_rfl
  c143 := by kernel_rfl
  c145 := by kernel_rfl
  c167 := by kernel_rfl
  c168 := by kernel_rfl
  c171 := by kernel_rfl
  c173 := by kernel_rfl
  c175 := by kernel_rfl
  c210 := by kernel_rfl
  c212 := by kernel_rfl
  c213 := by kernel_rfl
  c232 := by kernel_rfl
  c233 := by kernel_rfl }
end Go.Proofs
/-
  OUR OWN LAYER: strconv.Atoi at every text, by the kit's contract.
-/
namespace Go.Proofs.YtdjjmppnnkkloaaGreatDoor
open Sy Go
set_option linter.unusedVariables false
variable {G : Glob}
/-- The two errors' variables hold errors. -/
def HasErr (g1 g2 : Nat) (G : Glob) : Prop := G g1 = some [.err] ∧ G g2 = some [.err]
abbrev PE (G : Glob) : Prop := HasErr 4 5 G
/-- What strconv.Atoi tells. -/
def atoiT (s : List UInt8) : Int × PD := match Lib.atoiAll s with
  | .ok v => (v, .noerr)
  | .range => (Lib.atoiSat s, .err)
  | _ => (0, .err)
theorem err_cell {g : Nat} {M : FMap} {w : World} (hG : G g = some [.err]) (hg : GOK G M w) (hmem : ∀ b o v, M b o = some v → w.cell? ⟨b, o, none⟩ = some v) : ∃ t p, w.cell? ⟨g, 0, none⟩ = some (.iface t p) := by
  obtain ⟨h1, h2⟩ := hg.1 g _ hG
  obtain ⟨u, hu, _⟩ := h1 0 .err rfl
  have := h2 0 .err u rfl hu
  cases this
  exact ⟨_, _, hmem _ _ _ hu⟩
theorem Atoi_ev (hE : PE G) (s : List UInt8) (hs : s.length ≤ 281474976710656) : AFn Tryz.prog G 110 [.str s] (.tup [.int .i64 (atoiT s).1, (atoiT s).2]) := by
  refine AFn.of_calls (callable_of Tryz.func110 (by kernel_rfl) rfl) fun M w vs hg hmem hsz hrd => ?_
  obtain ⟨b, rfl, hb, hm⟩ := arg_str hsz hrd
  have hbs : b.size = s.length := str_size hb
  obtain ⟨t1, p1, hc1⟩ := err_cell hE.1 hg hmem
  obtain ⟨t2, p2, hc2⟩ := err_cell hE.2 hg hmem
  have two : ∀ (u : Value) (v : Int) (d : PD), Rd M (.int .i64 v) (.int .i64 v) → Rd M u d → Rd M (.tuple #[.int .i64 v, u]) (.tup [.int .i64 v, d]) := by
    intro u v d h1 h2
    refine .tup rfl fun i x y hx hy => ?_
    match i with
    | 0 => simp at hx hy; subst hx; subst hy; exact h1
    | 1 => simp at hx hy; subst hx; subst hy; exact h2
    | i + 2 => simp at hx
  have hsat := Lib.atoiSat_bounds s
  rcases h : Lib.atoiAll s with v | _ | _
  · have hv := Lib.atoiAll_bounds h
    have ht : atoiT s = (v, .noerr) := by unfold atoiT; rw [h]
    rw [ht]
    refine (Any.strconv_Atoi_ok Tryz.laysC172 b (by omega) v (by rw [hb]; exact h) w).mono ?_
    rintro e w' ⟨rfl, hW⟩
    refine ⟨_, rfl, two _ _ _ (Rd.intOf (by simp only [kmin]; omega) (by simp only [kmax]; omega)) .noerr, ?_⟩
    rcases hW with rfl | ⟨t, rfl⟩
    · exact RowKit.Below.refl _ _
    · exact Lib.bytesWorld_below _ _ _
  · have ht : atoiT s = (0, .err) := by unfold atoiT; rw [h]
    rw [ht]
    refine (Any.strconv_Atoi_syntax Tryz.laysC172 b (by omega) (by rw [hb]; exact h) _ w hc1 (.inr ⟨_, _, rfl⟩)).mono ?_
    rintro e w' ⟨N, rfl, _, _, hB⟩
    exact ⟨_, rfl, two _ _ _ (Rd.intOf (by simp [kmin]) (by simp [kmax])) .err, hB⟩
  · have ht : atoiT s = (Lib.atoiSat s, .err) := by unfold atoiT; rw [h]
    rw [ht]
    refine (Any.strconv_Atoi_range Tryz.laysC172 b (by omega) (by rw [hb]; exact h) _ w hc2 (.inr ⟨_, _, rfl⟩)).mono ?_
    rintro e w' ⟨N, rfl, _, _, hB⟩
    rw [hb]
    exact ⟨_, rfl, two _ _ _ (Rd.intOf (by simp only [kmin]; omega) (by simp only [kmax]; omega)) .err, hB⟩
end Go.Proofs.YtdjjmppnnkkloaaGreatDoor
/-
  PLAIN: policies, how they are written, and how they are read.
-/
namespace Go.Proofs.YtdjjmppnnkkloaaGreatDoor
open Sy Go
set_option linter.unusedSimpArgs false
set_option linter.unusedVariables false
structure Mk where
  path : List Step
  mask : Int
  deriving DecidableEq
structure Pol where
  cats : List (List UInt8)
  marks : List Mk
  token : List UInt8
  fuel : Int
  quota : Int
  deriving DecidableEq
@[simp] def Mk.enc (m : Mk) : PD := .agg [.sl 3 (m.path.map Step.enc), .int .u64 m.mask]
@[simp] def Pol.enc (p : Pol) : PD := .agg [.sl 1 (p.cats.map PD.str), .sl 2 (p.marks.map Mk.enc), .str p.token, .int .i64 p.fuel, .int .i64 p.quota]
def pol0 : Pol := ⟨[], [], [], 0, 0⟩
def fuelM (n : Int) : Bool := decide (1 ≤ n) && decide (n ≤ 100000)
/-- A mask that is of no category, or of one that there is not. -/
def badM (n : Nat) (m : Int) : Bool := decide (m = 0) || (decide ((n : Int) < 64) && decide (m / 2 ^ n ≠ 0))
def marksM (n : Nat) : List Mk → Int
  | [] => 0
  | m :: r => if mayL m.path ≠ 0 then mayL m.path else if badM n m.mask = true then 22 else marksM n r
def polMay (p : Pol) : Int :=
  if catsMayM p.cats ≠ 0 then catsMayM p.cats else if 16 < p.marks.length then 3 else if marksM p.cats.length p.marks ≠ 0 then marksM p.cats.length p.marks
  else if 24 < p.token.length ∨ Lib.validD p.token = false ∨ fuelM p.fuel = false ∨ fuelM p.quota = false then 22 else 0
def kwCats : List UInt8 := [99, 97, 116, 115]
def kwMark : List UInt8 := [109, 97, 114, 107]
def kwToken : List UInt8 := [116, 111, 107, 101, 110]
def kwFuel : List UInt8 := [102, 117, 101, 108]
def kwQuota : List UInt8 := [113, 117, 111, 116, 97]
def rowT (ws : List (List UInt8)) : List UInt8 := Lib.join ws [32] ++ [10]
def markT (cats : List (List UInt8)) (m : Mk) : List UInt8 := rowT [kwMark, namesT cats m.mask, printS m.path]
def headT (p : Pol) (k : Nat) : List UInt8 := rowT (kwCats :: p.cats) ++ (p.marks.take k).flatMap (markT p.cats)
def polPrint (p : Pol) : List UInt8 := headT p p.marks.length ++ rowT [kwToken, quoteT p.token] ++ rowT [kwFuel, Lib.itoa p.fuel] ++ rowT [kwQuota, Lib.itoa p.quota]
def isErr : PD → Bool
  | .noerr => false
  | _ => true
/-- The number of a text; 0, if it is none that may be. -/
def numberM (s : List UInt8) : Int := if isErr (atoiT s).2 = true ∨ fuelM (atoiT s).1 = false then 0 else (atoiT s).1
def lineM (p : Pol) (s : List UInt8) : Pol × Bool :=
  let w := (cutB 32 s).1
  let rest := (cutB 32 s).2.1
  if w = kwCats then ({ p with cats := (splitB 32 rest).filter (fun x => !decide (x = [])) }, decide (catsMayM ((splitB 32 rest).filter (fun x => !decide (x = []))) = 0))
  else if w = kwMark then ({ p with marks := p.marks ++ [⟨(parseT (36 :: (cutB 36 rest).2.1)).1, (maskT p.cats (cutB 36 rest).1).1⟩] }, (cutB 36 rest).2.2 && decide ((maskT p.cats (cutB 36 rest).1).2 = 0) && decide ((parseT (36 :: (cutB 36 rest).2.1)).2 = 0))
  else if w = kwToken then ({ p with token := (unquoteT rest).1 }, decide ((unquoteT rest).2.2 = 0))
  else if w = kwFuel then ({ p with fuel := numberM rest }, true)
  else if w = kwQuota then ({ p with quota := numberM rest }, true)
  else (p, false)
def stepP (a : Pol × Bool) (l : List UInt8) : Pol × Bool := if a.2 = true then lineM a.1 l else a
def readP (s : List UInt8) : Pol × Bool := (splitB 10 (cutEnd 10 s)).foldl stepP (pol0, true)
def polParse (s : List UInt8) : Pol × Int := if (readP s).2 = true ∧ polMay (readP s).1 = 0 ∧ polPrint (readP s).1 = s then ((readP s).1, 0) else (pol0, 22)
/-! ### How long these are -/
theorem may_cats {cats : List (List UInt8)} (h : catsMayM cats = 0) : cats.length ≤ 64 ∧ cats.Nodup ∧ cats.all mayNameM = true := by
  unfold catsMayM at h
  split at h
  · cases h
  · split at h
    · rename_i h1 h2
      simp only [Bool.and_eq_true, decide_eq_true_eq] at h2
      exact ⟨by omega, h2.1, h2.2⟩
    · cases h
theorem name_le {s : List UInt8} (h : mayNameM s = true) : s.length ≤ 24 := by
  unfold mayNameM at h
  simp only [Bool.and_eq_true, decide_eq_true_eq] at h
  exact h.2.1
theorem cats_le {cats : List (List UInt8)} (h : catsMayM cats = 0) : ∀ c ∈ cats, c.length ≤ 24 := fun c hc => name_le (List.all_eq_true.1 (may_cats h).2.2 c hc)
theorem marks_may {n : Nat} : ∀ {l : List Mk}, marksM n l = 0 → ∀ m ∈ l, mayL m.path = 0 ∧ badM n m.mask = false
  | [], _, m, hm => by cases hm
  | x :: l, h, m, hm => by
    simp only [marksM] at h
    split at h
    · rename_i h1; exact absurd h h1
    · rename_i h1
      split at h
      · cases h
      · rename_i h2
        rcases List.mem_cons.1 hm with rfl | hm
        · exact ⟨by simpa using h1, by simpa using h2⟩
        · exact marks_may h m hm
theorem may_zeroL {l : List Step} (h : mayL l = 0) : l.all mayM = true ∧ l.length ≤ 8 := by
  unfold mayL at h
  split at h
  · cases h
  · split at h
    · rename_i h1 h2; exact ⟨h2, by omega⟩
    · cases h
structure PolOK (p : Pol) : Prop where
  cats : catsMayM p.cats = 0
  few : p.marks.length ≤ 16
  marks : marksM p.cats.length p.marks = 0
  token : p.token.length ≤ 24 ∧ Lib.validD p.token = true
  fuel : 1 ≤ p.fuel ∧ p.fuel ≤ 100000
  quota : 1 ≤ p.quota ∧ p.quota ≤ 100000
theorem may_pol {p : Pol} : polMay p = 0 ↔ PolOK p := by
  unfold polMay
  constructor
  · intro h
    split at h
    · rename_i h1; exact absurd h h1
    rename_i h1
    split at h
    · cases h
    rename_i h2
    split at h
    · rename_i h3; exact absurd h h3
    rename_i h3
    split at h
    · cases h
    rename_i h4
    simp only [not_or, Bool.not_eq_false] at h4
    obtain ⟨g1, g2, g3, g4⟩ := h4
    simp only [fuelM, Bool.and_eq_true, decide_eq_true_eq] at g3 g4
    exact ⟨by simpa using h1, by omega, by simpa using h3, ⟨by omega, g2⟩, g3, g4⟩
  · rintro ⟨h1, h2, h3, h4, h5, h6⟩
    rw [if_neg (by simp [h1]), if_neg (by omega), if_neg (by simp [h3]), if_neg]
    simp only [not_or, Bool.not_eq_false, fuelM, Bool.and_eq_true, decide_eq_true_eq]
    exact ⟨by omega, h4.2, h5, h6⟩
theorem names_le {cats : List (List UInt8)} (h : catsMayM cats = 0) (m : Int) : (namesT cats m).length ≤ 1600 := by
  unfold namesT
  have h1 := joinN_le 24 (pickC cats 0 m) fun x hx => cats_le h x (pick_sub hx)
  have h2 := pick_le m cats 0
  have h3 := (may_cats h).1
  have : (pickC cats 0 m).length * 25 ≤ 64 * 25 := Nat.mul_le_mul_right _ (by omega)
  omega
theorem row_len (ws : List (List UInt8)) (b : Nat) (h : ∀ x ∈ ws, x.length ≤ b) : (rowT ws).length ≤ ws.length * (b + 1) + 1 := by
  have := joinN_le b ws h
  simp only [rowT, List.length_append, List.length_cons, List.length_nil]; omega
theorem path_le {l : List Step} (h : mayL l = 0) : (printS l).length ≤ 1601 := by
  have hz := may_zeroL h
  have := flat_le hz.1
  simp only [printS, List.length_cons]; omega
theorem mark_le {cats : List (List UInt8)} (h : catsMayM cats = 0) {m : Mk} (hm : mayL m.path = 0) : (markT cats m).length ≤ 5000 := by
  have h1 := names_le h m.mask
  have h2 := path_le hm
  have := row_len [kwMark, namesT cats m.mask, printS m.path] 1601 (by
    intro x hx
    simp only [List.mem_cons, List.not_mem_nil, or_false] at hx
    rcases hx with rfl | rfl | rfl
    · simp [kwMark]
    · omega
    · exact h2)
  simp only [List.length_cons, List.length_nil] at this
  unfold markT; omega
theorem catsrow_le {cats : List (List UInt8)} (h : catsMayM cats = 0) : (rowT (kwCats :: cats)).length ≤ 2000 := by
  have h1 := (may_cats h).1
  have := row_len (kwCats :: cats) 24 (by
    intro x hx
    rcases List.mem_cons.1 hx with rfl | hx
    · simp [kwCats]
    · exact cats_le h x hx)
  simp only [List.length_cons] at this; omega
theorem head_le {p : Pol} (h : PolOK p) (k : Nat) : (headT p k).length ≤ 2000 + 5000 * p.marks.length := by
  have h1 := catsrow_le h.cats
  have key : ∀ l : List Mk, (∀ m ∈ l, mayL m.path = 0) → (l.flatMap (markT p.cats)).length ≤ 5000 * l.length := by
    intro l
    induction l with
    | nil => simp
    | cons m l ih =>
      intro hl
      have := mark_le h.cats (hl m (by simp))
      have := ih fun x hx => hl x (by simp [hx])
      simp only [List.flatMap_cons, List.length_append, List.length_cons]; omega
  have h2 := key (p.marks.take k) fun m hm => (marks_may h.marks m (List.mem_of_mem_take hm)).1
  have h3 : (p.marks.take k).length ≤ p.marks.length := by simp; omega
  simp only [headT, List.length_append]; omega
theorem head_snoc {p : Pol} {k : Nat} {m : Mk} (h : p.marks[k]? = some m) : headT p (k + 1) = headT p k ++ markT p.cats m := by
  simp [headT, List.take_add_one, h]
end Go.Proofs.YtdjjmppnnkkloaaGreatDoor
namespace Go.Proofs.YtdjjmppnnkkloaaGreatDoor
open Sy Go
set_option maxRecDepth 100000
set_option linter.unusedSimpArgs false
set_option linter.unusedVariables false
variable {G : Glob}

def deepAt (l : List Step) (i : Nat) : Bool := match l[i]? with
  | some t => decide (t.kind = 5)
  | none => false
def sprF (l : List Step) (F : Nat → Bool) : Nat → Bool
  | 0 => F 0
  | i + 1 => F (i + 1) || (sprF l F i && deepAt l i)
def sprG (l : List Step) (F : Nat → Bool) (k : Nat) (i : Nat) : Bool := if i ≤ k then sprF l F i else F i

theorem sprG_zero (l : List Step) (F : Nat → Bool) (n : Nat) : rowP n (sprG l F 0) = rowP n F := rowP_congr fun i _ => by
  simp only [sprG]; split
  · rename_i h; have : i = 0 := by omega
    subst this; rfl
  · rfl
theorem sprG_step {l : List Step} {F : Nat → Bool} {n a : Nat} {t : Step} (ht : l[a]? = some t) :
    rowP n (fun k => if k = a + 1 then sprG l F a (a + 1) || (sprG l F a a && decide (t.kind = 5)) else sprG l F a k) = rowP n (sprG l F (a + 1)) := rowP_congr fun i _ => by
  by_cases h : i = a + 1
  · subst h; simp [sprG, sprF, deepAt, ht, show ¬ a + 1 ≤ a by omega]
  · simp only [h, if_false, sprG]
    by_cases h2 : i ≤ a
    · simp [h2, show i ≤ a + 1 by omega]
    · simp [h2, show ¬ i ≤ a + 1 by omega]
theorem sprG_end (l : List Step) (F : Nat → Bool) (a : Nat) (h : l.length ≤ a) : rowP (l.length + 1) (sprG l F a) = rowP (l.length + 1) (sprF l F) := rowP_congr fun i hi => by
  simp [sprG, show i ≤ a by omega]

def sprS (i j : Nat) (l : List Step) (F : Nat → Bool) (k : Nat) : St := ⟨[.ms i, .ptr j 0, .dead, .dead, .dead, .dead, .p (.sl 3 (l.map Step.enc)), .p (.int .i64 l.length), .p (.int .i64 k)] ++ List.replicate 26 .dead, [i, j],
  [(i, .row 4 1 (rowP (l.length + 1) (sprG l F k))), (j, .vars 52 [.p (.sl 3 (l.map Step.enc))])], 1000⟩
theorem spread_ev (i j : Nat) (l : List Step) (F : Nat → Bool) (hij : i = 15 ∧ j = 2 ∨ i = 31 ∧ j = 2) : AX Tryz.prog G 95 [.ms i, .ptr j 0] [(i, .row 4 1 (rowP (l.length + 1) F)), (j, .vars 52 [.p (.sl 3 (l.map Step.enc))])] (.ms i) [i, j]
    [(i, .row 4 1 (rowP (l.length + 1) (sprF l F))), (j, .vars 52 [.p (.sl 3 (l.map Step.enc))])] := by
  refine AX.intro tok 1000 Tryz.func95 (by kernel_rfl) rfl ?_
  simp only [Tryz.f95, St.startX]
  rcases hij with ⟨rfl, rfl⟩ | ⟨rfl, rfl⟩
  all_goals
    refine AW.seqRun tok [] (by intro C; conv => lhs; simp) trivial ?_ -- r0 {}
    refine AW.seq ?_
    refine AW.seqRun tok [] (by intro C; conv => lhs; simp) trivial ?_ -- r1 {}
    refine AW.slFact (i := 6) rfl ?_
    intro hlen
    refine AW.block ?_
    -- LOOP
    refine AW.loop (α := Nat) (fun a => a ≤ l.length) (fun a => sprS _ _ l F a) (fun a => l.length - a) 0 (by omega) ⟨by simp [sprS], rfl, by simp [sprS, sprG_zero], by simp [sprS]⟩ ?_
    intro a hI
    simp only [sprS]
    refine AW.seqRun tok [] (by intro C; conv => lhs; simp) trivial ?_ -- r2 {}
    refine AW.seq ?_
    refine AW.cond (c := .tmp 9) (by conv => lhs; simp) trivial ?_ ?_
    · intro h1
      simp at h1
      obtain ⟨t, ht⟩ : ∃ t, l[a]? = some t := ⟨l[a], by simp [h1]⟩
      refine AW.skip ?_
      refine AW.seq ?_
      refine AW.block ?_
      refine AW.seqRun tok [t.enc] (by intro C; conv => lhs; simp) (by simp [ht]) ?_ -- r3 {t11:index; t12:load}
      refine AW.run tok [.bool (sprG l F a (a + 1)), .bool (sprG l F a a), .bool (sprG l F a (a + 1)), .bool (sprG l F a (a + 1) || (sprG l F a a && decide (t.kind = 5)))] (by intro C; conv => lhs; simp) (by simp +contextual [h1, show a < l.length + 1 by omega]; simp at hlen; omega) ?_ -- r4 {t19:index; t20:load; t24:index; t25:load; t32:index; storerow e0 e1}
      refine AW.run tok [] (by intro C; conv => lhs; simp) (by simp at hlen; omega) ?_ -- r5 {}
      exact ⟨a + 1, by omega, by omega, by simp [sprS], rfl, by simp [sprS, sprG_step ht], by simp [sprS]⟩ -- END OF ROUND
    · intro h1
      simp at h1
      refine AW.exit ?_ -- exit 0
      simp
      refine AW.seqRun tok [] (by intro C; conv => lhs; simp) trivial ?_ -- r6 {}
      exact AW.ret ⟨.inr rfl, _, _, by (conv => lhs; simp), trivial, by simp, by simp, by simp [sprG_end l F a (by omega)], by simp⟩
end Go.Proofs.YtdjjmppnnkkloaaGreatDoor
namespace Go.Proofs.YtdjjmppnnkkloaaGreatDoor
open Sy Go
set_option maxRecDepth 100000
set_option linter.unusedSimpArgs false
set_option linter.unusedVariables false
variable {G : Glob}

/-- The next row of the reference. -/
def nextF (t : Step) (tw : List Step) (F : Nat → Bool) : Nat → Bool
  | 0 => if t.kind = 5 then F 0 else false
  | k + 1 => if t.kind = 5 then F (k + 1) || nextF t tw F k else F k && (match tw[k]? with
    | some x => ledM t x
    | none => false)
def refRow (tw : List Step) : List Step → (Nat → Bool) → (Nat → Bool)
  | [], F => F
  | t :: l, F => refRow tw l (nextF t tw F)
theorem refRow_snoc (tw : List Step) (t : Step) : ∀ (l : List Step) (F : Nat → Bool), refRow tw (l ++ [t]) F = nextF t tw (refRow tw l F)
  | [], F => rfl
  | x :: l, F => refRow_snoc tw t l _
def row0 : Nat → Bool := fun k => decide (k = 0)
def refMatchM (l tw : List Step) : Bool := refRow tw l row0 tw.length

def refS1 (l tw : List Step) (i : Nat) (F : Nat → Bool) : St := ⟨[.p (.sl 3 (l.map Step.enc)), .p (.sl 3 (tw.map Step.enc)), .dead, .dead, .dead, .ms 12, .p (.int .i64 i)] ++ List.replicate 78 .dead, [],
  [(12, .row 4 1 (rowP (tw.length + 1) F))], 0⟩
def part (k : Nat) (F : Nat → Bool) : Nat → Bool := fun p => if p < k then F p else false
def refS2 (l tw : List Step) (i k : Nat) (F F' : Nat → Bool) : St := ⟨[.p (.sl 3 (l.map Step.enc)), .p (.sl 3 (tw.map Step.enc)), .dead, .dead, .dead, .ms 12, .p (.int .i64 i), .ms 24, .p (.int .i64 k)] ++ List.replicate 76 .dead, [],
  [(12, .row 4 1 (rowP (tw.length + 1) F)), (24, .row 4 1 (rowP (tw.length + 1) (part k F')))], 0⟩
theorem part_zero (n : Nat) (F : Nat → Bool) : rowP n (part 0 F) = rowP n fun _ => false := rfl
theorem part_step {n k : Nat} {F : Nat → Bool} {b : Bool} (h : b = F k) : rowP n (fun p => if p = k then b else part k F p) = rowP n (part (k + 1) F) := rowP_congr fun p _ => by
  simp only [part]
  by_cases h1 : p = k
  · subst h1; simp [h]
  · by_cases h2 : p < k
    · simp [h1, h2, show p < k + 1 by omega]
    · simp [h1, h2, show ¬ p < k + 1 by omega]
theorem part_end {n k : Nat} {F : Nat → Bool} (h : n ≤ k) : rowP n (part k F) = rowP n F := rowP_congr fun p hp => by simp [part, show p < k by omega]
theorem row0_eq (n : Nat) : rowP n (fun k => if k = 0 then true else false) = rowP n row0 := rowP_congr fun p _ => by simp [row0]

end Go.Proofs.YtdjjmppnnkkloaaGreatDoor
namespace Go.Proofs.YtdjjmppnnkkloaaGreatDoor
open Sy Go
set_option maxRecDepth 100000
set_option linter.unusedSimpArgs false
set_option linter.unusedVariables false
variable {G : Glob}

def addL (l : List Step) (x : Step) (N : Nat → Bool) : Nat → Bool
  | 0 => false
  | q + 1 => match l[q]? with
    | some t => !decide (t.kind = 5) && (N q && ledM t x)
    | none => false
def nxG (l : List Step) (x : Step) (N : Nat → Bool) (i p : Nat) : Bool := (decide (p < i) && (deepAt l p && N p)) || (decide (p ≤ i) && addL l x N p)
def nxF (l : List Step) (x : Step) (N : Nat → Bool) (p : Nat) : Bool := (deepAt l p && N p) || addL l x N p
def goRow (l : List Step) : List Step → (Nat → Bool) → (Nat → Bool)
  | [], N => N
  | x :: tw, N => goRow l tw (sprF l (nxF l x N))
theorem goRow_snoc (l : List Step) (x : Step) : ∀ (tw : List Step) (N : Nat → Bool), goRow l (tw ++ [x]) N = sprF l (nxF l x (goRow l tw N))
  | [], N => rfl
  | y :: tw, N => goRow_snoc l x tw _
def matchM (l tw : List Step) : Bool := goRow l tw (sprF l row0) l.length

theorem nxG_zero (l : List Step) (x : Step) (N : Nat → Bool) (n : Nat) : rowP n (nxG l x N 0) = rowP n fun _ => false := rowP_congr fun p _ => by
  rcases p with _ | p <;> simp [nxG, addL]
theorem nxG_end (l : List Step) (x : Step) (N : Nat → Bool) {i : Nat} (h : l.length ≤ i) : rowP (l.length + 1) (nxG l x N i) = rowP (l.length + 1) (nxF l x N) := rowP_congr fun p hp => by
  by_cases h2 : p < i
  · simp [nxG, nxF, h2, show p ≤ i by omega]
  · have : p = l.length := by omega
    subst this
    simp [nxG, nxF, deepAt, show l.length ≤ i by omega]
theorem nxG_deep {l : List Step} {x t : Step} {N : Nat → Bool} {i n : Nat} (ht : l[i]? = some t) (h : t.kind = 5) : rowP n (fun p => if p = i then nxG l x N i i || N i else nxG l x N i p) = rowP n (nxG l x N (i + 1)) := rowP_congr fun p _ => by
  by_cases h1 : p = i
  · subst h1; simp [nxG, deepAt, ht, h, Bool.or_comm]
  · by_cases h2 : p < i
    · simp [h1, nxG, h2, show p < i + 1 by omega, show p ≤ i by omega, show p ≤ i + 1 by omega]
    · by_cases h3 : p = i + 1
      · subst h3; simp [nxG, addL, ht, h, show ¬ i + 1 < i by omega, show ¬ i + 1 ≤ i by omega]
      · simp [h1, nxG, h2, show ¬ p < i + 1 by omega, show ¬ p ≤ i by omega, show ¬ p ≤ i + 1 by omega]
theorem nxG_lead {l : List Step} {x t : Step} {N : Nat → Bool} {i n : Nat} (ht : l[i]? = some t) (h : ¬ t.kind = 5) : rowP n (fun p => if p = i + 1 then nxG l x N i (i + 1) || (N i && ledM t x) else nxG l x N i p) = rowP n (nxG l x N (i + 1)) := rowP_congr fun p _ => by
  by_cases h3 : p = i + 1
  · subst h3; simp [nxG, addL, ht, h, show ¬ i + 1 < i by omega, show ¬ i + 1 ≤ i by omega]
  · by_cases h1 : p = i
    · subst h1; simp [nxG, deepAt, ht, h]
    · by_cases h2 : p < i
      · simp [h1, h3, nxG, h2, show p < i + 1 by omega, show p ≤ i by omega, show p ≤ i + 1 by omega]
      · simp [h1, h3, nxG, h2, show ¬ p < i + 1 by omega, show ¬ p ≤ i by omega, show ¬ p ≤ i + 1 by omega]

def mS1 (l tw : List Step) (a : Nat) (N : Nat → Bool) : St := ⟨[.p (.sl 3 (l.map Step.enc)), .p (.sl 3 (tw.map Step.enc)), .ptr 2 0, .dead, .dead, .ms 15, .func (.func 95) [] [.ptr 2 0]] ++ List.replicate 15 .dead ++
    [.p (.sl 3 (tw.map Step.enc)), .p (.int .i64 tw.length), .p (.int .i64 a)] ++ List.replicate 60 .dead, [], [(15, .row 4 1 (rowP (l.length + 1) N)), (2, .vars 52 [.p (.sl 3 (l.map Step.enc))])], 0⟩
def mS2 (l tw : List Step) (a : Nat) (x : Step) (N : Nat → Bool) (i : Nat) : St := ⟨[.p (.sl 3 (l.map Step.enc)), .p (.sl 3 (tw.map Step.enc)), .ptr 2 0, .dead, .dead, .ms 15, .func (.func 95) [] [.ptr 2 0], .dead, .ptr 8 0, .ms 31] ++ List.replicate 12 .dead ++
    [.p (.sl 3 (tw.map Step.enc)), .p (.int .i64 tw.length), .p (.int .i64 a)] ++ List.replicate 7 .dead ++ [.p (.sl 3 (l.map Step.enc)), .p (.int .i64 l.length), .p (.int .i64 i)] ++ List.replicate 50 .dead, [],
    [(31, .row 4 1 (rowP (l.length + 1) (nxG l x N i))), (8, .vars 57 [.p (.int .i64 x.kind), .p (.str x.key), .p (.int .i64 x.n)]), (15, .row 4 1 (rowP (l.length + 1) N)), (2, .vars 52 [.p (.sl 3 (l.map Step.enc))])], 0⟩

theorem match_ev (l tw : List Step) (hl : l.length ≤ 1000) (hto : tw.length ≤ 1000) : AFn Tryz.prog G 64 [.sl 3 (l.map Step.enc), .sl 3 (tw.map Step.enc)] (.bool (matchM l tw)) := by
  refine AFn.intro tok Tryz.func64 (by kernel_rfl) rfl ?_
  simp only [Tryz.f64, St.start]
  refine AW.seqRun tok [] (by intro C; conv => lhs; simp) (by simp) ?_ -- r0 {}
  refine AW.seqRun tok [.bool false] (by intro C; conv => lhs; simp) (by omega) ?_ -- r1 {t15:makeSlice}
  refine AW.seqRun tok [.bool false, .bool true] (by intro C; conv => lhs; simp) (by simp) ?_ -- r2 {t17:index; storerow e0 e1}
  refine AW.seqRun tok [] (by intro C; conv => lhs; simp) trivial ?_ -- r3 {}
  refine AW.seqRunX tok 2 [] [] rfl rfl (by intro C; conv => lhs; simp) trivial (y_cx rfl (spread_ev 15 2 l row0 (.inl ⟨rfl, rfl⟩)) (by simp [rep_row]; rfl)) (by intro C; conv => lhs; simp) trivial ?_
  refine AW.seq ?_
  refine AW.seqRun tok [] (by intro C; conv => lhs; simp) trivial ?_ -- r5 {}
  refine AW.block ?_
  -- LOOP
  refine AW.loop (α := Nat) (fun a => a ≤ tw.length) (fun a => mS1 l tw a (goRow l (tw.take a) (sprF l row0))) (fun a => tw.length - a) 0 (by omega) ⟨by simp [mS1], rfl, by simp [mS1, goRow], by simp [mS1]⟩ ?_
  intro a hI
  simp only [mS1]
  refine AW.seqRun tok [] (by intro C; conv => lhs; simp) trivial ?_ -- r6 {}
  refine AW.seq ?_
  refine AW.cond (c := .tmp 25) (by conv => lhs; simp) trivial ?_ ?_
  · intro h1
    simp at h1
    obtain ⟨x, hx⟩ : ∃ x, tw[a]? = some x := ⟨tw[a], by simp [h1]⟩
    have hnext : goRow l (tw.take (a + 1)) (sprF l row0) = sprF l (nxF l x (goRow l (tw.take a) (sprF l row0))) := by
      rw [List.take_add_one, hx]; exact goRow_snoc l x _ _
    generalize goRow l (tw.take a) (sprF l row0) = N at *
    refine AW.skip ?_
    refine AW.seq ?_
    refine AW.block ?_
    refine AW.seqRun tok [x.enc] (by intro C; conv => lhs; simp) (by simp [hx]) ?_ -- r7 {t26:index; t27:load}
    refine AW.seqRun tok [.bool false] (by intro C; conv => lhs; simp) (by omega) ?_ -- r8 {t31:makeSlice}
    refine AW.seq ?_
    refine AW.seqRun tok [] (by intro C; conv => lhs; simp) trivial ?_ -- r9 {}
    refine AW.block ?_
    -- LOOP
    refine AW.loop (α := Nat) (fun i => i ≤ l.length) (fun i => mS2 l tw a x N i) (fun i => l.length - i) 0 (by omega) ⟨by simp [mS2], rfl, by simp [mS2, rep_row, nxG_zero], by simp [mS2]⟩ ?_
    intro i hi
    simp only [mS2]
    refine AW.seqRun tok [] (by intro C; conv => lhs; simp) trivial ?_ -- r10 {}
    refine AW.seq ?_
    refine AW.cond (c := .tmp 35) (by conv => lhs; simp) trivial ?_ ?_
    · intro h2
      simp at h2
      obtain ⟨t, ht⟩ : ∃ t, l[i]? = some t := ⟨l[i], by simp [h2]⟩
      refine AW.skip ?_
      refine AW.seq ?_
      refine AW.block ?_
      refine AW.seqRun tok [t.enc] (by intro C; conv => lhs; simp) (by simp [ht]) ?_ -- r11 {t37:index; t38:load}
      refine AW.seq ?_
      refine AW.seqRun tok [] (by intro C; conv => lhs; simp) trivial ?_ -- r12 {}
      refine AW.cond (c := .tmp 41) (by conv => lhs; simp) trivial ?_ ?_
      · intro h3
        simp at h3
        refine AW.seqRun tok [.bool (nxG l x N i i), .bool (N i), .bool (nxG l x N i i), .bool (nxG l x N i i || N i)] (by intro C; conv => lhs; simp) (by simp +contextual [show i < l.length + 1 by omega]) ?_ -- r13 {t46:index; t47:load; t51:index; t52:load; t54:index; storerow e0 e1}
        refine AW.exit ?_ -- exit 3
        simp
        refine AW.run tok [] (by intro C; conv => lhs; simp) (by omega) ?_ -- r15 {}
        exact ⟨i + 1, by omega, by omega, by simp [mS2], rfl, by simp [mS2, nxG_deep ht h3], by simp [mS2]⟩ -- END OF ROUND
      · intro h3
        simp at h3
        refine AW.skip ?_
        refine AW.run tok [.bool (nxG l x N i (i + 1)), .bool (N i), .tup [t.enc, x.enc], .bool (ledM t x), .bool (nxG l x N i (i + 1)), .bool (nxG l x N i (i + 1) || (N i && ledM t x))] (by intro C; conv => lhs; simp) (by have := leads_ev (G := G) t x; simp +contextual [show i < l.length + 1 by omega, h2] at this ⊢; exact ⟨by omega, by omega, fun _ _ => this, by omega⟩) ?_ -- r14 {t61:index; t62:load; t66:index; t67:load; t71:CALL call f22(t69, t70) args,res; t74:index; storerow e0 e1}
        refine AW.run tok [] (by intro C; conv => lhs; simp) (by omega) ?_ -- r15 {}
        exact ⟨i + 1, by omega, by omega, by simp [mS2], rfl, by simp [mS2, nxG_lead ht h3], by simp [mS2]⟩ -- END OF ROUND
    · intro h2
      simp at h2
      rw [nxG_end l x N h2]
      refine AW.exit ?_ -- exit 2
      simp
      refine AW.runX tok 2 [] [] rfl rfl (by intro C; conv => lhs; simp) trivial (y_cx rfl (spread_ev 31 2 l (nxF l x N) (.inr ⟨rfl, rfl⟩)) (by simp)) (by intro C; conv => lhs; simp) trivial ?_ -- r16 {t78:CALL call t76(t77) args,res}
      refine AW.take 31 15 ?_
      refine AW.run tok [] (by intro C; conv => lhs; simp) (by omega) ?_ -- r17 {}
      exact ⟨a + 1, by omega, by omega, by simp [mS1], rfl, by simp [mS1, hnext], by simp [mS1]⟩ -- END OF ROUND
  · intro h1
    simp at h1
    refine AW.exit ?_ -- exit 0
    simp
    refine AW.seqRun tok [.bool (matchM l tw)] (by intro C; conv => lhs; simp) (by simp [matchM, List.take_of_length_le h1]) ?_ -- r18 {t83:index; t84:load}
    exact AW.ret ⟨.inr rfl, _, _, by (conv => lhs; simp), trivial, by simp⟩
end Go.Proofs.YtdjjmppnnkkloaaGreatDoor
