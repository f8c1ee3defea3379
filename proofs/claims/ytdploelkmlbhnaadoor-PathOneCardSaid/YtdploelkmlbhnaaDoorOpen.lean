/-
  OUR OWN LAYER: WHAT COMES IN IS READ AS PLAIN DATA OF ITS TYPE'S SHAPE.
-/
import Derived.Test.YtdploelkmlbhnaaDoorBridge
namespace Go.Proofs.YtdploelkmlbhnaaDoor.Sy
open Go Go.ChangeShapes Go.WideShapes Go.ChangeAt Go.RowKit

def ShF (sh : TypeId → List PD → Prop) : List (Nat × TypeId) → List PD → Prop
  | [], cs => cs = []
  | p :: fs, cs => ∃ a b, cs = a ++ b ∧ sh p.2 a ∧ ShF sh fs b
def packD (k : TK) (cs : List PD) : PD := if k.agg then .agg cs else match cs with
  | [c] => c
  | _ => .agg cs
/-- Plain cells of a type. -/
def ShC (T : Tab) : Nat → TypeId → List PD → Prop
  | 0, _, _ => False
  | f + 1, t, cs => match T t with
    | some ti => match ti.k with
      | .bool => ∃ b, cs = [.bool b]
      | .int k => ∃ n, cs = [.int k n] ∧ kmin k ≤ n ∧ n ≤ kmax k
      | .str => ∃ s : List UInt8, cs = [.str s] ∧ s.length ≤ maxLen
      | .sl e => match T e with
        | some te => ∃ es : List PD, cs = [.sl te.size es] ∧ es.length ≤ maxLen ∧ ∀ x ∈ es, ∃ cs', x = packD te.k cs' ∧ ShC T f e cs'
        | none => False
      | .st fs => ShF (ShC T f) fs cs
      | _ => False
    | none => False
def tiled (T : Tab) : List (Nat × TypeId) → Nat → Nat → Bool
  | [], o, n => o == n
  | p :: fs, o, n => p.1 == o && (match T p.2 with
    | some ti => tiled T fs (o + ti.size) n
    | none => false)
def okT (T : Tab) : Nat → TypeId → Bool
  | 0, _ => false
  | f + 1, t => match T t with
    | some ti => match ti.k with
      | .bool | .int _ | .str => ti.size == 1
      | .sl e => okT T f e && (ti.size == 1 && match T e with
        | some te => decide (0 < te.size)
        | none => false)
      | .st fs => tiled T fs 0 ti.size && fs.all fun p => okT T f p.2
      | _ => false
    | none => false

/-- Cells of memory that read as plain ones. -/
def RdL (M : FMap) (us : List Value) (cs : List PD) : Prop := us.length = cs.length ∧ ∀ (i : Nat) u d, us[i]? = some u → cs[i]? = some d → Rd M u d ∧ u.oneCell' = true
theorem RdL.nil {M : FMap} : RdL M [] [] := ⟨rfl, fun i u d h => by simp at h⟩
theorem RdL.append {M : FMap} {us vs : List Value} {cs ds : List PD} (h : RdL M us cs) (k : RdL M vs ds) : RdL M (us ++ vs) (cs ++ ds) := by
  refine ⟨by simp [h.1, k.1], fun i u d hu hd => ?_⟩
  rw [List.getElem?_append] at hu hd
  rw [← h.1] at hd
  split at hu
  · rename_i hi; rw [if_pos hi] at hd; exact h.2 i u d hu hd
  · rename_i hi; rw [if_neg hi] at hd; exact k.2 _ u d hu hd
theorem RdL.one {M : FMap} {u : Value} {d : PD} (h : Rd M u d) (k : u.oneCell' = true) : RdL M [u] [d] := by
  refine ⟨rfl, fun i u' d' hu hd => ?_⟩
  cases i with
  | zero => simp at hu hd; subst hu; subst hd; exact ⟨h, k⟩
  | succ i => simp at hu

section
variable {H : Type} {enc : TypeId × Value → H} {P : Program} {W : World} {T : Tab}

theorem cellsOf_tab (hT : TOK P T) {t : TypeId} {ti : TI} (h : T t = some ti) : P.cellsOf t = ti.size := by
  obtain ⟨i, d, hi, _, _, hs, _⟩ := hT.get h
  simp [Program.cellsOf, hi, hs]

theorem sh_fields {n : Nat} {sh : TypeId → List PD → Prop} (hT : TOK P T) {us : List Value} : ∀ (fl : List (Nat × TypeId)) (o m : Nat), tiled T fl o m = true → us.length = m → o ≤ m →
    (∀ p ∈ fl, ∃ y, DataW.trod enc P W 0 (fun _ => true) true n p.2 ((us.drop p.1).take (P.cellsOf p.2)) = some y) →
    (∀ p ∈ fl, ∀ vs y, DataW.trod enc P W 0 (fun _ => true) true n p.2 vs = some y → ∃ cs, sh p.2 cs ∧ RdL (memOf W) vs cs) → ∃ cs, ShF sh fl cs ∧ RdL (memOf W) (us.drop o) cs
  | [], o, m, ht, hl, ho, _, _ => by
    simp only [tiled, beq_iff_eq] at ht
    refine ⟨[], rfl, ?_⟩
    rw [List.drop_eq_nil_of_le (by omega)]; exact .nil
  | p :: fl, o, m, ht, hl, ho, hr, hs => by
    simp only [tiled, Bool.and_eq_true, beq_iff_eq] at ht
    obtain ⟨rfl, ht⟩ := ht
    split at ht
    · rename_i ti hti
      have hc := cellsOf_tab hT hti
      obtain ⟨y, hy⟩ := hr p (by simp)
      obtain ⟨a, ha, hra⟩ := hs p (by simp) _ y hy
      have hle : ∀ (fl : List (Nat × TypeId)) (o m : Nat), tiled T fl o m = true → o ≤ m := by
        intro fl
        induction fl with
        | nil => intro o m h; simp only [tiled, beq_iff_eq] at h; omega
        | cons q fl ih =>
          intro o m h
          simp only [tiled, Bool.and_eq_true] at h
          split at h
          · have := ih _ _ h.2; omega
          · simp at h
      have hle' := hle fl _ _ ht
      obtain ⟨b, hb, hrb⟩ := sh_fields hT fl (p.1 + ti.size) m ht hl hle' (fun q hq => hr q (by simp [hq])) (fun q hq => hs q (by simp [hq]))
      refine ⟨a ++ b, ⟨a, b, rfl, ha, hb⟩, ?_⟩
      have e : us.drop p.1 = (us.drop p.1).take (P.cellsOf p.2) ++ us.drop (p.1 + ti.size) := by
        rw [hc, ← List.drop_drop, List.take_append_drop]
      rw [e]
      exact hra.append hrb
    · cases ht

theorem packD_cells {k : TK} {cs : List PD} (h : k.agg = false → ∃ c, cs = [c] ∧ c.cells = [c]) : (packD k cs).cells = cs := by
  unfold packD
  split
  · rfl
  · rename_i hk
    obtain ⟨c, rfl, hc⟩ := h (by simpa using hk)
    exact hc

theorem open_any (hT : TOK P T) : ∀ (f : Nat) (t : TypeId), okT T f t = true → ∀ (n : Nat) (us : List Value) (y : DataW H × List MemPlace), DataW.trod enc P W 0 (fun _ => true) true n t us = some y →
    ∃ cs, (ShC T f t cs ∧ RdL (memOf W) us cs) ∧ ∀ ti, T t = some ti → us.length = ti.size ∧ (ti.k.agg = false → ∃ c, cs = [c] ∧ c.cells = [c]) := by
  intro f
  induction f with
  | zero => intro t h; cases h
  | succ f ih =>
    intro t hok n us y hy
    simp only [okT] at hok
    split at hok
    case h_2 => cases hok
    rename_i ti hti
    have hsz := cellsOf_tab hT hti
    obtain ⟨inf, d, hi, hd, hdk, his, _⟩ := hT.get hti
    simp only [ShC, hti]
    split at hok
    · rename_i hk
      rw [hk] at hdk
      obtain ⟨b, rfl, _⟩ := DataW.trod_bool (by rw [hd, TK.of_bool hdk]) hy
      refine ⟨[.bool b], ⟨?_, .one (.bool b) rfl⟩, ?_⟩
      · simp
      · intro ti' e; cases e
        exact ⟨by simpa using (beq_iff_eq.1 hok).symm, fun _ => ⟨_, rfl, rfl⟩⟩
    · rename_i k hk
      rw [hk] at hdk
      obtain ⟨m, rfl, _, hw⟩ := DataW.trod_int (by rw [hd, TK.of_int hdk]) hy
      simp [Lit.wf] at hw
      refine ⟨[.int k m], ⟨?_, .one (.int hw.1 hw.2) rfl⟩, ?_⟩
      · exact ⟨m, rfl, by rw [← kmin_eq]; exact hw.1, by rw [← kmax_eq]; exact hw.2⟩
      · intro ti' e; cases e
        exact ⟨by simpa using (beq_iff_eq.1 hok).symm, fun _ => ⟨_, rfl, rfl⟩⟩
    · rename_i hk
      rw [hk] at hdk
      obtain ⟨s, rfl, _, hm⟩ := DataW.trod_string (by rw [hd, TK.of_str hdk]) hy
      refine ⟨[.str s.data.toList], ⟨?_, .one (.str rfl (by rw [Array.length_toList]; exact hm)) rfl⟩, ?_⟩
      · exact ⟨_, rfl, by rw [Array.length_toList]; exact hm⟩
      · intro ti' e; cases e
        exact ⟨by simpa using (beq_iff_eq.1 hok).symm, fun _ => ⟨_, rfl, rfl⟩⟩
    · rename_i e hk
      rw [hk] at hdk
      simp only [Bool.and_eq_true, beq_iff_eq] at hok
      obtain ⟨hok1, hok2, hok3⟩ := hok
      obtain ⟨te, hte, hpos⟩ : ∃ te, T e = some te ∧ 0 < te.size := by
        split at hok3
        · rename_i te hte; exact ⟨te, hte, by simpa using hok3⟩
        · cases hok3
      have hce := cellsOf_tab hT hte
      have hlast : ∀ (c : PD), c.cells = [c] → [Value.nilIface].length = ti.size ∧ (ti.k.agg = false → ∃ c', [c] = [c'] ∧ c'.cells = [c']) := fun c hc =>
        ⟨by rw [hok2]; rfl, fun _ => ⟨c, rfl, hc⟩⟩
      rcases Go.Deep.open_slice (by rw [hd, TK.of_sl hdk]) hy with ⟨rfl, _⟩ | ⟨ad, len, cap, m, n', D, Pl, rfl, _, hl, hm, hmm, _, hel⟩
      · refine ⟨[.sl te.size []], ⟨?_, .one (.sl 0 0 rfl (Nat.le_refl _) (by simp [maxLen]) (fun h => (h rfl).elim) (fun i e h => by simp at h) (fun i e j h => by simp at h) (fun i e j d u h => by simp at h)) rfl⟩, ?_⟩
        · simp [hte]
        · intro ti' e'; cases e'; exact hlast _ rfl
      · have hlm : len ≤ m := by rw [hmm]; simpa using hl
        have each : ∀ i, i < len → ∃ cs : List PD, ShC T f e cs ∧ cs.length = te.size ∧ (packD te.k cs).cells = cs ∧ ∀ j d, cs[j]? = some d → ∃ u, W.cell? ((ad.add (i * te.size)).add j) = some u ∧ Rd (memOf W) u d ∧ u.oneCell' = true := by
          intro i hi
          obtain ⟨vs, hc, htr⟩ := hel i (by omega)
          rw [hce] at hc
          obtain ⟨_, hlen, hcell⟩ := World.cells?_some hc
          obtain ⟨cs, ⟨hsh, hrd⟩, hti'⟩ := ih e hok1 n' vs _ htr
          obtain ⟨h1, h2⟩ := hti' te hte
          refine ⟨cs, hsh, by rw [← hrd.1]; exact h1, packD_cells h2, fun j d hj => ?_⟩
          have hjl : j < vs.length := by rw [hrd.1]; exact (List.getElem?_eq_some_iff.1 hj).1
          have hv : vs[j]? = some vs[j] := by simp [hjl]
          have h3 := hrd.2 j vs[j] d hv hj
          exact ⟨vs[j], by rw [hcell j (by omega)]; exact hv, h3⟩
        obtain ⟨F, hF⟩ := Go.Deep.choose_lt each
        have hspot : len ≠ 0 → ad = ⟨ad.block, ad.off, none⟩ := by
          intro hne
          obtain ⟨_, hlen, _, hc⟩ := hF 0 (by omega)
          obtain ⟨u0, hu0, _⟩ := hc 0 ((F 0)[0]'(by omega)) (by simp [show 0 < (F 0).length by omega])
          simp [Addr.add] at hu0
          unfold World.cell? at hu0
          cases hsp : ad.spot with
          | none => cases ad; simp at hsp; subst hsp; rfl
          | some q => split at hu0 <;> simp [hsp] at hu0
        let es := (List.range len).map fun i => packD te.k (F i)
        have hget : ∀ (i : Nat) x, es[i]? = some x → i < len ∧ x = packD te.k (F i) := by
          intro i x he
          simp only [es] at he
          rw [List.getElem?_map] at he
          obtain ⟨j, hj, rfl⟩ := Option.map_eq_some_iff.1 he
          have hi : i < len := by simpa using (List.getElem?_eq_some_iff.1 hj).1
          simp [hi] at hj
          subst hj
          exact ⟨hi, rfl⟩
        have hadd : ∀ b o i : Nat, (⟨b, o, none⟩ : Addr).add i = ⟨b, o + i, none⟩ := fun b o i => add_eq b o i
        refine ⟨[.sl te.size es], ⟨?_, .one ?_ rfl⟩, ?_⟩
        · simp only [hte]
          refine ⟨es, rfl, by simp only [es, List.length_map, List.length_range]; omega, fun x hx => ?_⟩
          obtain ⟨i, hi, rfl⟩ := List.mem_iff_getElem.1 hx
          obtain ⟨h1, h2⟩ := hget i es[i] (List.getElem?_eq_getElem hi)
          exact ⟨F i, h2, (hF i h1).1⟩
        · refine .sl ad.block ad.off (by simp [es]) hl hm (fun h => by rw [← hspot h]) (fun i x hx => ?_) (fun i x j hx hj => ?_) (fun i x j d u hx hd hu => ?_)
          · obtain ⟨h1, rfl⟩ := hget i x hx
            rw [(hF i h1).2.2.1]; exact (hF i h1).2.1
          · obtain ⟨h1, rfl⟩ := hget i x hx
            obtain ⟨_, hlen, _, hc⟩ := hF i h1
            obtain ⟨u, hu, _, h3⟩ := hc j ((F i)[j]'(by omega)) (by simp [show j < (F i).length by omega])
            rw [hspot (by omega), hadd, hadd] at hu
            exact ⟨u, hu, h3⟩
          · obtain ⟨h1, rfl⟩ := hget i x hx
            obtain ⟨_, hlen, hp, hc⟩ := hF i h1
            rw [hp] at hd
            obtain ⟨u', hu', h2, _⟩ := hc j d hd
            rw [hspot (by omega), hadd, hadd] at hu'
            change W.cell? ⟨ad.block, ad.off + i * te.size + j, none⟩ = some u at hu
            rw [hu'] at hu; cases hu
            exact h2
        · intro ti' e'; cases e'; exact hlast _ rfl
    · rename_i fs hk
      rw [hk] at hdk
      obtain ⟨l, rfl, hl⟩ := TK.of_st hdk
      simp only [Bool.and_eq_true, List.all_eq_true] at hok
      obtain ⟨xs, n', _, _, hlen, hxl, hfs⟩ := DataW.trod_struct hd hy
      rw [hsz] at hlen
      have hf : ∀ p ∈ fs, ∃ z, DataW.trod enc P W 0 (fun _ => true) true n' p.2 ((us.drop p.1).take (P.cellsOf p.2)) = some z := by
        intro p hp
        rw [← hl] at hp
        obtain ⟨fd, hfd, rfl⟩ := List.mem_map.1 hp
        obtain ⟨i, hi, hfi⟩ := List.mem_iff_getElem.1 hfd
        have h1 := hfs i fd (by simp at hi hfi; simp [hi, hfi])
        have hil : i < xs.length := by rw [hxl]; simpa using hi
        exact ⟨xs[i], by rw [h1]; simp [hil]⟩
      obtain ⟨cs, h1, h2⟩ := sh_fields (sh := ShC T f) hT fs 0 ti.size hok.1 hlen (by omega) hf (fun p hp vs z hz => by
        obtain ⟨cs, h, _⟩ := ih p.2 (hok.2 p hp) n' vs z hz
        exact ⟨cs, h⟩)
      rw [List.drop_zero] at h2
      refine ⟨cs, ⟨h1, h2⟩, fun ti' e' => ?_⟩
      cases e'
      exact ⟨hlen, fun h => by rw [hk] at h; cases h⟩
    · cases hok
end
end Go.Proofs.YtdploelkmlbhnaaDoor.Sy
