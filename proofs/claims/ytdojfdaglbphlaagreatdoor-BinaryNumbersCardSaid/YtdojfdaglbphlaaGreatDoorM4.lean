import Derived.Test.YtdojfdaglbphlaaGreatDoorM3
import Derived.Test.YtdojfdaglbphlaaGreatDoorM2
import Derived.WalkKit
import Derived.ProofKit
import Derived.OpenShut
import Derived.Deep.DeepHandedRow
import Derived.Deep.Slices
import Derived.Carry
import Derived.LaidMore
import Derived.Lay
import Derived.Stop.Joined
import Derived.Test.YtdojfdaglbphlaaGreatDoorRows
namespace Go.Proofs.YtdojfdaglbphlaaGreatDoor.Sy
open Go Go.ChangeShapes Go.WideShapes Go.ChangeAt Go.RowKit
def qGU (W : World) : qY := fun b o => W.cell? ⟨b, o, none⟩
section
variable {H : Type} {enc : TypeId × Value → H} {P : Program}
theorem qEW (hl : laidOutB P = true) {W W' : World} {sp : Nat → Bool} : ∀ {ts : List TypeId} {vs : List Value} {ds : List (DataW H)} {p : List MemPlace},
  (∀ t ∈ ts, P.readableRec t = true ∧ t < P.types.size) → DataW.TrodAll enc P W 0 (fun _ => true) true ts vs ds p → (∀ x ∈ p, W.sameAt W' x) → (∀ x ∈ p, sp x.block = true) → DataW.TrodAll enc P W' 0 sp true ts vs ds p
 | [], vs, ds, p, _, h, _, _ => by
  obtain ⟨rfl, rfl, rfl⟩ := trodAll_nil h
  exact trodAll_mk0
 | t :: ts, vs, ds, p, ht, h, hs, hsp => by
  obtain ⟨v, vs', d, ds', p1, q, rfl, rfl, rfl, h1, h2⟩ := trodAll_cons h
  have a := WideElems.Trod_stays hl (ht t (by simp)).1 (ht t (by simp)).2 h1 (fun x hx => hs x (by simp [hx])) (fun x hx => hsp x (by simp [hx]))
  have b := qEW hl (fun t' h' => ht t' (by simp [h'])) h2 (fun x hx => hs x (by simp [hx])) (fun x hx => hsp x (by simp [hx]))
  exact trodAll_cons_mk a b
theorem law_post {f : Func} {s : ChangeSpec} {W W' : World} {args : Array Value} {ds gs : List (DataW H)} {before : List MemPlace} {tb : TypeId} (hW : DataW.Whole enc P f.params.toList s.vars false W args.toList ds gs before)
  (hb : Below W.heap.size W W') (hl : laidOutB P = true) (hr : ∀ t ∈ f.params.toList, P.readableRec t = true ∧ t < P.types.size) (hv : s.vars = []) (hspec : s.fn H (ds ++ gs) = { results := [.lit (.bool true)], args := ds })
  (hrt : f.resultTypes = #[tb]) (htb : P.underlying tb = some .bool) : s.post enc P f false true false false W args (.bool true) W' := by
 have hlt := hW.lt
 have hW' := hW
 obtain ⟨p, q, hA, hV, rfl, hz, hn⟩ := hW
 rw [hv] at hV
 obtain ⟨rfl, rfl⟩ := trodVars_none hV
 simp only [List.append_nil] at hW' hz hlt hspec hn
 have hsame : ∀ x ∈ p, W.sameAt W' x := fun x hx => hb.same (hlt x hx)
 have hargs : ∀ sp : Nat → Bool, (∀ x ∈ p, sp x.block = true) → DataW.TrodAll enc P W' 0 sp true f.params.toList args.toList ds p := fun sp hsp => qEW hl hr hA hsame hsp
 have hres : ∀ (b : Nat) (sp : Nat → Bool) (hd : Bool), DataW.TrodAll enc P W' b sp hd f.resultTypes.toList ((Value.bool true).resultList f.resultTypes.size) [.lit (.bool true)] [] := fun b sp hd => by
  rw [hrt]; exact trodAll_cons_mk (shut_bool htb true) trodAll_mk0
 have hvars : ∀ sp : Nat → Bool, DataW.TrodVars enc P W' sp s.vars [] [] := fun sp => by rw [hv]; exact rfl
 have hold : ∀ x ∈ p, (fun b => decide (b < W.heap.size)) x.block = true := fun x hx => by simpa using hlt x hx
 refine ⟨ds, [], p, [], p, [], hW', ?_, ?_, ?_, World.keptBut_mono (fun x hx => ⟨hx, ?_⟩) (hb.frame (· ∈ p)), fun _ => ?_⟩
 ·simp only [List.append_nil, hspec]; exact hres _ _ _
 ·simp only [List.append_nil, hspec]; exact hargs _ hold
 ·simp only [List.append_nil, hspec]; exact hvars _
 ·exact Or.inr (Or.inl hx)
 ·refine ⟨?_, _, _, ([] ++ p) ++ [], ⟨[] ++ p, [], trodAll_append (hargs _ (fun _ _ => rfl)) (hres _ _ _), hvars _, rfl, ?_, ?_⟩, ?_⟩
  ·intro j t r h1 h2
   rw [hrt] at h1 h2
   cases j with
   | zero => simp [Value.resultList] at h1 h2; subst h1; subst h2; exact okWide_bool_mk htb true
   | succ j => simp at h1
  ·intro b off hp
   have hp' : MemPlace.cell b off ∈ p := by simpa using hp
   rw [hb.frozen (p := ⟨b, off, none⟩) (hlt _ hp')]
   exact hz b off hp'
  ·intro ha; cases ha
  ·intro x hx _
   simpa using hx
end
def ShF (sh : TypeId → List PD → Prop) : List (Nat × TypeId) → List PD → Prop
 | [], cs => cs = []
 | p :: fs, cs => ∃ a b, cs = a ++ b ∧ sh p.2 a ∧ ShF sh fs b
def qBD (k : TK) (cs : List PD) : PD := if k.agg then .agg cs else match cs with
 | [c] => c
 | _ => .agg cs
def ShC (T : Tab) : Nat → TypeId → List PD → Prop
 | 0, _, _ => False
 | f + 1, t, cs => match T t with
  | some ti => match ti.k with
   | .bool => ∃ b, cs = [.bool b]
   | .int k => ∃ n, cs = [.int k n] ∧ kD k ≤ n ∧ n ≤ kE k
   | .str => ∃ s : List UInt8, cs = [.str s] ∧ s.length ≤ 140737488351232
   | .sl e => match T e with
    | some te => ∃ es : List PD, cs = [.sl te.size es] ∧ es.length * te.bytes ≤ 140737488351232 ∧ ∀ x ∈ es, ∃ cs', x = qBD te.k cs' ∧ ShC T f e cs'
    | none => False
   | .st fs => ShF (ShC T f) fs cs
   | _ => False
  | none => False
def qIW (T : Tab) : List (Nat × TypeId) → Nat → Nat → Bool
 | [], o, n => o == n
 | p :: fs, o, n => p.1 == o && (match T p.2 with
  | some ti => qIW T fs (o + ti.size) n
  | none => false)
def okT (T : Tab) : Nat → TypeId → Bool
 | 0, _ => false
 | f + 1, t => match T t with
  | some ti => match ti.k with
   | .bool | .int _ | .str => ti.size == 1
   | .sl e => okT T f e && (ti.size == 1 && match T e with
    | some te => decide (0 < te.size)
    | none => false)
   | .st fs => qIW T fs 0 ti.size && fs.all fun p => okT T f p.2
   | _ => false
  | none => false
def RdL (M : qY) (us : List Value) (cs : List PD) : Prop := us.length = cs.length ∧ ∀ (i : Nat) u d, us[i]? = some u → cs[i]? = some d → Rd M u d ∧ u.oneCell' = true
theorem RdL.nil {M : qY} : RdL M [] [] := ⟨rfl, fun i u d h => by simp at h⟩
theorem RdL.append {M : qY} {us vs : List Value} {cs ds : List PD} (h : RdL M us cs) (k : RdL M vs ds) : RdL M (us ++ vs) (cs ++ ds) := by
 refine ⟨by simp [h.1, k.1], fun i u d hu hd => ?_⟩
 rw [List.getElem?_append] at hu hd
 rw [← h.1] at hd
 split at hu
 ·rename_i hi; rw [if_pos hi] at hd; exact h.2 i u d hu hd
 ·rename_i hi; rw [if_neg hi] at hd; exact k.2 _ u d hu hd
theorem RdL.one {M : qY} {u : Value} {d : PD} (h : Rd M u d) (k : u.oneCell' = true) : RdL M [u] [d] := by
 refine ⟨rfl, fun i u' d' hu hd => ?_⟩
 cases i with
 | zero => simp at hu hd; subst hu; subst hd; exact ⟨h, k⟩
 | succ i => simp at hu
section
variable {H : Type} {enc : TypeId × Value → H} {P : Program} {W : World} {T : Tab}
theorem qDZ (hT : TOK P T) {t : TypeId} {ti : TI} (h : T t = some ti) : P.cellsOf t = ti.size := by
 obtain ⟨i, d, hi, _, _, hs, _⟩ := hT.get h
 simp [Program.cellsOf, hi, hs]
theorem qOM {n : Nat} {sh : TypeId → List PD → Prop} (hT : TOK P T) {us : List Value} : ∀ (fl : List (Nat × TypeId)) (o m : Nat), qIW T fl o m = true → us.length = m → o ≤ m →
  (∀ p ∈ fl, ∃ y, DataW.trod enc P W 0 (fun _ => true) true n p.2 ((us.drop p.1).take (P.cellsOf p.2)) = some y ∧ ∀ x ∈ DataW.weights P p.2 y.1, x ≤ 140737488351232) →
  (∀ p ∈ fl, ∀ vs y, DataW.trod enc P W 0 (fun _ => true) true n p.2 vs = some y → (∀ x ∈ DataW.weights P p.2 y.1, x ≤ 140737488351232) → ∃ cs, sh p.2 cs ∧ RdL (qGU W) vs cs) → ∃ cs, ShF sh fl cs ∧ RdL (qGU W) (us.drop o) cs
 | [], o, m, ht, hl, ho, _, _ => by
  simp only [qIW, beq_iff_eq] at ht
  refine ⟨[], rfl, ?_⟩
  rw [List.drop_eq_nil_of_le (by omega)]; exact .nil
 | p :: fl, o, m, ht, hl, ho, hr, hs => by
  simp only [qIW, Bool.and_eq_true, beq_iff_eq] at ht
  obtain ⟨rfl, ht⟩ := ht
  split at ht
  ·rename_i ti hti
   have hc := qDZ hT hti
   obtain ⟨y, hy, hyw⟩ := hr p (by simp)
   obtain ⟨a, ha, hra⟩ := hs p (by simp) _ y hy hyw
   have hle : ∀ (fl : List (Nat × TypeId)) (o m : Nat), qIW T fl o m = true → o ≤ m := by
    intro fl
    induction fl with
    | nil => intro o m h; simp only [qIW, beq_iff_eq] at h; omega
    | cons q fl ih =>
     intro o m h
     simp only [qIW, Bool.and_eq_true] at h
     split at h
     ·have := ih _ _ h.2; omega
     ·simp at h
   have hle' := hle fl _ _ ht
   obtain ⟨b, hb, hrb⟩ := qOM hT fl (p.1 + ti.size) m ht hl hle' (fun q hq => hr q (by simp [hq])) (fun q hq => hs q (by simp [hq]))
   refine ⟨a ++ b, ⟨a, b, rfl, ha, hb⟩, ?_⟩
   have e : us.drop p.1 = (us.drop p.1).take (P.cellsOf p.2) ++ us.drop (p.1 + ti.size) := by
    rw [hc, ← List.drop_drop, List.take_append_drop]
   rw [e]
   exact hra.append hrb
  ·cases ht
theorem qUJ {k : TK} {cs : List PD} (h : k.agg = false → ∃ c, cs = [c] ∧ c.cells = [c]) : (qBD k cs).cells = cs := by
 unfold qBD
 split
 ·rfl
 ·rename_i hk
  obtain ⟨c, rfl, hc⟩ := h (by simpa using hk)
  exact hc
theorem qDD {P : Program} {e : TypeId} {x : Nat} {d : DataW H} : ∀ {l : List (DataW H)}, d ∈ l → x ∈ DataW.weights P e d → x ∈ DataW.weightsAll P e l
 | a :: l, hd, hx => by
  simp only [DataW.weightsAll, List.mem_append]
  rcases List.mem_cons.1 hd with rfl | hd
  ·exact .inl hx
  ·exact .inr (qDD hd hx)
theorem qCT {P : Program} {x : Nat} : ∀ {ts : List TypeId} {l : List (DataW H)} {i : Nat} {t : TypeId} {d : DataW H}, ts[i]? = some t → l[i]? = some d → x ∈ DataW.weights P t d → x ∈ DataW.weightsEach P ts l
 | t :: ts, a :: l, i, t', d, ht, hd, hx => by
  simp only [DataW.weightsEach, List.mem_append]
  cases i with
  | zero => simp at ht hd; subst ht; subst hd; exact .inl hx
  | succ i => simp at ht hd; exact .inr (qCT ht hd hx)
 | [], _, i, _, _, ht, _, _ => by simp at ht
 | _ :: _, [], i, _, _, _, hd, _ => by simp at hd
theorem qWC (hT : TOK P T) {t : TypeId} {ti : TI} (h : T t = some ti) : P.bytesOf t = ti.bytes := by
 obtain ⟨i, d, hi, _, _, _, hb, _⟩ := hT.get h
 simp [Program.bytesOf, hi, hb]
theorem open_any (hT : TOK P T) : ∀ (f : Nat) (t : TypeId), okT T f t = true → ∀ (n : Nat) (us : List Value) (y : DataW H × List MemPlace), DataW.trod enc P W 0 (fun _ => true) true n t us = some y → (∀ x ∈ DataW.weights P t y.1, x ≤ 140737488351232) →
  ∃ cs, (ShC T f t cs ∧ RdL (qGU W) us cs) ∧ ∀ ti, T t = some ti → us.length = ti.size ∧ (ti.k.agg = false → ∃ c, cs = [c] ∧ c.cells = [c]) := by
 intro f
 induction f with
 | zero => intro t h; cases h
 | succ f ih =>
  intro t hok n us y hy hw
  simp only [okT] at hok
  split at hok
  case h_2 => cases hok
  rename_i ti hti
  have hsz := qDZ hT hti
  obtain ⟨inf, d, hi, hd, hdk, his, _⟩ := hT.get hti
  simp only [ShC, hti]
  split at hok
  ·rename_i hk
   rw [hk] at hdk
   obtain ⟨b, rfl, _⟩ := DataW.trod_bool (by rw [hd, TK.of_bool hdk]) hy
   refine ⟨[.bool b], ⟨?_, .one (.bool b) rfl⟩, ?_⟩
   ·simp
   ·intro ti' e; cases e
    exact ⟨by simpa using (beq_iff_eq.1 hok).symm, fun _ => ⟨_, rfl, rfl⟩⟩
  ·rename_i k hk
   rw [hk] at hdk
   obtain ⟨m, rfl, _, hw⟩ := DataW.trod_int (by rw [hd, TK.of_int hdk]) hy
   simp [Lit.wf] at hw
   refine ⟨[.int k m], ⟨?_, .one (.int hw.1 hw.2) rfl⟩, ?_⟩
   ·exact ⟨m, rfl, by rw [← vB]; exact hw.1, by rw [← xK]; exact hw.2⟩
   ·intro ti' e; cases e
    exact ⟨by simpa using (beq_iff_eq.1 hok).symm, fun _ => ⟨_, rfl, rfl⟩⟩
  ·rename_i hk
   rw [hk] at hdk
   obtain ⟨s, rfl, rfl, hm⟩ := DataW.trod_string (by rw [hd, TK.of_str hdk]) hy
   have hwl := hw s.data.toList.length (by simp [DataW.weights])
   refine ⟨[.str s.data.toList], ⟨?_, .one (.str rfl (by rw [Array.length_toList]; exact hm)) rfl⟩, ?_⟩
   ·exact ⟨_, rfl, hwl⟩
   ·intro ti' e; cases e
    exact ⟨by simpa using (beq_iff_eq.1 hok).symm, fun _ => ⟨_, rfl, rfl⟩⟩
  ·rename_i e hk
   rw [hk] at hdk
   simp only [Bool.and_eq_true, beq_iff_eq] at hok
   obtain ⟨hok1, hok2, hok3⟩ := hok
   obtain ⟨te, hte, hpos⟩ : ∃ te, T e = some te ∧ 0 < te.size := by
    split at hok3
    ·rename_i te hte; exact ⟨te, hte, by simpa using hok3⟩
    ·cases hok3
   have hce := qDZ hT hte
   have hlast : ∀ (c : PD), c.cells = [c] → [Value.nilIface].length = ti.size ∧ (ti.k.agg = false → ∃ c', [c] = [c'] ∧ c'.cells = [c']) := fun c hc =>
    ⟨by rw [hok2]; rfl, fun _ => ⟨c, rfl, hc⟩⟩
   rcases Go.Deep.open_slice (by rw [hd, TK.of_sl hdk]) hy with ⟨rfl, _⟩ | ⟨ad, len, cap, m, n', D, Pl, rfl, _, hl, hm, hmm, hyx, hel⟩
   ·refine ⟨[.sl te.size []], ⟨?_, .one (.sl 0 0 rfl (Nat.le_refl _) (by simp [maxLen]) (fun h => (h rfl).elim) (fun i e h => by simp at h) (fun i e j h => by simp at h) (fun i e j d u h => by simp at h)) rfl⟩, ?_⟩
    ·simp [hte]
    ·intro ti' e'; cases e'; exact hlast _ rfl
   ·have hlm : len ≤ m := by rw [hmm]; simpa using hl
    have hwe : ∀ x, x = (len + (m - len)) * P.bytesOf e ∨ x ∈ DataW.weightsAll P e ((List.range len).map D) → x ≤ 140737488351232 := fun x hx => by
     refine hw x ?_
     rw [hyx]
     simp only [DataW.weights, show P.underlying t = some (.slice e) by rw [hd, TK.of_sl hdk], List.length_map, List.length_range, List.mem_cons, List.mem_append]
     rcases hx with hx | hx
     ·exact .inl hx
     ·exact .inr (.inl hx)
    have hwl := hwe _ (.inl rfl)
    rw [qWC hT hte] at hwl
    have hlen2 : len * te.bytes ≤ 140737488351232 := Nat.le_trans (Nat.mul_le_mul_right _ (Nat.le_add_right _ _)) hwl
    have each : ∀ i, i < len → ∃ cs : List PD, ShC T f e cs ∧ cs.length = te.size ∧ (qBD te.k cs).cells = cs ∧ ∀ j d, cs[j]? = some d → ∃ u, W.cell? ((ad.add (i * te.size)).add j) = some u ∧ Rd (qGU W) u d ∧ u.oneCell' = true := by
     intro i hi
     obtain ⟨vs, hc, htr⟩ := hel i (by omega)
     rw [hce] at hc
     obtain ⟨_, hlen, hcell⟩ := World.cells?_some hc
     obtain ⟨cs, ⟨hsh, hrd⟩, hti'⟩ := ih e hok1 n' vs _ htr fun x hx => hwe x (.inr (qDD (List.mem_map.2 ⟨i, by simpa using hi, rfl⟩) hx))
     obtain ⟨h1, h2⟩ := hti' te hte
     refine ⟨cs, hsh, by rw [← hrd.1]; exact h1, qUJ h2, fun j d hj => ?_⟩
     have hjl : j < vs.length := by rw [hrd.1]; exact (List.getElem?_eq_some_iff.1 hj).1
     have hv : vs[j]? = some vs[j] := by simp [hjl]
     have h3 := hrd.2 j vs[j] d hv hj
     exact ⟨vs[j], by rw [hcell j (by omega)]; exact hv, h3⟩
    obtain ⟨F, hF⟩ := Go.Deep.choose_lt each
    have hspot : len ≠ 0 → ad = ⟨ad.block, ad.off, none⟩ := by
     intro hne
     obtain ⟨_, hlen, _, hc⟩ := hF 0 (by omega)
     obtain ⟨u0, hu0, _⟩ := hc 0 ((F 0)[0]'(by omega)) (by simp [show 0 < (F 0).length by omega])
     simp [Addr.add] at hu0
     unfold World.cell? at hu0
     cases hsp : ad.spot with
     | none => cases ad; simp at hsp; subst hsp; rfl
     | some q => split at hu0 <;> simp [hsp] at hu0
    let es := (List.range len).map fun i => qBD te.k (F i)
    have hget : ∀ (i : Nat) x, es[i]? = some x → i < len ∧ x = qBD te.k (F i) := by
     intro i x he
     simp only [es] at he
     rw [List.getElem?_map] at he
     obtain ⟨j, hj, rfl⟩ := Option.map_eq_some_iff.1 he
     have hi : i < len := by simpa using (List.getElem?_eq_some_iff.1 hj).1
     simp [hi] at hj
     subst hj
     exact ⟨hi, rfl⟩
    have hadd : ∀ b o i : Nat, (⟨b, o, none⟩ : Addr).add i = ⟨b, o + i, none⟩ := fun b o i => jD b o i
    refine ⟨[.sl te.size es], ⟨?_, .one ?_ rfl⟩, ?_⟩
    ·simp only [hte]
     refine ⟨es, rfl, by simp only [es, List.length_map, List.length_range]; exact hlen2, fun x hx => ?_⟩
     obtain ⟨i, hi, rfl⟩ := List.mem_iff_getElem.1 hx
     obtain ⟨h1, h2⟩ := hget i es[i] (List.getElem?_eq_getElem hi)
     exact ⟨F i, h2, (hF i h1).1⟩
    ·refine .sl ad.block ad.off (by simp [es]) hl hm (fun h => by rw [← hspot h]) (fun i x hx => ?_) (fun i x j hx hj => ?_) (fun i x j d u hx hd hu => ?_)
     ·obtain ⟨h1, rfl⟩ := hget i x hx
      rw [(hF i h1).2.2.1]; exact (hF i h1).2.1
     ·obtain ⟨h1, rfl⟩ := hget i x hx
      obtain ⟨_, hlen, _, hc⟩ := hF i h1
      obtain ⟨u, hu, _, h3⟩ := hc j ((F i)[j]'(by omega)) (by simp [show j < (F i).length by omega])
      rw [hspot (by omega), hadd, hadd] at hu
      exact ⟨u, hu, h3⟩
     ·obtain ⟨h1, rfl⟩ := hget i x hx
      obtain ⟨_, hlen, hp, hc⟩ := hF i h1
      rw [hp] at hd
      obtain ⟨u', hu', h2, _⟩ := hc j d hd
      rw [hspot (by omega), hadd, hadd] at hu'
      change W.cell? ⟨ad.block, ad.off + i * te.size + j, none⟩ = some u at hu
      rw [hu'] at hu; cases hu
      exact h2
    ·intro ti' e'; cases e'; exact hlast _ rfl
  ·rename_i fs hk
   rw [hk] at hdk
   obtain ⟨l, rfl, hl⟩ := TK.of_st hdk
   simp only [Bool.and_eq_true, List.all_eq_true] at hok
   obtain ⟨xs, n', _, hyx, hlen, hxl, hfs⟩ := DataW.trod_struct hd hy
   rw [hsz] at hlen
   have hf : ∀ p ∈ fs, ∃ z, DataW.trod enc P W 0 (fun _ => true) true n' p.2 ((us.drop p.1).take (P.cellsOf p.2)) = some z ∧ ∀ x ∈ DataW.weights P p.2 z.1, x ≤ 140737488351232 := by
    intro p hp
    rw [← hl] at hp
    obtain ⟨fd, hfd, rfl⟩ := List.mem_map.1 hp
    obtain ⟨i, hi, hfi⟩ := List.mem_iff_getElem.1 hfd
    have h1 := hfs i fd (by simp at hi hfi; simp [hi, hfi])
    have hil : i < xs.length := by rw [hxl]; simpa using hi
    refine ⟨xs[i], by rw [h1]; simp [hil], fun x hx => hw x ?_⟩
    rw [hyx]
    simp only [DataW.weights, hd]
    have hi' : i < l.size := by simpa using hi
    exact qCT (i := i) (t := fd.type) (d := (xs[i]).1) (by simp at hfi; simp [hi', hfi]) (by simp [hil]) hx
   obtain ⟨cs, h1, h2⟩ := qOM (sh := ShC T f) hT fs 0 ti.size hok.1 hlen (by omega) hf (fun p hp vs z hz hzw => by
    obtain ⟨cs, h, _⟩ := ih p.2 (hok.2 p hp) n' vs z hz hzw
    exact ⟨cs, h⟩)
   rw [List.drop_zero] at h2
   refine ⟨cs, ⟨h1, h2⟩, fun ti' e' => ?_⟩
   cases e'
   exact ⟨hlen, fun h => by rw [hk] at h; cases h⟩
  ·cases hok
end
def ShL (T : Tab) (f : Nat) : List TypeId → List PD → Prop
 | [], ds => ds = []
 | t :: ts, ds => ∃ d ds', ds = d :: ds' ∧ (∃ cs k, zW T t = some k ∧ d = qBD k cs ∧ ShC T f t cs) ∧ ShL T f ts ds'
section
variable {H : Type} {enc : TypeId × Value → H} {P : Program} {W : World} {T : Tab}
theorem qYP (hT : TOK P T) {base : Nat} {t : TypeId} {ti : TI} {v : Value} (ht : T t = some ti) (hk : ti.k = .bool ∨ (∃ k, ti.k = .int k) ∨ ti.k = .str ∨ ∃ e, ti.k = .sl e) (h : Value.okWide P W .any base t v) : v.cells = #[v] := by
 obtain ⟨i, d, _, hd, hdk, _⟩ := hT.get ht
 rcases hk with hk | ⟨k, hk⟩ | hk | ⟨e, hk⟩ <;> rw [hk] at hdk
 ·obtain ⟨b, rfl⟩ := okWide_bool (by rw [hd, TK.of_bool hdk]) h; rfl
 ·obtain ⟨b, rfl⟩ := okWide_int (by rw [hd, TK.of_int hdk]) h; rfl
 ·obtain ⟨b, rfl⟩ := okWide_string (by rw [hd, TK.of_str hdk]) h; rfl
 ·obtain ⟨a, l, c, rfl⟩ := okWide_slice (by rw [hd, TK.of_sl hdk]) h; rfl
theorem qGE (hT : TOK P T) {base f : Nat} : ∀ (ts : List TypeId) (vs : List Value) (ds : List (DataW H)) (p : List MemPlace), (∀ t ∈ ts, okT T f t = true) → DataW.TrodAll enc P W 0 (fun _ => true) true ts vs ds p → (∀ x ∈ DataW.weightsEach P ts ds, x ≤ 140737488351232) →
  (∀ (j : Nat) t v, ts[j]? = some t → vs[j]? = some v → Value.okWide P W .any base t v) → ∃ pds, ShL T f ts pds ∧ vs.length = pds.length ∧ ∀ (i : Nat) u d, vs[i]? = some u → pds[i]? = some d → Rd (qGU W) u d
 | [], vs, ds, p, _, h, _, _ => by
  obtain ⟨rfl, rfl, rfl⟩ := trodAll_nil h
  exact ⟨[], rfl, rfl, fun i u d h => by simp at h⟩
 | t :: ts, vs, ds, p, hok, h, hw, hv => by
  obtain ⟨v, vs', d, ds', p1, q, rfl, rfl, rfl, ⟨n, h1⟩, h2⟩ := trodAll_cons h
  obtain ⟨pds, a1, a2, a3⟩ := qGE hT ts vs' ds' q (fun t h => hok t (by simp [h])) h2 (fun x hx => hw x (by simp [DataW.weightsEach, hx])) (fun j t v h h' => hv (j + 1) t v (by simpa using h) (by simpa using h'))
  have hokt := hok t (by simp)
  obtain ⟨cs, ⟨hsh, hrd⟩, hti⟩ := open_any hT f t hokt n _ _ h1 (fun x hx => hw x (by simp [DataW.weightsEach, hx]))
  have hov := hv 0 t v rfl rfl
  obtain ⟨ti, ht⟩ : ∃ ti, T t = some ti := by
   cases f with
   | zero => cases hokt
   | succ f =>
    cases hx : T t with
    | none => simp [okT, hx] at hokt
    | some ti => exact ⟨ti, rfl⟩
  obtain ⟨hl, hag⟩ := hti ti ht
  have hfirst : Rd (qGU W) v (qBD ti.k cs) := by
   unfold qBD
   split
   ·rename_i hk
    obtain ⟨i, dd, _, hd, hdk, _⟩ := hT.get ht
    have : ∃ fs, dd = .struct fs := by
     cases f with
     | zero => cases hokt
     | succ f =>
      simp only [okT, ht] at hokt
      split at hokt
      ·rename_i e; rw [e] at hk; cases hk
      ·rename_i e; rw [e] at hk; cases hk
      ·rename_i e; rw [e] at hk; cases hk
      ·rename_i e; rw [e] at hk; cases hk
      ·rename_i fs e
       rw [e] at hdk
       obtain ⟨l, rfl, _⟩ := TK.of_st hdk
       exact ⟨l, rfl⟩
      ·cases hokt
    obtain ⟨fs, rfl⟩ := this
    obtain ⟨arr, rfl, _⟩ := okWide_struct hd hov
    refine .agg (by simpa [Value.cells] using hrd.1) (fun i u hu => ?_) (fun i u d hu hd => ?_)
    ·have hi : i < cs.length := by rw [← hrd.1]; simpa [Value.cells] using (Array.getElem?_eq_some_iff.1 hu).1
     exact (hrd.2 i u cs[i] (by simpa [Value.cells] using hu) (by simp [hi])).2
    ·exact (hrd.2 i u d (by simpa [Value.cells] using hu) hd).1
   ·rename_i hk
    obtain ⟨c, rfl, hc⟩ := hag (by simpa using hk)
    have hat : v.cells = #[v] := by
     refine qYP hT ht ?_ hov
     cases f with
     | zero => cases hokt
     | succ f =>
      simp only [okT, ht] at hokt
      split at hokt
      ·exact .inl (by assumption)
      ·exact .inr (.inl ⟨_, by assumption⟩)
      ·exact .inr (.inr (.inl (by assumption)))
      ·exact .inr (.inr (.inr ⟨_, by assumption⟩))
      ·rename_i e; rw [e] at hk; exact (hk rfl).elim
      ·cases hokt
    rw [hat] at hrd
    exact (hrd.2 0 v c (by simp) (by simp)).1
  refine ⟨qBD ti.k cs :: pds, ⟨_, _, rfl, ⟨cs, ti.k, by simp [zW, ht], rfl, hsh⟩, a1⟩, by simp [a2], fun i u d hu hd => ?_⟩
  cases i with
  | zero => simp at hu hd; subst hu; subst hd; exact hfirst
  | succ i => exact a3 i u d (by simpa using hu) (by simpa using hd)
theorem law_call (hT : TOK P T) {G : qS} {f : FuncId} {fn : Func} {s : ChangeSpec} {args : Array Value} {ds gs : List (DataW H)} {before : List MemPlace} {tb : TypeId} {base n : Nat}
  (hval : ∀ (j : Nat) t v, fn.params[j]? = some t → args[j]? = some v → Value.okWide P W .any base t v)
  (hW : DataW.Whole enc P fn.params.toList s.vars false W args.toList ds gs before) (hok : (fn.params.toList.all fun t => okT T n t) = true) (hl : laidOutB P = true) (hr : (fn.params.toList.all fun t => P.readableRec t && decide (t < P.types.size)) = true)
  (hv : s.vars = []) (hspec : ∀ ds : List (DataW H), ds.length = fn.params.size → s.fn H ds = { results := [.lit (.bool true)], args := ds }) (hrt : fn.resultTypes = #[tb]) (htb : P.underlying tb = some .bool)
  (hG : GOK G (qGU W) W) {vt : List TypeId} (hS : (DataW.weightsEach P (fn.params.toList ++ vt) (ds ++ gs)).all (fun x => decide (x ≤ reachBytes)) = true) (hA : ∀ pds, ShL T n fn.params.toList pds → AFn P G f pds (.bool true)) :
  Calls P f args W fun e W' => ∃ v, e = .returned v ∧ s.post enc P fn false true false false W args v W' := by
 have hW' := hW
 obtain ⟨p, q, hA0, hV, rfl, hz, hn⟩ := hW
 have hlen : ds.length = fn.params.size := by
  have key : ∀ (ts : List TypeId) (vs : List Value) (ds : List (DataW H)) (p : List MemPlace), DataW.TrodAll enc P W 0 (fun _ => true) true ts vs ds p → ds.length = ts.length := by
   intro ts
   induction ts with
   | nil => intro vs ds p h; obtain ⟨_, rfl, _⟩ := trodAll_nil h; rfl
   | cons t ts ih => intro vs ds p h; obtain ⟨v, vs', d, ds', p1, q, rfl, rfl, rfl, h1, h2⟩ := trodAll_cons h; simp [ih _ _ _ h2]
  have := key _ _ _ _ hA0
  simpa using this
 have hgs : gs = [] := by rw [hv] at hV; exact (trodVars_none hV).1
 have hws : ∀ x ∈ DataW.weightsEach P fn.params.toList ds, x ≤ 140737488351232 := fun x hx => by
  have key : ∀ (ts ts' : List TypeId) (ds gs : List (DataW H)), x ∈ DataW.weightsEach P ts ds → x ∈ DataW.weightsEach P (ts ++ ts') (ds ++ gs) := by
   intro ts
   induction ts with
   | nil => intro ts' ds gs h; simp [DataW.weightsEach] at h
   | cons t ts ih =>
    intro ts' ds gs h
    cases ds with
    | nil => simp [DataW.weightsEach] at h
    | cons d ds =>
     simp only [DataW.weightsEach, List.cons_append, List.mem_append] at h ⊢
     exact h.imp id (ih ts' ds gs)
  have := List.all_eq_true.1 hS x (key _ _ _ _ hx)
  exact of_decide_eq_true (p := x ≤ reachBytes) this
 obtain ⟨pds, h1, h2, h3⟩ := qGE hT (base := base) (f := n) _ _ _ _ (fun t ht => List.all_eq_true.1 hok t ht) hA0 hws (fun j t v hj hv' => hval j t v (by simpa using hj) (by simpa using hv'))
 refine ((hA pds h1).2 (qGU W) W args hG (fun _ _ _ h => h) (by simpa using h2) (fun i u d hu hd => h3 i u d (by simpa using hu) hd)).mono ?_
 rintro e W' ⟨v, M', rfl, hrd, _, _, _, hb⟩
 cases hrd
 refine ⟨_, rfl, law_post hW' hb hl (fun t ht => ?_) hv ?_ hrt htb⟩
 ·have := List.all_eq_true.1 hr t ht
  simpa using this
 ·rw [hgs, List.append_nil]; exact hspec ds hlen
end
end Go.Proofs.YtdojfdaglbphlaaGreatDoor.Sy
namespace Go.Proofs.YtdojfdaglbphlaaGreatDoor
open Sy
set_option maxRecDepth 100000
def tbl : List (Option TI) := [
 none,
 some ⟨.fn, 1, 8, .p .nilf, true⟩,
 some ⟨.int .i64, 1, 8, .p (.int .i64 0), true⟩,
 some ⟨.int .i64, 1, 8, .p (.int .i64 0), true⟩,
 some ⟨.bool, 1, 1, .p (.bool false), true⟩,
 some ⟨.int .u8, 1, 1, .p (.int .u8 0), true⟩,
 none,
 none,
 none,
 some ⟨.str, 1, 16, .p (.str []), true⟩,
 none,
 none,
 some ⟨.int .u64, 1, 8, .p (.int .u64 0), true⟩,
 none,
 none,
 none,
 none,
 none,
 none,
 none,
 none,
 some ⟨.int .i32, 1, 4, .p (.int .i32 0), true⟩,
 some ⟨.sl 55, 1, 24, .nilsl, true⟩,
 some ⟨.fn, 1, 8, .p .nilf, true⟩,
 some ⟨.int .u64, 1, 8, .p (.int .u64 0), true⟩,
 some ⟨.st [(0, 4), (1, 9), (2, 3)], 3, 32, .agg [.p (.bool false), .p (.str []), .p (.int .i64 0)], true⟩,
 some ⟨.st [(0, 4), (1, 9), (2, 3)], 3, 32, .agg [.p (.bool false), .p (.str []), .p (.int .i64 0)], true⟩,
 some ⟨.sl 9, 1, 24, .nilsl, true⟩,
 some ⟨.sl 31, 1, 24, .nilsl, true⟩,
 some ⟨.int .i64, 1, 8, .p (.int .i64 0), true⟩,
 some ⟨.st [(0, 3), (1, 24), (2, 26), (5, 9), (6, 27), (7, 28), (8, 29)], 9, 120, .agg [.p (.int .i64 0), .p (.int .u64 0), .p (.bool false), .p (.str []), .p (.int .i64 0), .p (.str []), .nilsl, .nilsl, .p (.int .i64 0)], true⟩,
 some ⟨.st [(0, 3), (1, 24), (2, 26), (5, 9), (6, 27), (7, 28), (8, 29)], 9, 120, .agg [.p (.int .i64 0), .p (.int .u64 0), .p (.bool false), .p (.str []), .p (.int .i64 0), .p (.str []), .nilsl, .nilsl, .p (.int .i64 0)], true⟩,
 some ⟨.fn, 1, 8, .p .nilf, true⟩,
 some ⟨.fn, 1, 8, .p .nilf, true⟩,
 some ⟨.fn, 1, 8, .p .nilf, true⟩,
 some ⟨.fn, 1, 8, .p .nilf, true⟩,
 some ⟨.fn, 1, 8, .p .nilf, true⟩,
 some ⟨.fn, 1, 8, .p .nilf, true⟩,
 some ⟨.fn, 1, 8, .p .nilf, true⟩,
 some ⟨.fn, 1, 8, .p .nilf, true⟩,
 some ⟨.st [(0, 22), (1, 22), (2, 22), (3, 22)], 4, 96, .agg [.nilsl, .nilsl, .nilsl, .nilsl], true⟩,
 some ⟨.st [(0, 22), (1, 22), (2, 22), (3, 22)], 4, 96, .agg [.nilsl, .nilsl, .nilsl, .nilsl], true⟩,
 some ⟨.fn, 1, 8, .p .nilf, true⟩,
 some ⟨.fn, 1, 8, .p .nilf, true⟩,
 some ⟨.fn, 1, 8, .p .nilf, true⟩,
 some ⟨.fn, 1, 8, .p .nilf, true⟩,
 none,
 some ⟨.fn, 1, 8, .p .nilf, true⟩,
 some ⟨.fn, 1, 8, .p .nilf, true⟩,
 some ⟨.fn, 1, 8, .p .nilf, true⟩,
 some ⟨.fn, 1, 8, .p .nilf, true⟩,
 some ⟨.fn, 1, 8, .p .nilf, true⟩,
 some ⟨.fn, 1, 8, .p .nilf, true⟩,
 some ⟨.fn, 1, 8, .p .nilf, true⟩,
 some ⟨.st [(0, 3), (1, 3), (2, 24), (3, 9), (4, 9), (5, 27)], 6, 80, .agg [.p (.int .i64 0), .p (.int .i64 0), .p (.int .u64 0), .p (.str []), .p (.str []), .nilsl], true⟩,
 some ⟨.st [(0, 3), (1, 3), (2, 24), (3, 9), (4, 9), (5, 27)], 6, 80, .agg [.p (.int .i64 0), .p (.int .i64 0), .p (.int .u64 0), .p (.str []), .p (.str []), .nilsl], true⟩,
 none,
 some ⟨.fn, 1, 8, .p .nilf, true⟩,
 some ⟨.fn, 1, 8, .p .nilf, true⟩,
 some ⟨.fn, 1, 8, .p .nilf, true⟩,
 some ⟨.fn, 1, 8, .p .nilf, true⟩,
 some ⟨.st [(0, 31), (9, 31), (18, 24), (19, 24)], 20, 256, .agg [.p (.int .i64 0), .p (.int .u64 0), .p (.bool false), .p (.str []), .p (.int .i64 0), .p (.str []), .nilsl, .nilsl, .p (.int .i64 0), .p (.int .i64 0), .p (.int .u64 0), .p (.bool false), .p (.str []), .p (.int .i64 0), .p (.str []), .nilsl, .nilsl, .p (.int .i64 0), .p (.int .u64 0), .p (.int .u64 0)], true⟩,
 some ⟨.st [(0, 31), (9, 31), (18, 24), (19, 24)], 20, 256, .agg [.p (.int .i64 0), .p (.int .u64 0), .p (.bool false), .p (.str []), .p (.int .i64 0), .p (.str []), .nilsl, .nilsl, .p (.int .i64 0), .p (.int .i64 0), .p (.int .u64 0), .p (.bool false), .p (.str []), .p (.int .i64 0), .p (.str []), .nilsl, .nilsl, .p (.int .i64 0), .p (.int .u64 0), .p (.int .u64 0)], true⟩,
 some ⟨.fn, 1, 8, .p .nilf, true⟩,
 some ⟨.fn, 1, 8, .p .nilf, true⟩,
 some ⟨.fn, 1, 8, .p .nilf, true⟩,
 some ⟨.fn, 1, 8, .p .nilf, true⟩,
 some ⟨.fn, 1, 8, .p .nilf, true⟩,
 some ⟨.fn, 1, 8, .p .nilf, true⟩,
 some ⟨.fn, 1, 8, .p .nilf, true⟩,
 some ⟨.fn, 1, 8, .p .nilf, true⟩,
 none,
 some ⟨.fn, 1, 8, .p .nilf, true⟩,
 some ⟨.fn, 1, 8, .p .nilf, true⟩,
 some ⟨.fn, 1, 8, .p .nilf, true⟩,
 some ⟨.fn, 1, 8, .p .nilf, true⟩,
 some ⟨.fn, 1, 8, .p .nilf, true⟩,
 some ⟨.fn, 1, 8, .p .nilf, true⟩,
 some ⟨.fn, 1, 8, .p .nilf, true⟩,
 some ⟨.fn, 1, 8, .p .nilf, true⟩,
 some ⟨.fn, 1, 8, .p .nilf, true⟩,
 some ⟨.fn, 1, 8, .p .nilf, true⟩,
 some ⟨.fn, 1, 8, .p .nilf, true⟩,
 some ⟨.fn, 1, 8, .p .nilf, true⟩,
 some ⟨.fn, 1, 8, .p .nilf, true⟩,
 some ⟨.fn, 1, 8, .p .nilf, true⟩,
 none,
 some ⟨.fn, 1, 8, .p .nilf, true⟩,
 some ⟨.fn, 1, 8, .p .nilf, true⟩,
 some ⟨.fn, 1, 8, .p .nilf, true⟩,
 some ⟨.fn, 1, 8, .p .nilf, true⟩,
 some ⟨.fn, 1, 8, .p .nilf, true⟩,
 some ⟨.fn, 1, 8, .p .nilf, true⟩,
 some ⟨.fn, 1, 8, .p .nilf, true⟩,
 some ⟨.fn, 1, 8, .p .nilf, true⟩,
 some ⟨.fn, 1, 8, .p .nilf, true⟩,
 some ⟨.fn, 1, 8, .p .nilf, true⟩,
 some ⟨.sl 24, 1, 24, .nilsl, true⟩,
 some ⟨.sl 24, 1, 24, .nilsl, true⟩,
 some ⟨.fn, 1, 8, .p .nilf, true⟩,
 some ⟨.fn, 1, 8, .p .nilf, true⟩,
 some ⟨.fn, 1, 8, .p .nilf, true⟩,
 some ⟨.ptr 109, 1, 8, .p .nilp, true⟩,
 some ⟨.fn, 1, 8, .p .nilf, true⟩,
 some ⟨.fn, 1, 8, .p .nilf, true⟩,
 some ⟨.sl 156, 1, 24, .nilsl, true⟩,
 some ⟨.sl 156, 1, 24, .nilsl, true⟩,
 some ⟨.sl 5, 1, 24, .nilsl, true⟩,
 some ⟨.st [(0, 106), (1, 106), (2, 107)], 3, 72, .agg [.nilsl, .nilsl, .nilsl], true⟩,
 some ⟨.st [(0, 106), (1, 106), (2, 107)], 3, 72, .agg [.nilsl, .nilsl, .nilsl], true⟩,
 some ⟨.fn, 1, 8, .p .nilf, true⟩,
 none,
 some ⟨.fn, 1, 8, .p .nilf, true⟩,
 some ⟨.fn, 1, 8, .p .nilf, true⟩,
 some ⟨.fn, 1, 8, .p .nilf, true⟩,
 some ⟨.fn, 1, 8, .p .nilf, true⟩,
 some ⟨.fn, 1, 8, .p .nilf, true⟩,
 some ⟨.fn, 1, 8, .p .nilf, true⟩,
 none,
 some ⟨.fn, 1, 8, .p .nilf, true⟩,
 some ⟨.fn, 1, 8, .p .nilf, true⟩,
 some ⟨.fn, 1, 8, .p .nilf, true⟩,
 some ⟨.fn, 1, 8, .p .nilf, true⟩,
 none,
 some ⟨.fn, 1, 8, .p .nilf, true⟩,
 some ⟨.fn, 1, 8, .p .nilf, true⟩,
 some ⟨.fn, 1, 8, .p .nilf, true⟩,
 some ⟨.fn, 1, 8, .p .nilf, true⟩,
 none,
 some ⟨.fn, 1, 8, .p .nilf, true⟩,
 some ⟨.fn, 1, 8, .p .nilf, true⟩,
 some ⟨.fn, 1, 8, .p .nilf, true⟩,
 some ⟨.fn, 1, 8, .p .nilf, true⟩,
 some ⟨.fn, 1, 8, .p .nilf, true⟩,
 some ⟨.fn, 1, 8, .p .nilf, true⟩,
 some ⟨.ptr 137, 1, 8, .p .nilp, true⟩,
 some ⟨.st [(0, 9), (1, 3), (2, 3), (3, 4), (4, 4), (5, 4)], 6, 40, .agg [.p (.str []), .p (.int .i64 0), .p (.int .i64 0), .p (.bool false), .p (.bool false), .p (.bool false)], true⟩,
 some ⟨.st [(0, 9), (1, 3), (2, 3), (3, 4), (4, 4), (5, 4)], 6, 40, .agg [.p (.str []), .p (.int .i64 0), .p (.int .i64 0), .p (.bool false), .p (.bool false), .p (.bool false)], true⟩,
 some ⟨.fn, 1, 8, .p .nilf, true⟩,
 none,
 some ⟨.fn, 1, 8, .p .nilf, true⟩,
 some ⟨.fn, 1, 8, .p .nilf, true⟩,
 some ⟨.ptr 31, 1, 8, .p .nilp, true⟩,
 some ⟨.fn, 1, 8, .p .nilf, true⟩,
 some ⟨.sl 28, 1, 24, .nilsl, true⟩,
 some ⟨.fn, 1, 8, .p .nilf, true⟩,
 some ⟨.fn, 1, 8, .p .nilf, true⟩,
 none,
 some ⟨.fn, 1, 8, .p .nilf, true⟩,
 some ⟨.fn, 1, 8, .p .nilf, true⟩,
 some ⟨.fn, 1, 8, .p .nilf, true⟩,
 some ⟨.fn, 1, 8, .p .nilf, true⟩,
 some ⟨.fn, 1, 8, .p .nilf, true⟩,
 some ⟨.fn, 1, 8, .p .nilf, true⟩,
 some ⟨.fn, 1, 8, .p .nilf, true⟩,
 some ⟨.fn, 1, 8, .p .nilf, true⟩,
 some ⟨.int .i8, 1, 1, .p (.int .i8 0), true⟩,
 some ⟨.fn, 1, 8, .p .nilf, true⟩,
 some ⟨.int .u64, 1, 8, .p (.int .u64 0), true⟩,
 none,
 some ⟨.fn, 1, 8, .p .nilf, true⟩,
 some ⟨.ptr 163, 1, 8, .p .nilp, true⟩,
 some ⟨.st [(0, 161), (1, 107)], 2, 32, .agg [.p .nilp, .nilsl], true⟩,
 some ⟨.st [(0, 161), (1, 107)], 2, 32, .agg [.p .nilp, .nilsl], true⟩,
 some ⟨.fn, 1, 8, .p .nilf, true⟩,
 none,
 none,
 none,
 some ⟨.fn, 1, 8, .p .nilf, true⟩,
 some ⟨.fn, 1, 8, .p .nilf, true⟩,
 some ⟨.fn, 1, 8, .p .nilf, true⟩,
 some ⟨.fn, 1, 8, .p .nilf, true⟩,
 some ⟨.fn, 1, 8, .p .nilf, true⟩,
 some ⟨.fn, 1, 8, .p .nilf, true⟩,
 some ⟨.fn, 1, 8, .p .nilf, true⟩,
 some ⟨.sl 3, 1, 24, .nilsl, true⟩,
 some ⟨.fn, 1, 8, .p .nilf, true⟩,
 none,
 some ⟨.fn, 1, 8, .p .nilf, true⟩,
 some ⟨.fn, 1, 8, .p .nilf, true⟩,
 none,
 some ⟨.fn, 1, 8, .p .nilf, true⟩,
 none,
 some ⟨.fn, 1, 8, .p .nilf, true⟩,
 some ⟨.fn, 1, 8, .p .nilf, true⟩,
 some ⟨.sl 241, 1, 24, .nilsl, true⟩,
 none,
 some ⟨.fn, 1, 8, .p .nilf, true⟩,
 some ⟨.fn, 1, 8, .p .nilf, true⟩,
 some ⟨.sl 4, 1, 24, .nilsl, true⟩,
 some ⟨.fn, 1, 8, .p .nilf, true⟩,
 some ⟨.fn, 1, 8, .p .nilf, true⟩,
 some ⟨.fn, 1, 8, .p .nilf, true⟩,
 some ⟨.fn, 1, 8, .p .nilf, true⟩,
 some ⟨.fn, 1, 8, .p .nilf, true⟩,
 some ⟨.fn, 1, 8, .p .nilf, true⟩,
 some ⟨.fn, 1, 8, .p .nilf, true⟩,
 some ⟨.ar 256 4, 256, 256, .agg (qX (xI 256 (.bool false))), true⟩,
 some ⟨.ar 256 4, 256, 256, .agg (qX (xI 256 (.bool false))), true⟩,
 none,
 some ⟨.fn, 1, 8, .p .nilf, true⟩,
 some ⟨.fn, 1, 8, .p .nilf, true⟩,
 some ⟨.ptr 198, 1, 8, .p .nilp, true⟩,
 none,
 some ⟨.fn, 1, 8, .p .nilf, true⟩,
 some ⟨.fn, 1, 8, .p .nilf, true⟩,
 none,
 some ⟨.fn, 1, 8, .p .nilf, true⟩,
 some ⟨.int .u32, 1, 4, .p (.int .u32 0), true⟩,
 none,
 some ⟨.fn, 1, 8, .p .nilf, true⟩,
 none,
 some ⟨.fn, 1, 8, .p .nilf, true⟩,
 some ⟨.ptr 5, 1, 8, .p .nilp, true⟩,
 some ⟨.fn, 1, 8, .p .nilf, true⟩,
 some ⟨.ptr 217, 1, 8, .p .nilp, true⟩,
 some ⟨.st [(0, 175), (1, 3), (2, 3), (3, 185), (4, 4)], 5, 72, .agg [.nilsl, .p (.int .i64 0), .p (.int .i64 0), .nilsl, .p (.bool false)], true⟩,
 some ⟨.st [(0, 175), (1, 3), (2, 3), (3, 185), (4, 4)], 5, 72, .agg [.nilsl, .p (.int .i64 0), .p (.int .i64 0), .nilsl, .p (.bool false)], true⟩,
 some ⟨.fn, 1, 8, .p .nilf, true⟩,
 none,
 some ⟨.fn, 1, 8, .p .nilf, true⟩,
 some ⟨.fn, 1, 8, .p .nilf, true⟩,
 some ⟨.ar 24 5, 24, 24, .agg (qX (xI 24 (.int .u8 0))), true⟩,
 some ⟨.fn, 1, 8, .p .nilf, true⟩,
 some ⟨.fn, 1, 8, .p .nilf, true⟩,
 none,
 some ⟨.fn, 1, 8, .p .nilf, true⟩,
 none,
 some ⟨.fn, 1, 8, .p .nilf, true⟩,
 some ⟨.fn, 1, 8, .p .nilf, true⟩,
 some ⟨.fn, 1, 8, .p .nilf, true⟩,
 some ⟨.fn, 1, 8, .p .nilf, true⟩,
 none,
 some ⟨.fn, 1, 8, .p .nilf, true⟩,
 some ⟨.fn, 1, 8, .p .nilf, true⟩,
 some ⟨.fn, 1, 8, .p .nilf, true⟩,
 some ⟨.fn, 1, 8, .p .nilf, true⟩,
 some ⟨.fn, 1, 8, .p .nilf, true⟩,
 some ⟨.fn, 1, 8, .p .nilf, true⟩,
 some ⟨.sl 261, 1, 24, .nilsl, true⟩,
 some ⟨.st [(0, 5), (1, 175), (2, 239), (3, 4)], 4, 64, .agg [.p (.int .u8 0), .nilsl, .nilsl, .p (.bool false)], true⟩,
 some ⟨.st [(0, 5), (1, 175), (2, 239), (3, 4)], 4, 64, .agg [.p (.int .u8 0), .nilsl, .nilsl, .p (.bool false)], true⟩,
 some ⟨.fn, 1, 8, .p .nilf, true⟩,
 some ⟨.fn, 1, 8, .p .nilf, true⟩,
 some ⟨.fn, 1, 8, .p .nilf, true⟩,
 some ⟨.fn, 1, 8, .p .nilf, true⟩,
 some ⟨.fn, 1, 8, .p .nilf, true⟩,
 some ⟨.fn, 1, 8, .p .nilf, true⟩,
 some ⟨.ar 20 24, 20, 160, .agg (qX (xI 20 (.int .u64 0))), true⟩,
 some ⟨.ar 65 5, 65, 65, .agg (qX (xI 65 (.int .u8 0))), true⟩,
 some ⟨.fn, 1, 8, .p .nilf, true⟩,
 some ⟨.fn, 1, 8, .p .nilf, true⟩,
 some ⟨.fn, 1, 8, .p .nilf, true⟩,
 some ⟨.int .i64, 1, 8, .p (.int .i64 0), true⟩,
 none,
 some ⟨.fn, 1, 8, .p .nilf, true⟩,
 some ⟨.fn, 1, 8, .p .nilf, true⟩,
 some ⟨.fn, 1, 8, .p .nilf, true⟩,
 some ⟨.fn, 1, 8, .p .nilf, true⟩,
 some ⟨.fn, 1, 8, .p .nilf, true⟩,
 some ⟨.st [(0, 3), (1, 3)], 2, 16, .agg [.p (.int .i64 0), .p (.int .i64 0)], true⟩,
 some ⟨.st [(0, 3), (1, 3)], 2, 16, .agg [.p (.int .i64 0), .p (.int .i64 0)], true⟩,
 some ⟨.ar 256 5, 256, 256, .agg (qX (xI 256 (.int .u8 0))), true⟩,
 some ⟨.st [(0, 5), (1, 5)], 2, 2, .agg [.p (.int .u8 0), .p (.int .u8 0)], true⟩,
 some ⟨.st [(0, 5), (1, 5)], 2, 2, .agg [.p (.int .u8 0), .p (.int .u8 0)], true⟩,
 some ⟨.ar 16 264, 32, 32, .agg (qX (xI 32 (.int .u8 0))), true⟩,
 some ⟨.fn, 1, 8, .p .nilf, true⟩,
 some ⟨.int .u64, 1, 8, .p (.int .u64 0), true⟩,
 some ⟨.fn, 1, 8, .p .nilf, true⟩,
 some ⟨.fn, 1, 8, .p .nilf, true⟩,
 some ⟨.fn, 1, 8, .p .nilf, true⟩,
 some ⟨.ptr 3, 1, 8, .p .nilp, true⟩,
 some ⟨.fn, 1, 8, .p .nilf, true⟩,
 some ⟨.fn, 1, 8, .p .nilf, true⟩,
 some ⟨.ar 32 5, 32, 32, .agg (qX (xI 32 (.int .u8 0))), true⟩,
 some ⟨.ar 64 5, 64, 64, .agg (qX (xI 64 (.int .u8 0))), true⟩,
 some ⟨.ptr 267, 1, 8, .p .nilp, true⟩,
 some ⟨.fn, 1, 8, .p .nilf, true⟩,
 some ⟨.fn, 1, 8, .p .nilf, true⟩,
 none,
 none,
 none,
 none,
 none,
 none,
 none,
 some ⟨.fn, 1, 8, .p .nilf, true⟩,
 none,
 none,
 none,
 none]
def T : Tab := fun t => (tbl[t]?).getD none
def qZE (P : Program) : Nat → List (Option TI) → Prop
 | _, [] => True
 | k, none :: r => qZE P (k + 1) r
 | k, some ti :: r => qC P k = some ti ∧ qZE P (k + 1) r
theorem qHT {P : Program} : ∀ {l : List (Option TI)} {k : Nat}, qZE P k l → ∀ {i : Nat} {ti : TI}, l[i]? = some (some ti) → qC P (k + i) = some ti
 | [], _, _, i, ti, h => by simp at h
 | none :: r, k, hk, i, ti, h => by
  cases i with
  | zero => simp at h
  | succ i => have := qHT (l := r) (k := k + 1) hk (i := i) (ti := ti) (by simpa using h); rw [← this, show k + (i + 1) = k + 1 + i from by omega]
 | some t0 :: r, k, hk, i, ti, h => by
  cases i with
  | zero => simp at h; subst h; exact hk.1
  | succ i => have := qHT (l := r) (k := k + 1) hk.2 (i := i) (ti := ti) (by simpa using h); rw [← this, show k + (i + 1) = k + 1 + i from by omega]
theorem ti1 : qC Tryz.prog 1 = some ⟨.fn, 1, 8, .p .nilf, true⟩ := by kernel_rfl
theorem ti2 : qC Tryz.prog 2 = some ⟨.int .i64, 1, 8, .p (.int .i64 0), true⟩ := by kernel_rfl
theorem ti3 : qC Tryz.prog 3 = some ⟨.int .i64, 1, 8, .p (.int .i64 0), true⟩ := by kernel_rfl
theorem ti4 : qC Tryz.prog 4 = some ⟨.bool, 1, 1, .p (.bool false), true⟩ := by kernel_rfl
theorem ti5 : qC Tryz.prog 5 = some ⟨.int .u8, 1, 1, .p (.int .u8 0), true⟩ := by kernel_rfl
theorem ti9 : qC Tryz.prog 9 = some ⟨.str, 1, 16, .p (.str []), true⟩ := by kernel_rfl
theorem ti12 : qC Tryz.prog 12 = some ⟨.int .u64, 1, 8, .p (.int .u64 0), true⟩ := by kernel_rfl
theorem ti21 : qC Tryz.prog 21 = some ⟨.int .i32, 1, 4, .p (.int .i32 0), true⟩ := by kernel_rfl
theorem ti22 : qC Tryz.prog 22 = some ⟨.sl 55, 1, 24, .nilsl, true⟩ := by kernel_rfl
theorem ti23 : qC Tryz.prog 23 = some ⟨.fn, 1, 8, .p .nilf, true⟩ := by kernel_rfl
theorem ti24 : qC Tryz.prog 24 = some ⟨.int .u64, 1, 8, .p (.int .u64 0), true⟩ := by kernel_rfl
theorem ti25 : qC Tryz.prog 25 = some ⟨.st [(0, 4), (1, 9), (2, 3)], 3, 32, .agg [.p (.bool false), .p (.str []), .p (.int .i64 0)], true⟩ := by kernel_rfl
theorem ti26 : qC Tryz.prog 26 = some ⟨.st [(0, 4), (1, 9), (2, 3)], 3, 32, .agg [.p (.bool false), .p (.str []), .p (.int .i64 0)], true⟩ := by kernel_rfl
theorem ti27 : qC Tryz.prog 27 = some ⟨.sl 9, 1, 24, .nilsl, true⟩ := by kernel_rfl
theorem ti28 : qC Tryz.prog 28 = some ⟨.sl 31, 1, 24, .nilsl, true⟩ := by kernel_rfl
theorem ti29 : qC Tryz.prog 29 = some ⟨.int .i64, 1, 8, .p (.int .i64 0), true⟩ := by kernel_rfl
theorem ti30 : qC Tryz.prog 30 = some ⟨.st [(0, 3), (1, 24), (2, 26), (5, 9), (6, 27), (7, 28), (8, 29)], 9, 120, .agg [.p (.int .i64 0), .p (.int .u64 0), .p (.bool false), .p (.str []), .p (.int .i64 0), .p (.str []), .nilsl, .nilsl, .p (.int .i64 0)], true⟩ := by kernel_rfl
theorem ti31 : qC Tryz.prog 31 = some ⟨.st [(0, 3), (1, 24), (2, 26), (5, 9), (6, 27), (7, 28), (8, 29)], 9, 120, .agg [.p (.int .i64 0), .p (.int .u64 0), .p (.bool false), .p (.str []), .p (.int .i64 0), .p (.str []), .nilsl, .nilsl, .p (.int .i64 0)], true⟩ := by kernel_rfl
theorem ti32 : qC Tryz.prog 32 = some ⟨.fn, 1, 8, .p .nilf, true⟩ := by kernel_rfl
theorem ti33 : qC Tryz.prog 33 = some ⟨.fn, 1, 8, .p .nilf, true⟩ := by kernel_rfl
theorem ti34 : qC Tryz.prog 34 = some ⟨.fn, 1, 8, .p .nilf, true⟩ := by kernel_rfl
theorem ti35 : qC Tryz.prog 35 = some ⟨.fn, 1, 8, .p .nilf, true⟩ := by kernel_rfl
theorem ti36 : qC Tryz.prog 36 = some ⟨.fn, 1, 8, .p .nilf, true⟩ := by kernel_rfl
theorem ti37 : qC Tryz.prog 37 = some ⟨.fn, 1, 8, .p .nilf, true⟩ := by kernel_rfl
theorem ti38 : qC Tryz.prog 38 = some ⟨.fn, 1, 8, .p .nilf, true⟩ := by kernel_rfl
theorem ti39 : qC Tryz.prog 39 = some ⟨.fn, 1, 8, .p .nilf, true⟩ := by kernel_rfl
theorem ti40 : qC Tryz.prog 40 = some ⟨.st [(0, 22), (1, 22), (2, 22), (3, 22)], 4, 96, .agg [.nilsl, .nilsl, .nilsl, .nilsl], true⟩ := by kernel_rfl
theorem ti41 : qC Tryz.prog 41 = some ⟨.st [(0, 22), (1, 22), (2, 22), (3, 22)], 4, 96, .agg [.nilsl, .nilsl, .nilsl, .nilsl], true⟩ := by kernel_rfl
theorem ti42 : qC Tryz.prog 42 = some ⟨.fn, 1, 8, .p .nilf, true⟩ := by kernel_rfl
theorem ti43 : qC Tryz.prog 43 = some ⟨.fn, 1, 8, .p .nilf, true⟩ := by kernel_rfl
theorem ti44 : qC Tryz.prog 44 = some ⟨.fn, 1, 8, .p .nilf, true⟩ := by kernel_rfl
theorem ti45 : qC Tryz.prog 45 = some ⟨.fn, 1, 8, .p .nilf, true⟩ := by kernel_rfl
theorem ti47 : qC Tryz.prog 47 = some ⟨.fn, 1, 8, .p .nilf, true⟩ := by kernel_rfl
theorem ti48 : qC Tryz.prog 48 = some ⟨.fn, 1, 8, .p .nilf, true⟩ := by kernel_rfl
theorem ti49 : qC Tryz.prog 49 = some ⟨.fn, 1, 8, .p .nilf, true⟩ := by kernel_rfl
theorem ti50 : qC Tryz.prog 50 = some ⟨.fn, 1, 8, .p .nilf, true⟩ := by kernel_rfl
theorem ti51 : qC Tryz.prog 51 = some ⟨.fn, 1, 8, .p .nilf, true⟩ := by kernel_rfl
theorem ti52 : qC Tryz.prog 52 = some ⟨.fn, 1, 8, .p .nilf, true⟩ := by kernel_rfl
theorem ti53 : qC Tryz.prog 53 = some ⟨.fn, 1, 8, .p .nilf, true⟩ := by kernel_rfl
theorem ti54 : qC Tryz.prog 54 = some ⟨.st [(0, 3), (1, 3), (2, 24), (3, 9), (4, 9), (5, 27)], 6, 80, .agg [.p (.int .i64 0), .p (.int .i64 0), .p (.int .u64 0), .p (.str []), .p (.str []), .nilsl], true⟩ := by kernel_rfl
theorem ti55 : qC Tryz.prog 55 = some ⟨.st [(0, 3), (1, 3), (2, 24), (3, 9), (4, 9), (5, 27)], 6, 80, .agg [.p (.int .i64 0), .p (.int .i64 0), .p (.int .u64 0), .p (.str []), .p (.str []), .nilsl], true⟩ := by kernel_rfl
theorem ti57 : qC Tryz.prog 57 = some ⟨.fn, 1, 8, .p .nilf, true⟩ := by kernel_rfl
theorem ti58 : qC Tryz.prog 58 = some ⟨.fn, 1, 8, .p .nilf, true⟩ := by kernel_rfl
theorem ti59 : qC Tryz.prog 59 = some ⟨.fn, 1, 8, .p .nilf, true⟩ := by kernel_rfl
theorem ti60 : qC Tryz.prog 60 = some ⟨.fn, 1, 8, .p .nilf, true⟩ := by kernel_rfl
theorem ti61 : qC Tryz.prog 61 = some ⟨.st [(0, 31), (9, 31), (18, 24), (19, 24)], 20, 256, .agg [.p (.int .i64 0), .p (.int .u64 0), .p (.bool false), .p (.str []), .p (.int .i64 0), .p (.str []), .nilsl, .nilsl, .p (.int .i64 0), .p (.int .i64 0), .p (.int .u64 0), .p (.bool false), .p (.str []), .p (.int .i64 0), .p (.str []), .nilsl, .nilsl, .p (.int .i64 0), .p (.int .u64 0), .p (.int .u64 0)], true⟩ := by kernel_rfl
theorem ti62 : qC Tryz.prog 62 = some ⟨.st [(0, 31), (9, 31), (18, 24), (19, 24)], 20, 256, .agg [.p (.int .i64 0), .p (.int .u64 0), .p (.bool false), .p (.str []), .p (.int .i64 0), .p (.str []), .nilsl, .nilsl, .p (.int .i64 0), .p (.int .i64 0), .p (.int .u64 0), .p (.bool false), .p (.str []), .p (.int .i64 0), .p (.str []), .nilsl, .nilsl, .p (.int .i64 0), .p (.int .u64 0), .p (.int .u64 0)], true⟩ := by kernel_rfl
theorem ti63 : qC Tryz.prog 63 = some ⟨.fn, 1, 8, .p .nilf, true⟩ := by kernel_rfl
theorem ti64 : qC Tryz.prog 64 = some ⟨.fn, 1, 8, .p .nilf, true⟩ := by kernel_rfl
theorem ti65 : qC Tryz.prog 65 = some ⟨.fn, 1, 8, .p .nilf, true⟩ := by kernel_rfl
theorem ti66 : qC Tryz.prog 66 = some ⟨.fn, 1, 8, .p .nilf, true⟩ := by kernel_rfl
theorem ti67 : qC Tryz.prog 67 = some ⟨.fn, 1, 8, .p .nilf, true⟩ := by kernel_rfl
theorem ti68 : qC Tryz.prog 68 = some ⟨.fn, 1, 8, .p .nilf, true⟩ := by kernel_rfl
theorem ti69 : qC Tryz.prog 69 = some ⟨.fn, 1, 8, .p .nilf, true⟩ := by kernel_rfl
theorem ti70 : qC Tryz.prog 70 = some ⟨.fn, 1, 8, .p .nilf, true⟩ := by kernel_rfl
theorem ti72 : qC Tryz.prog 72 = some ⟨.fn, 1, 8, .p .nilf, true⟩ := by kernel_rfl
theorem ti73 : qC Tryz.prog 73 = some ⟨.fn, 1, 8, .p .nilf, true⟩ := by kernel_rfl
theorem ti74 : qC Tryz.prog 74 = some ⟨.fn, 1, 8, .p .nilf, true⟩ := by kernel_rfl
theorem ti75 : qC Tryz.prog 75 = some ⟨.fn, 1, 8, .p .nilf, true⟩ := by kernel_rfl
theorem ti76 : qC Tryz.prog 76 = some ⟨.fn, 1, 8, .p .nilf, true⟩ := by kernel_rfl
theorem ti77 : qC Tryz.prog 77 = some ⟨.fn, 1, 8, .p .nilf, true⟩ := by kernel_rfl
theorem ti78 : qC Tryz.prog 78 = some ⟨.fn, 1, 8, .p .nilf, true⟩ := by kernel_rfl
theorem ti79 : qC Tryz.prog 79 = some ⟨.fn, 1, 8, .p .nilf, true⟩ := by kernel_rfl
theorem ti80 : qC Tryz.prog 80 = some ⟨.fn, 1, 8, .p .nilf, true⟩ := by kernel_rfl
theorem ti81 : qC Tryz.prog 81 = some ⟨.fn, 1, 8, .p .nilf, true⟩ := by kernel_rfl
theorem ti82 : qC Tryz.prog 82 = some ⟨.fn, 1, 8, .p .nilf, true⟩ := by kernel_rfl
theorem ti83 : qC Tryz.prog 83 = some ⟨.fn, 1, 8, .p .nilf, true⟩ := by kernel_rfl
theorem ti84 : qC Tryz.prog 84 = some ⟨.fn, 1, 8, .p .nilf, true⟩ := by kernel_rfl
theorem ti85 : qC Tryz.prog 85 = some ⟨.fn, 1, 8, .p .nilf, true⟩ := by kernel_rfl
theorem ti87 : qC Tryz.prog 87 = some ⟨.fn, 1, 8, .p .nilf, true⟩ := by kernel_rfl
theorem ti88 : qC Tryz.prog 88 = some ⟨.fn, 1, 8, .p .nilf, true⟩ := by kernel_rfl
theorem ti89 : qC Tryz.prog 89 = some ⟨.fn, 1, 8, .p .nilf, true⟩ := by kernel_rfl
theorem ti90 : qC Tryz.prog 90 = some ⟨.fn, 1, 8, .p .nilf, true⟩ := by kernel_rfl
theorem ti91 : qC Tryz.prog 91 = some ⟨.fn, 1, 8, .p .nilf, true⟩ := by kernel_rfl
theorem ti92 : qC Tryz.prog 92 = some ⟨.fn, 1, 8, .p .nilf, true⟩ := by kernel_rfl
theorem ti93 : qC Tryz.prog 93 = some ⟨.fn, 1, 8, .p .nilf, true⟩ := by kernel_rfl
theorem ti94 : qC Tryz.prog 94 = some ⟨.fn, 1, 8, .p .nilf, true⟩ := by kernel_rfl
theorem ti95 : qC Tryz.prog 95 = some ⟨.fn, 1, 8, .p .nilf, true⟩ := by kernel_rfl
theorem ti96 : qC Tryz.prog 96 = some ⟨.fn, 1, 8, .p .nilf, true⟩ := by kernel_rfl
theorem ti97 : qC Tryz.prog 97 = some ⟨.sl 24, 1, 24, .nilsl, true⟩ := by kernel_rfl
theorem ti98 : qC Tryz.prog 98 = some ⟨.sl 24, 1, 24, .nilsl, true⟩ := by kernel_rfl
theorem ti99 : qC Tryz.prog 99 = some ⟨.fn, 1, 8, .p .nilf, true⟩ := by kernel_rfl
theorem ti100 : qC Tryz.prog 100 = some ⟨.fn, 1, 8, .p .nilf, true⟩ := by kernel_rfl
theorem ti101 : qC Tryz.prog 101 = some ⟨.fn, 1, 8, .p .nilf, true⟩ := by kernel_rfl
theorem ti102 : qC Tryz.prog 102 = some ⟨.ptr 109, 1, 8, .p .nilp, true⟩ := by kernel_rfl
theorem ti103 : qC Tryz.prog 103 = some ⟨.fn, 1, 8, .p .nilf, true⟩ := by kernel_rfl
theorem ti104 : qC Tryz.prog 104 = some ⟨.fn, 1, 8, .p .nilf, true⟩ := by kernel_rfl
theorem ti105 : qC Tryz.prog 105 = some ⟨.sl 156, 1, 24, .nilsl, true⟩ := by kernel_rfl
theorem ti106 : qC Tryz.prog 106 = some ⟨.sl 156, 1, 24, .nilsl, true⟩ := by kernel_rfl
theorem ti107 : qC Tryz.prog 107 = some ⟨.sl 5, 1, 24, .nilsl, true⟩ := by kernel_rfl
theorem ti108 : qC Tryz.prog 108 = some ⟨.st [(0, 106), (1, 106), (2, 107)], 3, 72, .agg [.nilsl, .nilsl, .nilsl], true⟩ := by kernel_rfl
theorem ti109 : qC Tryz.prog 109 = some ⟨.st [(0, 106), (1, 106), (2, 107)], 3, 72, .agg [.nilsl, .nilsl, .nilsl], true⟩ := by kernel_rfl
theorem ti110 : qC Tryz.prog 110 = some ⟨.fn, 1, 8, .p .nilf, true⟩ := by kernel_rfl
theorem ti112 : qC Tryz.prog 112 = some ⟨.fn, 1, 8, .p .nilf, true⟩ := by kernel_rfl
theorem ti113 : qC Tryz.prog 113 = some ⟨.fn, 1, 8, .p .nilf, true⟩ := by kernel_rfl
theorem ti114 : qC Tryz.prog 114 = some ⟨.fn, 1, 8, .p .nilf, true⟩ := by kernel_rfl
theorem ti115 : qC Tryz.prog 115 = some ⟨.fn, 1, 8, .p .nilf, true⟩ := by kernel_rfl
theorem ti116 : qC Tryz.prog 116 = some ⟨.fn, 1, 8, .p .nilf, true⟩ := by kernel_rfl
theorem ti117 : qC Tryz.prog 117 = some ⟨.fn, 1, 8, .p .nilf, true⟩ := by kernel_rfl
theorem ti119 : qC Tryz.prog 119 = some ⟨.fn, 1, 8, .p .nilf, true⟩ := by kernel_rfl
theorem ti120 : qC Tryz.prog 120 = some ⟨.fn, 1, 8, .p .nilf, true⟩ := by kernel_rfl
theorem ti121 : qC Tryz.prog 121 = some ⟨.fn, 1, 8, .p .nilf, true⟩ := by kernel_rfl
theorem ti122 : qC Tryz.prog 122 = some ⟨.fn, 1, 8, .p .nilf, true⟩ := by kernel_rfl
theorem ti124 : qC Tryz.prog 124 = some ⟨.fn, 1, 8, .p .nilf, true⟩ := by kernel_rfl
theorem ti125 : qC Tryz.prog 125 = some ⟨.fn, 1, 8, .p .nilf, true⟩ := by kernel_rfl
theorem ti126 : qC Tryz.prog 126 = some ⟨.fn, 1, 8, .p .nilf, true⟩ := by kernel_rfl
theorem ti127 : qC Tryz.prog 127 = some ⟨.fn, 1, 8, .p .nilf, true⟩ := by kernel_rfl
theorem ti129 : qC Tryz.prog 129 = some ⟨.fn, 1, 8, .p .nilf, true⟩ := by kernel_rfl
theorem ti130 : qC Tryz.prog 130 = some ⟨.fn, 1, 8, .p .nilf, true⟩ := by kernel_rfl
theorem ti131 : qC Tryz.prog 131 = some ⟨.fn, 1, 8, .p .nilf, true⟩ := by kernel_rfl
theorem ti132 : qC Tryz.prog 132 = some ⟨.fn, 1, 8, .p .nilf, true⟩ := by kernel_rfl
theorem ti133 : qC Tryz.prog 133 = some ⟨.fn, 1, 8, .p .nilf, true⟩ := by kernel_rfl
theorem ti134 : qC Tryz.prog 134 = some ⟨.fn, 1, 8, .p .nilf, true⟩ := by kernel_rfl
theorem ti135 : qC Tryz.prog 135 = some ⟨.ptr 137, 1, 8, .p .nilp, true⟩ := by kernel_rfl
theorem ti136 : qC Tryz.prog 136 = some ⟨.st [(0, 9), (1, 3), (2, 3), (3, 4), (4, 4), (5, 4)], 6, 40, .agg [.p (.str []), .p (.int .i64 0), .p (.int .i64 0), .p (.bool false), .p (.bool false), .p (.bool false)], true⟩ := by kernel_rfl
theorem ti137 : qC Tryz.prog 137 = some ⟨.st [(0, 9), (1, 3), (2, 3), (3, 4), (4, 4), (5, 4)], 6, 40, .agg [.p (.str []), .p (.int .i64 0), .p (.int .i64 0), .p (.bool false), .p (.bool false), .p (.bool false)], true⟩ := by kernel_rfl
theorem ti138 : qC Tryz.prog 138 = some ⟨.fn, 1, 8, .p .nilf, true⟩ := by kernel_rfl
theorem ti140 : qC Tryz.prog 140 = some ⟨.fn, 1, 8, .p .nilf, true⟩ := by kernel_rfl
theorem ti141 : qC Tryz.prog 141 = some ⟨.fn, 1, 8, .p .nilf, true⟩ := by kernel_rfl
theorem ti142 : qC Tryz.prog 142 = some ⟨.ptr 31, 1, 8, .p .nilp, true⟩ := by kernel_rfl
theorem ti143 : qC Tryz.prog 143 = some ⟨.fn, 1, 8, .p .nilf, true⟩ := by kernel_rfl
theorem ti144 : qC Tryz.prog 144 = some ⟨.sl 28, 1, 24, .nilsl, true⟩ := by kernel_rfl
theorem ti145 : qC Tryz.prog 145 = some ⟨.fn, 1, 8, .p .nilf, true⟩ := by kernel_rfl
theorem ti146 : qC Tryz.prog 146 = some ⟨.fn, 1, 8, .p .nilf, true⟩ := by kernel_rfl
theorem ti148 : qC Tryz.prog 148 = some ⟨.fn, 1, 8, .p .nilf, true⟩ := by kernel_rfl
theorem ti149 : qC Tryz.prog 149 = some ⟨.fn, 1, 8, .p .nilf, true⟩ := by kernel_rfl
theorem ti150 : qC Tryz.prog 150 = some ⟨.fn, 1, 8, .p .nilf, true⟩ := by kernel_rfl
theorem ti151 : qC Tryz.prog 151 = some ⟨.fn, 1, 8, .p .nilf, true⟩ := by kernel_rfl
theorem ti152 : qC Tryz.prog 152 = some ⟨.fn, 1, 8, .p .nilf, true⟩ := by kernel_rfl
theorem ti153 : qC Tryz.prog 153 = some ⟨.fn, 1, 8, .p .nilf, true⟩ := by kernel_rfl
theorem ti154 : qC Tryz.prog 154 = some ⟨.fn, 1, 8, .p .nilf, true⟩ := by kernel_rfl
theorem ti155 : qC Tryz.prog 155 = some ⟨.fn, 1, 8, .p .nilf, true⟩ := by kernel_rfl
theorem ti156 : qC Tryz.prog 156 = some ⟨.int .i8, 1, 1, .p (.int .i8 0), true⟩ := by kernel_rfl
theorem ti157 : qC Tryz.prog 157 = some ⟨.fn, 1, 8, .p .nilf, true⟩ := by kernel_rfl
theorem ti158 : qC Tryz.prog 158 = some ⟨.int .u64, 1, 8, .p (.int .u64 0), true⟩ := by kernel_rfl
theorem ti160 : qC Tryz.prog 160 = some ⟨.fn, 1, 8, .p .nilf, true⟩ := by kernel_rfl
theorem ti161 : qC Tryz.prog 161 = some ⟨.ptr 163, 1, 8, .p .nilp, true⟩ := by kernel_rfl
theorem ti162 : qC Tryz.prog 162 = some ⟨.st [(0, 161), (1, 107)], 2, 32, .agg [.p .nilp, .nilsl], true⟩ := by kernel_rfl
theorem ti163 : qC Tryz.prog 163 = some ⟨.st [(0, 161), (1, 107)], 2, 32, .agg [.p .nilp, .nilsl], true⟩ := by kernel_rfl
theorem ti164 : qC Tryz.prog 164 = some ⟨.fn, 1, 8, .p .nilf, true⟩ := by kernel_rfl
theorem ti168 : qC Tryz.prog 168 = some ⟨.fn, 1, 8, .p .nilf, true⟩ := by kernel_rfl
theorem ti169 : qC Tryz.prog 169 = some ⟨.fn, 1, 8, .p .nilf, true⟩ := by kernel_rfl
theorem ti170 : qC Tryz.prog 170 = some ⟨.fn, 1, 8, .p .nilf, true⟩ := by kernel_rfl
theorem ti171 : qC Tryz.prog 171 = some ⟨.fn, 1, 8, .p .nilf, true⟩ := by kernel_rfl
theorem ti172 : qC Tryz.prog 172 = some ⟨.fn, 1, 8, .p .nilf, true⟩ := by kernel_rfl
theorem ti173 : qC Tryz.prog 173 = some ⟨.fn, 1, 8, .p .nilf, true⟩ := by kernel_rfl
theorem ti174 : qC Tryz.prog 174 = some ⟨.fn, 1, 8, .p .nilf, true⟩ := by kernel_rfl
theorem ti175 : qC Tryz.prog 175 = some ⟨.sl 3, 1, 24, .nilsl, true⟩ := by kernel_rfl
theorem ti176 : qC Tryz.prog 176 = some ⟨.fn, 1, 8, .p .nilf, true⟩ := by kernel_rfl
theorem ti178 : qC Tryz.prog 178 = some ⟨.fn, 1, 8, .p .nilf, true⟩ := by kernel_rfl
theorem ti179 : qC Tryz.prog 179 = some ⟨.fn, 1, 8, .p .nilf, true⟩ := by kernel_rfl
theorem ti181 : qC Tryz.prog 181 = some ⟨.fn, 1, 8, .p .nilf, true⟩ := by kernel_rfl
theorem ti183 : qC Tryz.prog 183 = some ⟨.fn, 1, 8, .p .nilf, true⟩ := by kernel_rfl
theorem ti184 : qC Tryz.prog 184 = some ⟨.fn, 1, 8, .p .nilf, true⟩ := by kernel_rfl
theorem ti185 : qC Tryz.prog 185 = some ⟨.sl 241, 1, 24, .nilsl, true⟩ := by kernel_rfl
theorem ti187 : qC Tryz.prog 187 = some ⟨.fn, 1, 8, .p .nilf, true⟩ := by kernel_rfl
theorem ti188 : qC Tryz.prog 188 = some ⟨.fn, 1, 8, .p .nilf, true⟩ := by kernel_rfl
theorem ti189 : qC Tryz.prog 189 = some ⟨.sl 4, 1, 24, .nilsl, true⟩ := by kernel_rfl
theorem ti190 : qC Tryz.prog 190 = some ⟨.fn, 1, 8, .p .nilf, true⟩ := by kernel_rfl
theorem ti191 : qC Tryz.prog 191 = some ⟨.fn, 1, 8, .p .nilf, true⟩ := by kernel_rfl
theorem ti192 : qC Tryz.prog 192 = some ⟨.fn, 1, 8, .p .nilf, true⟩ := by kernel_rfl
theorem ti193 : qC Tryz.prog 193 = some ⟨.fn, 1, 8, .p .nilf, true⟩ := by kernel_rfl
theorem ti194 : qC Tryz.prog 194 = some ⟨.fn, 1, 8, .p .nilf, true⟩ := by kernel_rfl
theorem ti195 : qC Tryz.prog 195 = some ⟨.fn, 1, 8, .p .nilf, true⟩ := by kernel_rfl
theorem ti196 : qC Tryz.prog 196 = some ⟨.fn, 1, 8, .p .nilf, true⟩ := by kernel_rfl
theorem ti197 : qC Tryz.prog 197 = some ⟨.ar 256 4, 256, 256, .agg (qX (xI 256 (.bool false))), true⟩ := by kernel_rfl
theorem ti198 : qC Tryz.prog 198 = some ⟨.ar 256 4, 256, 256, .agg (qX (xI 256 (.bool false))), true⟩ := by kernel_rfl
theorem ti200 : qC Tryz.prog 200 = some ⟨.fn, 1, 8, .p .nilf, true⟩ := by kernel_rfl
theorem ti201 : qC Tryz.prog 201 = some ⟨.fn, 1, 8, .p .nilf, true⟩ := by kernel_rfl
theorem ti202 : qC Tryz.prog 202 = some ⟨.ptr 198, 1, 8, .p .nilp, true⟩ := by kernel_rfl
theorem ti204 : qC Tryz.prog 204 = some ⟨.fn, 1, 8, .p .nilf, true⟩ := by kernel_rfl
theorem ti205 : qC Tryz.prog 205 = some ⟨.fn, 1, 8, .p .nilf, true⟩ := by kernel_rfl
theorem ti207 : qC Tryz.prog 207 = some ⟨.fn, 1, 8, .p .nilf, true⟩ := by kernel_rfl
theorem ti208 : qC Tryz.prog 208 = some ⟨.int .u32, 1, 4, .p (.int .u32 0), true⟩ := by kernel_rfl
theorem ti210 : qC Tryz.prog 210 = some ⟨.fn, 1, 8, .p .nilf, true⟩ := by kernel_rfl
theorem ti212 : qC Tryz.prog 212 = some ⟨.fn, 1, 8, .p .nilf, true⟩ := by kernel_rfl
theorem ti213 : qC Tryz.prog 213 = some ⟨.ptr 5, 1, 8, .p .nilp, true⟩ := by kernel_rfl
theorem ti214 : qC Tryz.prog 214 = some ⟨.fn, 1, 8, .p .nilf, true⟩ := by kernel_rfl
theorem ti215 : qC Tryz.prog 215 = some ⟨.ptr 217, 1, 8, .p .nilp, true⟩ := by kernel_rfl
theorem ti216 : qC Tryz.prog 216 = some ⟨.st [(0, 175), (1, 3), (2, 3), (3, 185), (4, 4)], 5, 72, .agg [.nilsl, .p (.int .i64 0), .p (.int .i64 0), .nilsl, .p (.bool false)], true⟩ := by kernel_rfl
theorem ti217 : qC Tryz.prog 217 = some ⟨.st [(0, 175), (1, 3), (2, 3), (3, 185), (4, 4)], 5, 72, .agg [.nilsl, .p (.int .i64 0), .p (.int .i64 0), .nilsl, .p (.bool false)], true⟩ := by kernel_rfl
theorem ti218 : qC Tryz.prog 218 = some ⟨.fn, 1, 8, .p .nilf, true⟩ := by kernel_rfl
theorem ti220 : qC Tryz.prog 220 = some ⟨.fn, 1, 8, .p .nilf, true⟩ := by kernel_rfl
theorem ti221 : qC Tryz.prog 221 = some ⟨.fn, 1, 8, .p .nilf, true⟩ := by kernel_rfl
theorem ti222 : qC Tryz.prog 222 = some ⟨.ar 24 5, 24, 24, .agg (qX (xI 24 (.int .u8 0))), true⟩ := by kernel_rfl
theorem ti223 : qC Tryz.prog 223 = some ⟨.fn, 1, 8, .p .nilf, true⟩ := by kernel_rfl
theorem ti224 : qC Tryz.prog 224 = some ⟨.fn, 1, 8, .p .nilf, true⟩ := by kernel_rfl
theorem ti226 : qC Tryz.prog 226 = some ⟨.fn, 1, 8, .p .nilf, true⟩ := by kernel_rfl
theorem ti228 : qC Tryz.prog 228 = some ⟨.fn, 1, 8, .p .nilf, true⟩ := by kernel_rfl
theorem ti229 : qC Tryz.prog 229 = some ⟨.fn, 1, 8, .p .nilf, true⟩ := by kernel_rfl
theorem ti230 : qC Tryz.prog 230 = some ⟨.fn, 1, 8, .p .nilf, true⟩ := by kernel_rfl
theorem ti231 : qC Tryz.prog 231 = some ⟨.fn, 1, 8, .p .nilf, true⟩ := by kernel_rfl
theorem ti233 : qC Tryz.prog 233 = some ⟨.fn, 1, 8, .p .nilf, true⟩ := by kernel_rfl
theorem ti234 : qC Tryz.prog 234 = some ⟨.fn, 1, 8, .p .nilf, true⟩ := by kernel_rfl
theorem ti235 : qC Tryz.prog 235 = some ⟨.fn, 1, 8, .p .nilf, true⟩ := by kernel_rfl
theorem ti236 : qC Tryz.prog 236 = some ⟨.fn, 1, 8, .p .nilf, true⟩ := by kernel_rfl
theorem ti237 : qC Tryz.prog 237 = some ⟨.fn, 1, 8, .p .nilf, true⟩ := by kernel_rfl
theorem ti238 : qC Tryz.prog 238 = some ⟨.fn, 1, 8, .p .nilf, true⟩ := by kernel_rfl
theorem ti239 : qC Tryz.prog 239 = some ⟨.sl 261, 1, 24, .nilsl, true⟩ := by kernel_rfl
theorem ti240 : qC Tryz.prog 240 = some ⟨.st [(0, 5), (1, 175), (2, 239), (3, 4)], 4, 64, .agg [.p (.int .u8 0), .nilsl, .nilsl, .p (.bool false)], true⟩ := by kernel_rfl
theorem ti241 : qC Tryz.prog 241 = some ⟨.st [(0, 5), (1, 175), (2, 239), (3, 4)], 4, 64, .agg [.p (.int .u8 0), .nilsl, .nilsl, .p (.bool false)], true⟩ := by kernel_rfl
theorem ti242 : qC Tryz.prog 242 = some ⟨.fn, 1, 8, .p .nilf, true⟩ := by kernel_rfl
theorem ti243 : qC Tryz.prog 243 = some ⟨.fn, 1, 8, .p .nilf, true⟩ := by kernel_rfl
theorem ti244 : qC Tryz.prog 244 = some ⟨.fn, 1, 8, .p .nilf, true⟩ := by kernel_rfl
theorem ti245 : qC Tryz.prog 245 = some ⟨.fn, 1, 8, .p .nilf, true⟩ := by kernel_rfl
theorem ti246 : qC Tryz.prog 246 = some ⟨.fn, 1, 8, .p .nilf, true⟩ := by kernel_rfl
theorem ti247 : qC Tryz.prog 247 = some ⟨.fn, 1, 8, .p .nilf, true⟩ := by kernel_rfl
theorem ti248 : qC Tryz.prog 248 = some ⟨.ar 20 24, 20, 160, .agg (qX (xI 20 (.int .u64 0))), true⟩ := by kernel_rfl
theorem ti249 : qC Tryz.prog 249 = some ⟨.ar 65 5, 65, 65, .agg (qX (xI 65 (.int .u8 0))), true⟩ := by kernel_rfl
theorem ti250 : qC Tryz.prog 250 = some ⟨.fn, 1, 8, .p .nilf, true⟩ := by kernel_rfl
theorem ti251 : qC Tryz.prog 251 = some ⟨.fn, 1, 8, .p .nilf, true⟩ := by kernel_rfl
theorem ti252 : qC Tryz.prog 252 = some ⟨.fn, 1, 8, .p .nilf, true⟩ := by kernel_rfl
theorem ti253 : qC Tryz.prog 253 = some ⟨.int .i64, 1, 8, .p (.int .i64 0), true⟩ := by kernel_rfl
theorem ti255 : qC Tryz.prog 255 = some ⟨.fn, 1, 8, .p .nilf, true⟩ := by kernel_rfl
theorem ti256 : qC Tryz.prog 256 = some ⟨.fn, 1, 8, .p .nilf, true⟩ := by kernel_rfl
theorem ti257 : qC Tryz.prog 257 = some ⟨.fn, 1, 8, .p .nilf, true⟩ := by kernel_rfl
theorem ti258 : qC Tryz.prog 258 = some ⟨.fn, 1, 8, .p .nilf, true⟩ := by kernel_rfl
theorem ti259 : qC Tryz.prog 259 = some ⟨.fn, 1, 8, .p .nilf, true⟩ := by kernel_rfl
theorem ti260 : qC Tryz.prog 260 = some ⟨.st [(0, 3), (1, 3)], 2, 16, .agg [.p (.int .i64 0), .p (.int .i64 0)], true⟩ := by kernel_rfl
theorem ti261 : qC Tryz.prog 261 = some ⟨.st [(0, 3), (1, 3)], 2, 16, .agg [.p (.int .i64 0), .p (.int .i64 0)], true⟩ := by kernel_rfl
theorem ti262 : qC Tryz.prog 262 = some ⟨.ar 256 5, 256, 256, .agg (qX (xI 256 (.int .u8 0))), true⟩ := by kernel_rfl
theorem ti263 : qC Tryz.prog 263 = some ⟨.st [(0, 5), (1, 5)], 2, 2, .agg [.p (.int .u8 0), .p (.int .u8 0)], true⟩ := by kernel_rfl
theorem ti264 : qC Tryz.prog 264 = some ⟨.st [(0, 5), (1, 5)], 2, 2, .agg [.p (.int .u8 0), .p (.int .u8 0)], true⟩ := by kernel_rfl
theorem ti265 : qC Tryz.prog 265 = some ⟨.ar 16 264, 32, 32, .agg (qX (xI 32 (.int .u8 0))), true⟩ := by kernel_rfl
theorem ti266 : qC Tryz.prog 266 = some ⟨.fn, 1, 8, .p .nilf, true⟩ := by kernel_rfl
theorem ti267 : qC Tryz.prog 267 = some ⟨.int .u64, 1, 8, .p (.int .u64 0), true⟩ := by kernel_rfl
theorem ti268 : qC Tryz.prog 268 = some ⟨.fn, 1, 8, .p .nilf, true⟩ := by kernel_rfl
theorem ti269 : qC Tryz.prog 269 = some ⟨.fn, 1, 8, .p .nilf, true⟩ := by kernel_rfl
theorem ti270 : qC Tryz.prog 270 = some ⟨.fn, 1, 8, .p .nilf, true⟩ := by kernel_rfl
theorem ti271 : qC Tryz.prog 271 = some ⟨.ptr 3, 1, 8, .p .nilp, true⟩ := by kernel_rfl
theorem ti272 : qC Tryz.prog 272 = some ⟨.fn, 1, 8, .p .nilf, true⟩ := by kernel_rfl
theorem ti273 : qC Tryz.prog 273 = some ⟨.fn, 1, 8, .p .nilf, true⟩ := by kernel_rfl
theorem ti274 : qC Tryz.prog 274 = some ⟨.ar 32 5, 32, 32, .agg (qX (xI 32 (.int .u8 0))), true⟩ := by kernel_rfl
theorem ti275 : qC Tryz.prog 275 = some ⟨.ar 64 5, 64, 64, .agg (qX (xI 64 (.int .u8 0))), true⟩ := by kernel_rfl
theorem ti276 : qC Tryz.prog 276 = some ⟨.ptr 267, 1, 8, .p .nilp, true⟩ := by kernel_rfl
theorem ti277 : qC Tryz.prog 277 = some ⟨.fn, 1, 8, .p .nilf, true⟩ := by kernel_rfl
theorem ti278 : qC Tryz.prog 278 = some ⟨.fn, 1, 8, .p .nilf, true⟩ := by kernel_rfl
theorem ti286 : qC Tryz.prog 286 = some ⟨.fn, 1, 8, .p .nilf, true⟩ := by kernel_rfl
@[simp] theorem T_0 : T 0 = none := rfl
@[simp] theorem T_1 : T 1 = some ⟨.fn, 1, 8, .p .nilf, true⟩ := rfl
@[simp] theorem T_2 : T 2 = some ⟨.int .i64, 1, 8, .p (.int .i64 0), true⟩ := rfl
@[simp] theorem T_3 : T 3 = some ⟨.int .i64, 1, 8, .p (.int .i64 0), true⟩ := rfl
@[simp] theorem T_4 : T 4 = some ⟨.bool, 1, 1, .p (.bool false), true⟩ := rfl
@[simp] theorem T_5 : T 5 = some ⟨.int .u8, 1, 1, .p (.int .u8 0), true⟩ := rfl
@[simp] theorem T_6 : T 6 = none := rfl
@[simp] theorem T_7 : T 7 = none := rfl
@[simp] theorem T_8 : T 8 = none := rfl
@[simp] theorem T_9 : T 9 = some ⟨.str, 1, 16, .p (.str []), true⟩ := rfl
@[simp] theorem T_10 : T 10 = none := rfl
@[simp] theorem T_11 : T 11 = none := rfl
@[simp] theorem T_12 : T 12 = some ⟨.int .u64, 1, 8, .p (.int .u64 0), true⟩ := rfl
@[simp] theorem T_13 : T 13 = none := rfl
@[simp] theorem T_14 : T 14 = none := rfl
@[simp] theorem T_15 : T 15 = none := rfl
@[simp] theorem T_16 : T 16 = none := rfl
@[simp] theorem T_17 : T 17 = none := rfl
@[simp] theorem T_18 : T 18 = none := rfl
@[simp] theorem T_19 : T 19 = none := rfl
@[simp] theorem T_20 : T 20 = none := rfl
@[simp] theorem T_21 : T 21 = some ⟨.int .i32, 1, 4, .p (.int .i32 0), true⟩ := rfl
@[simp] theorem T_22 : T 22 = some ⟨.sl 55, 1, 24, .nilsl, true⟩ := rfl
@[simp] theorem T_23 : T 23 = some ⟨.fn, 1, 8, .p .nilf, true⟩ := rfl
@[simp] theorem T_24 : T 24 = some ⟨.int .u64, 1, 8, .p (.int .u64 0), true⟩ := rfl
@[simp] theorem T_25 : T 25 = some ⟨.st [(0, 4), (1, 9), (2, 3)], 3, 32, .agg [.p (.bool false), .p (.str []), .p (.int .i64 0)], true⟩ := rfl
@[simp] theorem T_26 : T 26 = some ⟨.st [(0, 4), (1, 9), (2, 3)], 3, 32, .agg [.p (.bool false), .p (.str []), .p (.int .i64 0)], true⟩ := rfl
@[simp] theorem T_27 : T 27 = some ⟨.sl 9, 1, 24, .nilsl, true⟩ := rfl
@[simp] theorem T_28 : T 28 = some ⟨.sl 31, 1, 24, .nilsl, true⟩ := rfl
@[simp] theorem T_29 : T 29 = some ⟨.int .i64, 1, 8, .p (.int .i64 0), true⟩ := rfl
@[simp] theorem T_30 : T 30 = some ⟨.st [(0, 3), (1, 24), (2, 26), (5, 9), (6, 27), (7, 28), (8, 29)], 9, 120, .agg [.p (.int .i64 0), .p (.int .u64 0), .p (.bool false), .p (.str []), .p (.int .i64 0), .p (.str []), .nilsl, .nilsl, .p (.int .i64 0)], true⟩ := rfl
@[simp] theorem T_31 : T 31 = some ⟨.st [(0, 3), (1, 24), (2, 26), (5, 9), (6, 27), (7, 28), (8, 29)], 9, 120, .agg [.p (.int .i64 0), .p (.int .u64 0), .p (.bool false), .p (.str []), .p (.int .i64 0), .p (.str []), .nilsl, .nilsl, .p (.int .i64 0)], true⟩ := rfl
@[simp] theorem T_32 : T 32 = some ⟨.fn, 1, 8, .p .nilf, true⟩ := rfl
@[simp] theorem T_33 : T 33 = some ⟨.fn, 1, 8, .p .nilf, true⟩ := rfl
@[simp] theorem T_34 : T 34 = some ⟨.fn, 1, 8, .p .nilf, true⟩ := rfl
@[simp] theorem T_35 : T 35 = some ⟨.fn, 1, 8, .p .nilf, true⟩ := rfl
@[simp] theorem T_36 : T 36 = some ⟨.fn, 1, 8, .p .nilf, true⟩ := rfl
@[simp] theorem T_37 : T 37 = some ⟨.fn, 1, 8, .p .nilf, true⟩ := rfl
@[simp] theorem T_38 : T 38 = some ⟨.fn, 1, 8, .p .nilf, true⟩ := rfl
@[simp] theorem T_39 : T 39 = some ⟨.fn, 1, 8, .p .nilf, true⟩ := rfl
@[simp] theorem T_40 : T 40 = some ⟨.st [(0, 22), (1, 22), (2, 22), (3, 22)], 4, 96, .agg [.nilsl, .nilsl, .nilsl, .nilsl], true⟩ := rfl
@[simp] theorem T_41 : T 41 = some ⟨.st [(0, 22), (1, 22), (2, 22), (3, 22)], 4, 96, .agg [.nilsl, .nilsl, .nilsl, .nilsl], true⟩ := rfl
@[simp] theorem T_42 : T 42 = some ⟨.fn, 1, 8, .p .nilf, true⟩ := rfl
@[simp] theorem T_43 : T 43 = some ⟨.fn, 1, 8, .p .nilf, true⟩ := rfl
@[simp] theorem T_44 : T 44 = some ⟨.fn, 1, 8, .p .nilf, true⟩ := rfl
@[simp] theorem T_45 : T 45 = some ⟨.fn, 1, 8, .p .nilf, true⟩ := rfl
@[simp] theorem T_46 : T 46 = none := rfl
@[simp] theorem T_47 : T 47 = some ⟨.fn, 1, 8, .p .nilf, true⟩ := rfl
@[simp] theorem T_48 : T 48 = some ⟨.fn, 1, 8, .p .nilf, true⟩ := rfl
@[simp] theorem T_49 : T 49 = some ⟨.fn, 1, 8, .p .nilf, true⟩ := rfl
@[simp] theorem T_50 : T 50 = some ⟨.fn, 1, 8, .p .nilf, true⟩ := rfl
@[simp] theorem T_51 : T 51 = some ⟨.fn, 1, 8, .p .nilf, true⟩ := rfl
@[simp] theorem T_52 : T 52 = some ⟨.fn, 1, 8, .p .nilf, true⟩ := rfl
@[simp] theorem T_53 : T 53 = some ⟨.fn, 1, 8, .p .nilf, true⟩ := rfl
@[simp] theorem T_54 : T 54 = some ⟨.st [(0, 3), (1, 3), (2, 24), (3, 9), (4, 9), (5, 27)], 6, 80, .agg [.p (.int .i64 0), .p (.int .i64 0), .p (.int .u64 0), .p (.str []), .p (.str []), .nilsl], true⟩ := rfl
@[simp] theorem T_55 : T 55 = some ⟨.st [(0, 3), (1, 3), (2, 24), (3, 9), (4, 9), (5, 27)], 6, 80, .agg [.p (.int .i64 0), .p (.int .i64 0), .p (.int .u64 0), .p (.str []), .p (.str []), .nilsl], true⟩ := rfl
@[simp] theorem T_56 : T 56 = none := rfl
@[simp] theorem T_57 : T 57 = some ⟨.fn, 1, 8, .p .nilf, true⟩ := rfl
@[simp] theorem T_58 : T 58 = some ⟨.fn, 1, 8, .p .nilf, true⟩ := rfl
@[simp] theorem T_59 : T 59 = some ⟨.fn, 1, 8, .p .nilf, true⟩ := rfl
@[simp] theorem T_60 : T 60 = some ⟨.fn, 1, 8, .p .nilf, true⟩ := rfl
@[simp] theorem T_61 : T 61 = some ⟨.st [(0, 31), (9, 31), (18, 24), (19, 24)], 20, 256, .agg [.p (.int .i64 0), .p (.int .u64 0), .p (.bool false), .p (.str []), .p (.int .i64 0), .p (.str []), .nilsl, .nilsl, .p (.int .i64 0), .p (.int .i64 0), .p (.int .u64 0), .p (.bool false), .p (.str []), .p (.int .i64 0), .p (.str []), .nilsl, .nilsl, .p (.int .i64 0), .p (.int .u64 0), .p (.int .u64 0)], true⟩ := rfl
@[simp] theorem T_62 : T 62 = some ⟨.st [(0, 31), (9, 31), (18, 24), (19, 24)], 20, 256, .agg [.p (.int .i64 0), .p (.int .u64 0), .p (.bool false), .p (.str []), .p (.int .i64 0), .p (.str []), .nilsl, .nilsl, .p (.int .i64 0), .p (.int .i64 0), .p (.int .u64 0), .p (.bool false), .p (.str []), .p (.int .i64 0), .p (.str []), .nilsl, .nilsl, .p (.int .i64 0), .p (.int .u64 0), .p (.int .u64 0)], true⟩ := rfl
@[simp] theorem T_63 : T 63 = some ⟨.fn, 1, 8, .p .nilf, true⟩ := rfl
@[simp] theorem T_64 : T 64 = some ⟨.fn, 1, 8, .p .nilf, true⟩ := rfl
@[simp] theorem T_65 : T 65 = some ⟨.fn, 1, 8, .p .nilf, true⟩ := rfl
@[simp] theorem T_66 : T 66 = some ⟨.fn, 1, 8, .p .nilf, true⟩ := rfl
@[simp] theorem T_67 : T 67 = some ⟨.fn, 1, 8, .p .nilf, true⟩ := rfl
@[simp] theorem T_68 : T 68 = some ⟨.fn, 1, 8, .p .nilf, true⟩ := rfl
@[simp] theorem T_69 : T 69 = some ⟨.fn, 1, 8, .p .nilf, true⟩ := rfl
@[simp] theorem T_70 : T 70 = some ⟨.fn, 1, 8, .p .nilf, true⟩ := rfl
@[simp] theorem T_71 : T 71 = none := rfl
@[simp] theorem T_72 : T 72 = some ⟨.fn, 1, 8, .p .nilf, true⟩ := rfl
@[simp] theorem T_73 : T 73 = some ⟨.fn, 1, 8, .p .nilf, true⟩ := rfl
@[simp] theorem T_74 : T 74 = some ⟨.fn, 1, 8, .p .nilf, true⟩ := rfl
@[simp] theorem T_75 : T 75 = some ⟨.fn, 1, 8, .p .nilf, true⟩ := rfl
@[simp] theorem T_76 : T 76 = some ⟨.fn, 1, 8, .p .nilf, true⟩ := rfl
@[simp] theorem T_77 : T 77 = some ⟨.fn, 1, 8, .p .nilf, true⟩ := rfl
@[simp] theorem T_78 : T 78 = some ⟨.fn, 1, 8, .p .nilf, true⟩ := rfl
@[simp] theorem T_79 : T 79 = some ⟨.fn, 1, 8, .p .nilf, true⟩ := rfl
@[simp] theorem T_80 : T 80 = some ⟨.fn, 1, 8, .p .nilf, true⟩ := rfl
@[simp] theorem T_81 : T 81 = some ⟨.fn, 1, 8, .p .nilf, true⟩ := rfl
@[simp] theorem T_82 : T 82 = some ⟨.fn, 1, 8, .p .nilf, true⟩ := rfl
@[simp] theorem T_83 : T 83 = some ⟨.fn, 1, 8, .p .nilf, true⟩ := rfl
@[simp] theorem T_84 : T 84 = some ⟨.fn, 1, 8, .p .nilf, true⟩ := rfl
@[simp] theorem T_85 : T 85 = some ⟨.fn, 1, 8, .p .nilf, true⟩ := rfl
@[simp] theorem T_86 : T 86 = none := rfl
@[simp] theorem T_87 : T 87 = some ⟨.fn, 1, 8, .p .nilf, true⟩ := rfl
@[simp] theorem T_88 : T 88 = some ⟨.fn, 1, 8, .p .nilf, true⟩ := rfl
@[simp] theorem T_89 : T 89 = some ⟨.fn, 1, 8, .p .nilf, true⟩ := rfl
@[simp] theorem T_90 : T 90 = some ⟨.fn, 1, 8, .p .nilf, true⟩ := rfl
@[simp] theorem T_91 : T 91 = some ⟨.fn, 1, 8, .p .nilf, true⟩ := rfl
@[simp] theorem T_92 : T 92 = some ⟨.fn, 1, 8, .p .nilf, true⟩ := rfl
@[simp] theorem T_93 : T 93 = some ⟨.fn, 1, 8, .p .nilf, true⟩ := rfl
@[simp] theorem T_94 : T 94 = some ⟨.fn, 1, 8, .p .nilf, true⟩ := rfl
@[simp] theorem T_95 : T 95 = some ⟨.fn, 1, 8, .p .nilf, true⟩ := rfl
@[simp] theorem T_96 : T 96 = some ⟨.fn, 1, 8, .p .nilf, true⟩ := rfl
@[simp] theorem T_97 : T 97 = some ⟨.sl 24, 1, 24, .nilsl, true⟩ := rfl
@[simp] theorem T_98 : T 98 = some ⟨.sl 24, 1, 24, .nilsl, true⟩ := rfl
@[simp] theorem T_99 : T 99 = some ⟨.fn, 1, 8, .p .nilf, true⟩ := rfl
@[simp] theorem T_100 : T 100 = some ⟨.fn, 1, 8, .p .nilf, true⟩ := rfl
@[simp] theorem T_101 : T 101 = some ⟨.fn, 1, 8, .p .nilf, true⟩ := rfl
@[simp] theorem T_102 : T 102 = some ⟨.ptr 109, 1, 8, .p .nilp, true⟩ := rfl
@[simp] theorem T_103 : T 103 = some ⟨.fn, 1, 8, .p .nilf, true⟩ := rfl
@[simp] theorem T_104 : T 104 = some ⟨.fn, 1, 8, .p .nilf, true⟩ := rfl
@[simp] theorem T_105 : T 105 = some ⟨.sl 156, 1, 24, .nilsl, true⟩ := rfl
@[simp] theorem T_106 : T 106 = some ⟨.sl 156, 1, 24, .nilsl, true⟩ := rfl
@[simp] theorem T_107 : T 107 = some ⟨.sl 5, 1, 24, .nilsl, true⟩ := rfl
@[simp] theorem T_108 : T 108 = some ⟨.st [(0, 106), (1, 106), (2, 107)], 3, 72, .agg [.nilsl, .nilsl, .nilsl], true⟩ := rfl
@[simp] theorem T_109 : T 109 = some ⟨.st [(0, 106), (1, 106), (2, 107)], 3, 72, .agg [.nilsl, .nilsl, .nilsl], true⟩ := rfl
@[simp] theorem T_110 : T 110 = some ⟨.fn, 1, 8, .p .nilf, true⟩ := rfl
@[simp] theorem T_111 : T 111 = none := rfl
@[simp] theorem T_112 : T 112 = some ⟨.fn, 1, 8, .p .nilf, true⟩ := rfl
@[simp] theorem T_113 : T 113 = some ⟨.fn, 1, 8, .p .nilf, true⟩ := rfl
@[simp] theorem T_114 : T 114 = some ⟨.fn, 1, 8, .p .nilf, true⟩ := rfl
@[simp] theorem T_115 : T 115 = some ⟨.fn, 1, 8, .p .nilf, true⟩ := rfl
@[simp] theorem T_116 : T 116 = some ⟨.fn, 1, 8, .p .nilf, true⟩ := rfl
@[simp] theorem T_117 : T 117 = some ⟨.fn, 1, 8, .p .nilf, true⟩ := rfl
@[simp] theorem T_118 : T 118 = none := rfl
@[simp] theorem T_119 : T 119 = some ⟨.fn, 1, 8, .p .nilf, true⟩ := rfl
@[simp] theorem T_120 : T 120 = some ⟨.fn, 1, 8, .p .nilf, true⟩ := rfl
@[simp] theorem T_121 : T 121 = some ⟨.fn, 1, 8, .p .nilf, true⟩ := rfl
@[simp] theorem T_122 : T 122 = some ⟨.fn, 1, 8, .p .nilf, true⟩ := rfl
@[simp] theorem T_123 : T 123 = none := rfl
@[simp] theorem T_124 : T 124 = some ⟨.fn, 1, 8, .p .nilf, true⟩ := rfl
@[simp] theorem T_125 : T 125 = some ⟨.fn, 1, 8, .p .nilf, true⟩ := rfl
@[simp] theorem T_126 : T 126 = some ⟨.fn, 1, 8, .p .nilf, true⟩ := rfl
@[simp] theorem T_127 : T 127 = some ⟨.fn, 1, 8, .p .nilf, true⟩ := rfl
@[simp] theorem T_128 : T 128 = none := rfl
@[simp] theorem T_129 : T 129 = some ⟨.fn, 1, 8, .p .nilf, true⟩ := rfl
@[simp] theorem T_130 : T 130 = some ⟨.fn, 1, 8, .p .nilf, true⟩ := rfl
@[simp] theorem T_131 : T 131 = some ⟨.fn, 1, 8, .p .nilf, true⟩ := rfl
@[simp] theorem T_132 : T 132 = some ⟨.fn, 1, 8, .p .nilf, true⟩ := rfl
@[simp] theorem T_133 : T 133 = some ⟨.fn, 1, 8, .p .nilf, true⟩ := rfl
@[simp] theorem T_134 : T 134 = some ⟨.fn, 1, 8, .p .nilf, true⟩ := rfl
@[simp] theorem T_135 : T 135 = some ⟨.ptr 137, 1, 8, .p .nilp, true⟩ := rfl
@[simp] theorem T_136 : T 136 = some ⟨.st [(0, 9), (1, 3), (2, 3), (3, 4), (4, 4), (5, 4)], 6, 40, .agg [.p (.str []), .p (.int .i64 0), .p (.int .i64 0), .p (.bool false), .p (.bool false), .p (.bool false)], true⟩ := rfl
@[simp] theorem T_137 : T 137 = some ⟨.st [(0, 9), (1, 3), (2, 3), (3, 4), (4, 4), (5, 4)], 6, 40, .agg [.p (.str []), .p (.int .i64 0), .p (.int .i64 0), .p (.bool false), .p (.bool false), .p (.bool false)], true⟩ := rfl
@[simp] theorem T_138 : T 138 = some ⟨.fn, 1, 8, .p .nilf, true⟩ := rfl
@[simp] theorem T_139 : T 139 = none := rfl
@[simp] theorem T_140 : T 140 = some ⟨.fn, 1, 8, .p .nilf, true⟩ := rfl
@[simp] theorem T_141 : T 141 = some ⟨.fn, 1, 8, .p .nilf, true⟩ := rfl
@[simp] theorem T_142 : T 142 = some ⟨.ptr 31, 1, 8, .p .nilp, true⟩ := rfl
@[simp] theorem T_143 : T 143 = some ⟨.fn, 1, 8, .p .nilf, true⟩ := rfl
@[simp] theorem T_144 : T 144 = some ⟨.sl 28, 1, 24, .nilsl, true⟩ := rfl
@[simp] theorem T_145 : T 145 = some ⟨.fn, 1, 8, .p .nilf, true⟩ := rfl
@[simp] theorem T_146 : T 146 = some ⟨.fn, 1, 8, .p .nilf, true⟩ := rfl
@[simp] theorem T_147 : T 147 = none := rfl
@[simp] theorem T_148 : T 148 = some ⟨.fn, 1, 8, .p .nilf, true⟩ := rfl
@[simp] theorem T_149 : T 149 = some ⟨.fn, 1, 8, .p .nilf, true⟩ := rfl
@[simp] theorem T_150 : T 150 = some ⟨.fn, 1, 8, .p .nilf, true⟩ := rfl
@[simp] theorem T_151 : T 151 = some ⟨.fn, 1, 8, .p .nilf, true⟩ := rfl
@[simp] theorem T_152 : T 152 = some ⟨.fn, 1, 8, .p .nilf, true⟩ := rfl
@[simp] theorem T_153 : T 153 = some ⟨.fn, 1, 8, .p .nilf, true⟩ := rfl
@[simp] theorem T_154 : T 154 = some ⟨.fn, 1, 8, .p .nilf, true⟩ := rfl
@[simp] theorem T_155 : T 155 = some ⟨.fn, 1, 8, .p .nilf, true⟩ := rfl
@[simp] theorem T_156 : T 156 = some ⟨.int .i8, 1, 1, .p (.int .i8 0), true⟩ := rfl
@[simp] theorem T_157 : T 157 = some ⟨.fn, 1, 8, .p .nilf, true⟩ := rfl
@[simp] theorem T_158 : T 158 = some ⟨.int .u64, 1, 8, .p (.int .u64 0), true⟩ := rfl
@[simp] theorem T_159 : T 159 = none := rfl
@[simp] theorem T_160 : T 160 = some ⟨.fn, 1, 8, .p .nilf, true⟩ := rfl
@[simp] theorem T_161 : T 161 = some ⟨.ptr 163, 1, 8, .p .nilp, true⟩ := rfl
@[simp] theorem T_162 : T 162 = some ⟨.st [(0, 161), (1, 107)], 2, 32, .agg [.p .nilp, .nilsl], true⟩ := rfl
@[simp] theorem T_163 : T 163 = some ⟨.st [(0, 161), (1, 107)], 2, 32, .agg [.p .nilp, .nilsl], true⟩ := rfl
@[simp] theorem T_164 : T 164 = some ⟨.fn, 1, 8, .p .nilf, true⟩ := rfl
@[simp] theorem T_165 : T 165 = none := rfl
@[simp] theorem T_166 : T 166 = none := rfl
@[simp] theorem T_167 : T 167 = none := rfl
@[simp] theorem T_168 : T 168 = some ⟨.fn, 1, 8, .p .nilf, true⟩ := rfl
@[simp] theorem T_169 : T 169 = some ⟨.fn, 1, 8, .p .nilf, true⟩ := rfl
@[simp] theorem T_170 : T 170 = some ⟨.fn, 1, 8, .p .nilf, true⟩ := rfl
@[simp] theorem T_171 : T 171 = some ⟨.fn, 1, 8, .p .nilf, true⟩ := rfl
@[simp] theorem T_172 : T 172 = some ⟨.fn, 1, 8, .p .nilf, true⟩ := rfl
@[simp] theorem T_173 : T 173 = some ⟨.fn, 1, 8, .p .nilf, true⟩ := rfl
@[simp] theorem T_174 : T 174 = some ⟨.fn, 1, 8, .p .nilf, true⟩ := rfl
@[simp] theorem T_175 : T 175 = some ⟨.sl 3, 1, 24, .nilsl, true⟩ := rfl
@[simp] theorem T_176 : T 176 = some ⟨.fn, 1, 8, .p .nilf, true⟩ := rfl
@[simp] theorem T_177 : T 177 = none := rfl
@[simp] theorem T_178 : T 178 = some ⟨.fn, 1, 8, .p .nilf, true⟩ := rfl
@[simp] theorem T_179 : T 179 = some ⟨.fn, 1, 8, .p .nilf, true⟩ := rfl
@[simp] theorem T_180 : T 180 = none := rfl
@[simp] theorem T_181 : T 181 = some ⟨.fn, 1, 8, .p .nilf, true⟩ := rfl
@[simp] theorem T_182 : T 182 = none := rfl
@[simp] theorem T_183 : T 183 = some ⟨.fn, 1, 8, .p .nilf, true⟩ := rfl
@[simp] theorem T_184 : T 184 = some ⟨.fn, 1, 8, .p .nilf, true⟩ := rfl
@[simp] theorem T_185 : T 185 = some ⟨.sl 241, 1, 24, .nilsl, true⟩ := rfl
@[simp] theorem T_186 : T 186 = none := rfl
@[simp] theorem T_187 : T 187 = some ⟨.fn, 1, 8, .p .nilf, true⟩ := rfl
@[simp] theorem T_188 : T 188 = some ⟨.fn, 1, 8, .p .nilf, true⟩ := rfl
@[simp] theorem T_189 : T 189 = some ⟨.sl 4, 1, 24, .nilsl, true⟩ := rfl
@[simp] theorem T_190 : T 190 = some ⟨.fn, 1, 8, .p .nilf, true⟩ := rfl
@[simp] theorem T_191 : T 191 = some ⟨.fn, 1, 8, .p .nilf, true⟩ := rfl
@[simp] theorem T_192 : T 192 = some ⟨.fn, 1, 8, .p .nilf, true⟩ := rfl
@[simp] theorem T_193 : T 193 = some ⟨.fn, 1, 8, .p .nilf, true⟩ := rfl
@[simp] theorem T_194 : T 194 = some ⟨.fn, 1, 8, .p .nilf, true⟩ := rfl
@[simp] theorem T_195 : T 195 = some ⟨.fn, 1, 8, .p .nilf, true⟩ := rfl
@[simp] theorem T_196 : T 196 = some ⟨.fn, 1, 8, .p .nilf, true⟩ := rfl
@[simp] theorem T_197 : T 197 = some ⟨.ar 256 4, 256, 256, .agg (qX (xI 256 (.bool false))), true⟩ := rfl
@[simp] theorem T_198 : T 198 = some ⟨.ar 256 4, 256, 256, .agg (qX (xI 256 (.bool false))), true⟩ := rfl
@[simp] theorem T_199 : T 199 = none := rfl
@[simp] theorem T_200 : T 200 = some ⟨.fn, 1, 8, .p .nilf, true⟩ := rfl
@[simp] theorem T_201 : T 201 = some ⟨.fn, 1, 8, .p .nilf, true⟩ := rfl
@[simp] theorem T_202 : T 202 = some ⟨.ptr 198, 1, 8, .p .nilp, true⟩ := rfl
@[simp] theorem T_203 : T 203 = none := rfl
@[simp] theorem T_204 : T 204 = some ⟨.fn, 1, 8, .p .nilf, true⟩ := rfl
@[simp] theorem T_205 : T 205 = some ⟨.fn, 1, 8, .p .nilf, true⟩ := rfl
@[simp] theorem T_206 : T 206 = none := rfl
@[simp] theorem T_207 : T 207 = some ⟨.fn, 1, 8, .p .nilf, true⟩ := rfl
@[simp] theorem T_208 : T 208 = some ⟨.int .u32, 1, 4, .p (.int .u32 0), true⟩ := rfl
@[simp] theorem T_209 : T 209 = none := rfl
@[simp] theorem T_210 : T 210 = some ⟨.fn, 1, 8, .p .nilf, true⟩ := rfl
@[simp] theorem T_211 : T 211 = none := rfl
@[simp] theorem T_212 : T 212 = some ⟨.fn, 1, 8, .p .nilf, true⟩ := rfl
@[simp] theorem T_213 : T 213 = some ⟨.ptr 5, 1, 8, .p .nilp, true⟩ := rfl
@[simp] theorem T_214 : T 214 = some ⟨.fn, 1, 8, .p .nilf, true⟩ := rfl
@[simp] theorem T_215 : T 215 = some ⟨.ptr 217, 1, 8, .p .nilp, true⟩ := rfl
@[simp] theorem T_216 : T 216 = some ⟨.st [(0, 175), (1, 3), (2, 3), (3, 185), (4, 4)], 5, 72, .agg [.nilsl, .p (.int .i64 0), .p (.int .i64 0), .nilsl, .p (.bool false)], true⟩ := rfl
@[simp] theorem T_217 : T 217 = some ⟨.st [(0, 175), (1, 3), (2, 3), (3, 185), (4, 4)], 5, 72, .agg [.nilsl, .p (.int .i64 0), .p (.int .i64 0), .nilsl, .p (.bool false)], true⟩ := rfl
@[simp] theorem T_218 : T 218 = some ⟨.fn, 1, 8, .p .nilf, true⟩ := rfl
@[simp] theorem T_219 : T 219 = none := rfl
@[simp] theorem T_220 : T 220 = some ⟨.fn, 1, 8, .p .nilf, true⟩ := rfl
@[simp] theorem T_221 : T 221 = some ⟨.fn, 1, 8, .p .nilf, true⟩ := rfl
@[simp] theorem T_222 : T 222 = some ⟨.ar 24 5, 24, 24, .agg (qX (xI 24 (.int .u8 0))), true⟩ := rfl
@[simp] theorem T_223 : T 223 = some ⟨.fn, 1, 8, .p .nilf, true⟩ := rfl
@[simp] theorem T_224 : T 224 = some ⟨.fn, 1, 8, .p .nilf, true⟩ := rfl
@[simp] theorem T_225 : T 225 = none := rfl
@[simp] theorem T_226 : T 226 = some ⟨.fn, 1, 8, .p .nilf, true⟩ := rfl
@[simp] theorem T_227 : T 227 = none := rfl
@[simp] theorem T_228 : T 228 = some ⟨.fn, 1, 8, .p .nilf, true⟩ := rfl
@[simp] theorem T_229 : T 229 = some ⟨.fn, 1, 8, .p .nilf, true⟩ := rfl
@[simp] theorem T_230 : T 230 = some ⟨.fn, 1, 8, .p .nilf, true⟩ := rfl
@[simp] theorem T_231 : T 231 = some ⟨.fn, 1, 8, .p .nilf, true⟩ := rfl
@[simp] theorem T_232 : T 232 = none := rfl
@[simp] theorem T_233 : T 233 = some ⟨.fn, 1, 8, .p .nilf, true⟩ := rfl
@[simp] theorem T_234 : T 234 = some ⟨.fn, 1, 8, .p .nilf, true⟩ := rfl
@[simp] theorem T_235 : T 235 = some ⟨.fn, 1, 8, .p .nilf, true⟩ := rfl
@[simp] theorem T_236 : T 236 = some ⟨.fn, 1, 8, .p .nilf, true⟩ := rfl
@[simp] theorem T_237 : T 237 = some ⟨.fn, 1, 8, .p .nilf, true⟩ := rfl
@[simp] theorem T_238 : T 238 = some ⟨.fn, 1, 8, .p .nilf, true⟩ := rfl
@[simp] theorem T_239 : T 239 = some ⟨.sl 261, 1, 24, .nilsl, true⟩ := rfl
@[simp] theorem T_240 : T 240 = some ⟨.st [(0, 5), (1, 175), (2, 239), (3, 4)], 4, 64, .agg [.p (.int .u8 0), .nilsl, .nilsl, .p (.bool false)], true⟩ := rfl
@[simp] theorem T_241 : T 241 = some ⟨.st [(0, 5), (1, 175), (2, 239), (3, 4)], 4, 64, .agg [.p (.int .u8 0), .nilsl, .nilsl, .p (.bool false)], true⟩ := rfl
@[simp] theorem T_242 : T 242 = some ⟨.fn, 1, 8, .p .nilf, true⟩ := rfl
@[simp] theorem T_243 : T 243 = some ⟨.fn, 1, 8, .p .nilf, true⟩ := rfl
@[simp] theorem T_244 : T 244 = some ⟨.fn, 1, 8, .p .nilf, true⟩ := rfl
@[simp] theorem T_245 : T 245 = some ⟨.fn, 1, 8, .p .nilf, true⟩ := rfl
@[simp] theorem T_246 : T 246 = some ⟨.fn, 1, 8, .p .nilf, true⟩ := rfl
@[simp] theorem T_247 : T 247 = some ⟨.fn, 1, 8, .p .nilf, true⟩ := rfl
@[simp] theorem T_248 : T 248 = some ⟨.ar 20 24, 20, 160, .agg (qX (xI 20 (.int .u64 0))), true⟩ := rfl
@[simp] theorem T_249 : T 249 = some ⟨.ar 65 5, 65, 65, .agg (qX (xI 65 (.int .u8 0))), true⟩ := rfl
@[simp] theorem T_250 : T 250 = some ⟨.fn, 1, 8, .p .nilf, true⟩ := rfl
@[simp] theorem T_251 : T 251 = some ⟨.fn, 1, 8, .p .nilf, true⟩ := rfl
@[simp] theorem T_252 : T 252 = some ⟨.fn, 1, 8, .p .nilf, true⟩ := rfl
@[simp] theorem T_253 : T 253 = some ⟨.int .i64, 1, 8, .p (.int .i64 0), true⟩ := rfl
@[simp] theorem T_254 : T 254 = none := rfl
@[simp] theorem T_255 : T 255 = some ⟨.fn, 1, 8, .p .nilf, true⟩ := rfl
@[simp] theorem T_256 : T 256 = some ⟨.fn, 1, 8, .p .nilf, true⟩ := rfl
@[simp] theorem T_257 : T 257 = some ⟨.fn, 1, 8, .p .nilf, true⟩ := rfl
@[simp] theorem T_258 : T 258 = some ⟨.fn, 1, 8, .p .nilf, true⟩ := rfl
@[simp] theorem T_259 : T 259 = some ⟨.fn, 1, 8, .p .nilf, true⟩ := rfl
@[simp] theorem T_260 : T 260 = some ⟨.st [(0, 3), (1, 3)], 2, 16, .agg [.p (.int .i64 0), .p (.int .i64 0)], true⟩ := rfl
@[simp] theorem T_261 : T 261 = some ⟨.st [(0, 3), (1, 3)], 2, 16, .agg [.p (.int .i64 0), .p (.int .i64 0)], true⟩ := rfl
@[simp] theorem T_262 : T 262 = some ⟨.ar 256 5, 256, 256, .agg (qX (xI 256 (.int .u8 0))), true⟩ := rfl
@[simp] theorem T_263 : T 263 = some ⟨.st [(0, 5), (1, 5)], 2, 2, .agg [.p (.int .u8 0), .p (.int .u8 0)], true⟩ := rfl
@[simp] theorem T_264 : T 264 = some ⟨.st [(0, 5), (1, 5)], 2, 2, .agg [.p (.int .u8 0), .p (.int .u8 0)], true⟩ := rfl
@[simp] theorem T_265 : T 265 = some ⟨.ar 16 264, 32, 32, .agg (qX (xI 32 (.int .u8 0))), true⟩ := rfl
@[simp] theorem T_266 : T 266 = some ⟨.fn, 1, 8, .p .nilf, true⟩ := rfl
@[simp] theorem T_267 : T 267 = some ⟨.int .u64, 1, 8, .p (.int .u64 0), true⟩ := rfl
@[simp] theorem T_268 : T 268 = some ⟨.fn, 1, 8, .p .nilf, true⟩ := rfl
@[simp] theorem T_269 : T 269 = some ⟨.fn, 1, 8, .p .nilf, true⟩ := rfl
@[simp] theorem T_270 : T 270 = some ⟨.fn, 1, 8, .p .nilf, true⟩ := rfl
@[simp] theorem T_271 : T 271 = some ⟨.ptr 3, 1, 8, .p .nilp, true⟩ := rfl
@[simp] theorem T_272 : T 272 = some ⟨.fn, 1, 8, .p .nilf, true⟩ := rfl
@[simp] theorem T_273 : T 273 = some ⟨.fn, 1, 8, .p .nilf, true⟩ := rfl
@[simp] theorem T_274 : T 274 = some ⟨.ar 32 5, 32, 32, .agg (qX (xI 32 (.int .u8 0))), true⟩ := rfl
@[simp] theorem T_275 : T 275 = some ⟨.ar 64 5, 64, 64, .agg (qX (xI 64 (.int .u8 0))), true⟩ := rfl
@[simp] theorem T_276 : T 276 = some ⟨.ptr 267, 1, 8, .p .nilp, true⟩ := rfl
@[simp] theorem T_277 : T 277 = some ⟨.fn, 1, 8, .p .nilf, true⟩ := rfl
@[simp] theorem T_278 : T 278 = some ⟨.fn, 1, 8, .p .nilf, true⟩ := rfl
@[simp] theorem T_279 : T 279 = none := rfl
@[simp] theorem T_280 : T 280 = none := rfl
@[simp] theorem T_281 : T 281 = none := rfl
@[simp] theorem T_282 : T 282 = none := rfl
@[simp] theorem T_283 : T 283 = none := rfl
@[simp] theorem T_284 : T 284 = none := rfl
@[simp] theorem T_285 : T 285 = none := rfl
@[simp] theorem T_286 : T 286 = some ⟨.fn, 1, 8, .p .nilf, true⟩ := rfl
@[simp] theorem T_287 : T 287 = none := rfl
@[simp] theorem T_288 : T 288 = none := rfl
@[simp] theorem T_289 : T 289 = none := rfl
@[simp] theorem T_290 : T 290 = none := rfl
theorem tbl_ok : qZE Tryz.prog 0 tbl := ⟨ti1, ti2, ti3, ti4, ti5, ti9, ti12, ti21, ti22, ti23, ti24, ti25, ti26, ti27, ti28, ti29, ti30, ti31, ti32, ti33, ti34, ti35, ti36, ti37, ti38, ti39, ti40, ti41, ti42, ti43, ti44, ti45, ti47, ti48, ti49, ti50, ti51, ti52, ti53, ti54, ti55, ti57, ti58, ti59, ti60, ti61, ti62, ti63, ti64, ti65, ti66, ti67, ti68, ti69, ti70, ti72, ti73, ti74, ti75, ti76, ti77, ti78, ti79, ti80, ti81, ti82, ti83, ti84, ti85, ti87, ti88, ti89, ti90, ti91, ti92, ti93, ti94, ti95, ti96, ti97, ti98, ti99, ti100, ti101, ti102, ti103, ti104, ti105, ti106, ti107, ti108, ti109, ti110, ti112, ti113, ti114, ti115, ti116, ti117, ti119, ti120, ti121, ti122, ti124, ti125, ti126, ti127, ti129, ti130, ti131, ti132, ti133, ti134, ti135, ti136, ti137, ti138, ti140, ti141, ti142, ti143, ti144, ti145, ti146, ti148, ti149, ti150, ti151, ti152, ti153, ti154, ti155, ti156, ti157, ti158, ti160, ti161, ti162, ti163, ti164, ti168, ti169, ti170, ti171, ti172, ti173, ti174, ti175, ti176, ti178, ti179, ti181, ti183, ti184, ti185, ti187, ti188, ti189, ti190, ti191, ti192, ti193, ti194, ti195, ti196, ti197, ti198, ti200, ti201, ti202, ti204, ti205, ti207, ti208, ti210, ti212, ti213, ti214, ti215, ti216, ti217, ti218, ti220, ti221, ti222, ti223, ti224, ti226, ti228, ti229, ti230, ti231, ti233, ti234, ti235, ti236, ti237, ti238, ti239, ti240, ti241, ti242, ti243, ti244, ti245, ti246, ti247, ti248, ti249, ti250, ti251, ti252, ti253, ti255, ti256, ti257, ti258, ti259, ti260, ti261, ti262, ti263, ti264, ti265, ti266, ti267, ti268, ti269, ti270, ti271, ti272, ti273, ti274, ti275, ti276, ti277, ti278, ti286, trivial⟩
theorem mixed : Tryz.prog.follows .mixedOrders = true := by kernel_rfl
theorem tok : TOK Tryz.prog T := by
 intro t ti h
 unfold T at h
 cases hx : tbl[t]? with
 | none => rw [hx] at h; cases h
 | some o =>
  rw [hx] at h
  simp only [Option.getD_some] at h
  subst h
  have := qHT tbl_ok hx
  simpa using this
open Sy Go
end Go.Proofs.YtdojfdaglbphlaaGreatDoor
