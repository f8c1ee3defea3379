/-
  OUR OWN LAYER: FROM THE ROW TO THE CONTRACT, AND BACK: what a law's row hands in is read as plain data; what the contract tells gives the row's post.
-/
import Derived.Test.YtdploelkmlbhnaaDoorCore18
import Derived.WalkKit
import Derived.ProofKit
import Derived.OpenShut
import Derived.Deep.DeepHandedRow
import Derived.Deep.Slices
import Derived.Carry
namespace Go.Proofs.YtdploelkmlbhnaaDoor.Sy
open Go Go.ChangeShapes Go.WideShapes Go.ChangeAt Go.RowKit

/-- All that a world holds. -/
def memOf (W : World) : FMap := fun b o => W.cell? ⟨b, o, none⟩

section
variable {H : Type} {enc : TypeId × Value → H} {P : Program}

theorem trodAll_stays (hl : laidOutB P = true) {W W' : World} {sp : Nat → Bool} : ∀ {ts : List TypeId} {vs : List Value} {ds : List (DataW H)} {p : List MemPlace},
    (∀ t ∈ ts, P.readableRec t = true ∧ t < P.types.size) → DataW.TrodAll enc P W 0 (fun _ => true) true ts vs ds p → (∀ x ∈ p, W.sameAt W' x) → (∀ x ∈ p, sp x.block = true) → DataW.TrodAll enc P W' 0 sp true ts vs ds p
  | [], vs, ds, p, _, h, _, _ => by
    obtain ⟨rfl, rfl, rfl⟩ := trodAll_nil h
    exact trodAll_mk0
  | t :: ts, vs, ds, p, ht, h, hs, hsp => by
    obtain ⟨v, vs', d, ds', p1, q, rfl, rfl, rfl, h1, h2⟩ := trodAll_cons h
    have a := WideElems.Trod_stays hl (ht t (by simp)).1 (ht t (by simp)).2 h1 (fun x hx => hs x (by simp [hx])) (fun x hx => hsp x (by simp [hx]))
    have b := trodAll_stays hl (fun t' h' => ht t' (by simp [h'])) h2 (fun x hx => hs x (by simp [hx])) (fun x hx => hsp x (by simp [hx]))
    exact trodAll_cons_mk a b

/-- A law that returns true, and changes nothing of what was there. -/
theorem law_post {f : Func} {s : ChangeSpec} {W W' : World} {args : Array Value} {ds gs : List (DataW H)} {before : List MemPlace} {tb : TypeId} (hW : DataW.Whole enc P f.params.toList s.vars false W args.toList ds gs before)
    (hb : Below W.heap.size W W') (hl : laidOutB P = true) (hr : ∀ t ∈ f.params.toList, P.readableRec t = true ∧ t < P.types.size) (hv : s.vars = []) (hspec : s.fn H (ds ++ gs) = { results := [.lit (.bool true)], args := ds })
    (hrt : f.resultTypes = #[tb]) (htb : P.underlying tb = some .bool) : s.post enc P f false true false false W args (.bool true) W' := by
  have hlt := hW.lt
  have hW' := hW
  obtain ⟨p, q, hA, hV, rfl, hz, hn⟩ := hW
  rw [hv] at hV
  obtain ⟨rfl, rfl⟩ := trodVars_none hV
  simp only [List.append_nil] at hW' hz hlt hspec hn
  have hsame : ∀ x ∈ p, W.sameAt W' x := fun x hx => hb.same (hlt x hx)
  have hargs : ∀ sp : Nat → Bool, (∀ x ∈ p, sp x.block = true) → DataW.TrodAll enc P W' 0 sp true f.params.toList args.toList ds p := fun sp hsp => trodAll_stays hl hr hA hsame hsp
  have hres : ∀ (b : Nat) (sp : Nat → Bool) (hd : Bool), DataW.TrodAll enc P W' b sp hd f.resultTypes.toList ((Value.bool true).resultList f.resultTypes.size) [.lit (.bool true)] [] := fun b sp hd => by
    rw [hrt]; exact trodAll_cons_mk (shut_bool htb true) trodAll_mk0
  have hvars : ∀ sp : Nat → Bool, DataW.TrodVars enc P W' sp s.vars [] [] := fun sp => by rw [hv]; exact rfl
  have hold : ∀ x ∈ p, (fun b => decide (b < W.heap.size)) x.block = true := fun x hx => by simpa using hlt x hx
  refine ⟨ds, [], p, [], p, [], hW', ?_, ?_, ?_, World.keptBut_mono (fun x hx => ⟨hx, ?_⟩) (hb.frame (· ∈ p)), fun _ => ?_⟩
  · simp only [List.append_nil, hspec]; exact hres _ _ _
  · simp only [List.append_nil, hspec]; exact hargs _ hold
  · simp only [List.append_nil, hspec]; exact hvars _
  · exact Or.inr (Or.inl hx)
  · refine ⟨?_, _, _, ([] ++ p) ++ [], ⟨[] ++ p, [], trodAll_append (hargs _ (fun _ _ => rfl)) (hres _ _ _), hvars _, rfl, ?_, ?_⟩, ?_⟩
    · intro j t r h1 h2
      rw [hrt] at h1 h2
      cases j with
      | zero => simp [Value.resultList] at h1 h2; subst h1; subst h2; exact okWide_bool_mk htb true
      | succ j => simp at h1
    · intro b off hp
      have hp' : MemPlace.cell b off ∈ p := by simpa using hp
      rw [hb.frozen (p := ⟨b, off, none⟩) (hlt _ hp')]
      exact hz b off hp'
    · intro ha; cases ha
    · intro x hx _
      simpa using hx
end
end Go.Proofs.YtdploelkmlbhnaaDoor.Sy
