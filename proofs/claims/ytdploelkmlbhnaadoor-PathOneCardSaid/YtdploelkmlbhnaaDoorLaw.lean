/-
  OUR OWN LAYER: A LAW's ROW OUT OF ITS CONTRACT.
-/
import Derived.Test.YtdploelkmlbhnaaDoorOpen
import Derived.LaidMore
import Derived.Lay
import Derived.Stop.Joined
namespace Go.Proofs.YtdploelkmlbhnaaDoor.Sy
open Go Go.ChangeShapes Go.WideShapes Go.ChangeAt Go.RowKit

/-- Plain data of a row of types. -/
def ShL (T : Tab) (f : Nat) : List TypeId → List PD → Prop
  | [], ds => ds = []
  | t :: ts, ds => ∃ d ds', ds = d :: ds' ∧ (∃ cs k, tkOf T t = some k ∧ d = packD k cs ∧ ShC T f t cs) ∧ ShL T f ts ds'

section
variable {H : Type} {enc : TypeId × Value → H} {P : Program} {W : World} {T : Tab}

theorem cells_atom (hT : TOK P T) {base : Nat} {t : TypeId} {ti : TI} {v : Value} (ht : T t = some ti) (hk : ti.k = .bool ∨ (∃ k, ti.k = .int k) ∨ ti.k = .str ∨ ∃ e, ti.k = .sl e) (h : Value.okWide P W .any base t v) : v.cells = #[v] := by
  obtain ⟨i, d, _, hd, hdk, _⟩ := hT.get ht
  rcases hk with hk | ⟨k, hk⟩ | hk | ⟨e, hk⟩ <;> rw [hk] at hdk
  · obtain ⟨b, rfl⟩ := okWide_bool (by rw [hd, TK.of_bool hdk]) h; rfl
  · obtain ⟨b, rfl⟩ := okWide_int (by rw [hd, TK.of_int hdk]) h; rfl
  · obtain ⟨b, rfl⟩ := okWide_string (by rw [hd, TK.of_str hdk]) h; rfl
  · obtain ⟨a, l, c, rfl⟩ := okWide_slice (by rw [hd, TK.of_sl hdk]) h; rfl

theorem trodAll_open (hT : TOK P T) {base f : Nat} : ∀ (ts : List TypeId) (vs : List Value) (ds : List (DataW H)) (p : List MemPlace), (∀ t ∈ ts, okT T f t = true) → DataW.TrodAll enc P W 0 (fun _ => true) true ts vs ds p →
    (∀ (j : Nat) t v, ts[j]? = some t → vs[j]? = some v → Value.okWide P W .any base t v) → ∃ pds, ShL T f ts pds ∧ vs.length = pds.length ∧ ∀ (i : Nat) u d, vs[i]? = some u → pds[i]? = some d → Rd (memOf W) u d
  | [], vs, ds, p, _, h, _ => by
    obtain ⟨rfl, rfl, rfl⟩ := trodAll_nil h
    exact ⟨[], rfl, rfl, fun i u d h => by simp at h⟩
  | t :: ts, vs, ds, p, hok, h, hv => by
    obtain ⟨v, vs', d, ds', p1, q, rfl, rfl, rfl, ⟨n, h1⟩, h2⟩ := trodAll_cons h
    obtain ⟨pds, a1, a2, a3⟩ := trodAll_open hT ts vs' ds' q (fun t h => hok t (by simp [h])) h2 (fun j t v h h' => hv (j + 1) t v (by simpa using h) (by simpa using h'))
    have hokt := hok t (by simp)
    obtain ⟨cs, ⟨hsh, hrd⟩, hti⟩ := open_any hT f t hokt n _ _ h1
    have hov := hv 0 t v rfl rfl
    obtain ⟨ti, ht⟩ : ∃ ti, T t = some ti := by
      cases f with
      | zero => cases hokt
      | succ f =>
        cases hx : T t with
        | none => simp [okT, hx] at hokt
        | some ti => exact ⟨ti, rfl⟩
    obtain ⟨hl, hag⟩ := hti ti ht
    have hfirst : Rd (memOf W) v (packD ti.k cs) := by
      unfold packD
      split
      · rename_i hk
        obtain ⟨i, dd, _, hd, hdk, _⟩ := hT.get ht
        have : ∃ fs, dd = .struct fs := by
          cases f with
          | zero => cases hokt
          | succ f =>
            simp only [okT, ht] at hokt
            split at hokt
            · rename_i e; rw [e] at hk; cases hk
            · rename_i e; rw [e] at hk; cases hk
            · rename_i e; rw [e] at hk; cases hk
            · rename_i e; rw [e] at hk; cases hk
            · rename_i fs e
              rw [e] at hdk
              obtain ⟨l, rfl, _⟩ := TK.of_st hdk
              exact ⟨l, rfl⟩
            · cases hokt
        obtain ⟨fs, rfl⟩ := this
        obtain ⟨arr, rfl, _⟩ := okWide_struct hd hov
        refine .agg (by simpa [Value.cells] using hrd.1) (fun i u hu => ?_) (fun i u d hu hd => ?_)
        · have hi : i < cs.length := by rw [← hrd.1]; simpa [Value.cells] using (Array.getElem?_eq_some_iff.1 hu).1
          exact (hrd.2 i u cs[i] (by simpa [Value.cells] using hu) (by simp [hi])).2
        · exact (hrd.2 i u d (by simpa [Value.cells] using hu) hd).1
      · rename_i hk
        obtain ⟨c, rfl, hc⟩ := hag (by simpa using hk)
        have hat : v.cells = #[v] := by
          refine cells_atom hT ht ?_ hov
          cases f with
          | zero => cases hokt
          | succ f =>
            simp only [okT, ht] at hokt
            split at hokt
            · exact .inl (by assumption)
            · exact .inr (.inl ⟨_, by assumption⟩)
            · exact .inr (.inr (.inl (by assumption)))
            · exact .inr (.inr (.inr ⟨_, by assumption⟩))
            · rename_i e; rw [e] at hk; exact (hk rfl).elim
            · cases hokt
        rw [hat] at hrd
        exact (hrd.2 0 v c (by simp) (by simp)).1
    refine ⟨packD ti.k cs :: pds, ⟨_, _, rfl, ⟨cs, ti.k, by simp [tkOf, ht], rfl, hsh⟩, a1⟩, by simp [a2], fun i u d hu hd => ?_⟩
    cases i with
    | zero => simp at hu hd; subst hu; subst hd; exact hfirst
    | succ i => exact a3 i u d (by simpa using hu) (by simpa using hd)

/-- THE LAW's CALL, out of its contract. -/
theorem law_call (hT : TOK P T) {G : Glob} {f : FuncId} {fn : Func} {s : ChangeSpec} {args : Array Value} {ds gs : List (DataW H)} {before : List MemPlace} {tb : TypeId} {base n : Nat}
    (hval : ∀ (j : Nat) t v, fn.params[j]? = some t → args[j]? = some v → Value.okWide P W .any base t v)
    (hW : DataW.Whole enc P fn.params.toList s.vars false W args.toList ds gs before) (hok : (fn.params.toList.all fun t => okT T n t) = true) (hl : laidOutB P = true) (hr : (fn.params.toList.all fun t => P.readableRec t && decide (t < P.types.size)) = true)
    (hv : s.vars = []) (hspec : ∀ ds : List (DataW H), ds.length = fn.params.size → s.fn H ds = { results := [.lit (.bool true)], args := ds }) (hrt : fn.resultTypes = #[tb]) (htb : P.underlying tb = some .bool)
    (hG : GOK G (memOf W)) (hA : ∀ pds, ShL T n fn.params.toList pds → AFn P G f pds (.bool true)) :
    Calls P f args W fun e W' => ∃ v, e = .returned v ∧ s.post enc P fn false true false false W args v W' := by
  have hW' := hW
  obtain ⟨p, q, hA0, hV, rfl, hz, hn⟩ := hW
  have hlen : ds.length = fn.params.size := by
    have key : ∀ (ts : List TypeId) (vs : List Value) (ds : List (DataW H)) (p : List MemPlace), DataW.TrodAll enc P W 0 (fun _ => true) true ts vs ds p → ds.length = ts.length := by
      intro ts
      induction ts with
      | nil => intro vs ds p h; obtain ⟨_, rfl, _⟩ := trodAll_nil h; rfl
      | cons t ts ih => intro vs ds p h; obtain ⟨v, vs', d, ds', p1, q, rfl, rfl, rfl, h1, h2⟩ := trodAll_cons h; simp [ih _ _ _ h2]
    have := key _ _ _ _ hA0
    simpa using this
  have hgs : gs = [] := by rw [hv] at hV; exact (trodVars_none hV).1
  obtain ⟨pds, h1, h2, h3⟩ := trodAll_open hT (base := base) (f := n) _ _ _ _ (fun t ht => List.all_eq_true.1 hok t ht) hA0 (fun j t v hj hv' => hval j t v (by simpa using hj) (by simpa using hv'))
  refine ((hA pds h1).2 (memOf W) W args hG (fun _ _ _ h => h) (by simpa using h2) (fun i u d hu hd => h3 i u d (by simpa using hu) hd)).mono ?_
  rintro e W' ⟨v, M', rfl, hrd, _, _, _, hb⟩
  cases hrd
  refine ⟨_, rfl, law_post hW' hb hl (fun t ht => ?_) hv ?_ hrt htb⟩
  · have := List.all_eq_true.1 hr t ht
    simpa using this
  · rw [hgs, List.append_nil]; exact hspec ds hlen
end

/-- A pointwise choice. -/
theorem list_of {α β : Type} {f : α → β} : ∀ {es : List β}, (∀ x ∈ es, ∃ a, x = f a) → ∃ l : List α, es = l.map f
  | [], _ => ⟨[], rfl⟩
  | x :: es, h => by
    obtain ⟨a, rfl⟩ := h x (by simp)
    obtain ⟨l, rfl⟩ := list_of (es := es) fun y hy => h y (by simp [hy])
    exact ⟨a :: l, rfl⟩
theorem list_of_p {α β : Type} {f : α → β} {p : α → Prop} : ∀ {es : List β}, (∀ x ∈ es, ∃ a, x = f a ∧ p a) → ∃ l : List α, es = l.map f ∧ ∀ a ∈ l, p a
  | [], _ => ⟨[], rfl, by simp⟩
  | x :: es, h => by
    obtain ⟨a, rfl, hp⟩ := h x (by simp)
    obtain ⟨l, rfl, hl⟩ := list_of_p (es := es) fun y hy => h y (by simp [hy])
    exact ⟨a :: l, rfl, by simpa using ⟨hp, hl⟩⟩
end Go.Proofs.YtdploelkmlbhnaaDoor.Sy
