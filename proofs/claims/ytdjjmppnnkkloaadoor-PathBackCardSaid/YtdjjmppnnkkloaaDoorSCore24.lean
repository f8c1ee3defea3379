import Derived.Test.YtdjjmppnnkkloaaDoorM3
/-
  OUR OWN LAYER, 24: rows that are begun within a box.
-/
namespace Go.Proofs.YtdjjmppnnkkloaaDoor.Sy
open Go
section
variable {P : Program} {T : Tab} {G : Glob} {Q : Exit → St → Prop} {st st' : St}
theorem Turned.refl (w : World) (b : Nat) : Turned w w b := ⟨rfl, rfl, rfl, rfl, fun _ _ => rfl⟩
theorem Rel.beginBox {c : Ctx} {M : FMap} {μ : Mu} {st : St} {tmps : Array Value} {w : World} (r : Rel c M μ st tmps w) {id k j : Nat} {e : TypeId} {cells : List V} (hb : boxOf id st.H = some (.vars e cells)) (hj : cells[j]? = some .nilsl)
    (hf : st.fresh k = true) (e' : TypeId) (sz : Nat) : ∃ μ', Rel c M μ' { st with H := setBox id (.vars e (cells.set j (.ms k))) ((k, .row e' sz []) :: st.H) } tmps w := by
  have hm := boxOf_mem hb
  have hk : keyIn id st.H = true := keyIn_iff.2 ⟨_, hm⟩
  have hne : id ≠ k := by
    rintro rfl
    have := (St.fresh_spec hf).2.2.2
    rw [hk] at this; cases this
  have r1 := r.adopt (l := ⟨none, .slice none 0 0⟩) hf (fun b hb => by cases hb) (bx := .row e' sz []) (.rowN (by rw [upd_same]) (by rw [upd_same]))
  have hbx := r1.box id _ (List.mem_cons_of_mem _ hm)
  cases hbx with
  | @vars _ _ b arr h0 hh hs ho hc =>
  refine ⟨_, r1.write (id := id) (b := b) (w' := w) (bx := .vars e (cells.set j (.ms k))) (by simp [keyIn, hk]) h0 (Turned.refl w b) (.vars h0 hh (by simpa using hs) ho fun i u x hu hx => ?_)⟩
  rw [List.getElem?_set] at hx
  split at hx
  · rename_i hji
    subst hji
    split at hx
    · cases hx
      have := hc j u .nilsl hu hj
      cases this
      exact .ms (by rw [upd_same]) rfl
    · cases hx
  · exact hc i u x hu hx
theorem AW.beginBox {c : Code} (id k j : Nat) (e' : TypeId) (sz : Nat) {e : TypeId} {cells : List V} (hb : boxOf id st.H = some (.vars e cells)) (hj : cells[j]? = some .nilsl) (hf : st.fresh k = true)
    (h : ({ st with H := setBox id (.vars e (cells.set j (.ms k))) ((k, .row e' sz []) :: st.H) } : St) = st') (k : AW P G c Q st') : AW P G c Q st := fun x M μ tmps w hg r => by
  obtain ⟨μ', r'⟩ := r.beginBox hb hj hf e' sz
  exact k x M μ' tmps w hg (h ▸ r')
theorem AOpsO.beginBox {ops : Array Oper} {l : List Oper} {orc : List PD} (id k j : Nat) (e' : TypeId) (sz : Nat) {e : TypeId} {cells : List V} (hb : boxOf id st.H = some (.vars e cells)) (hj : cells[j]? = some .nilsl) (hf : st.fresh k = true)
    (h : ({ st with H := setBox id (.vars e (cells.set j (.ms k))) ((k, .row e' sz []) :: st.H) } : St) = st') (k : AOpsO P G ops Q l st' orc) : AOpsO P G ops Q l st orc := fun x M μ tmps w hg r => by
  obtain ⟨μ', r'⟩ := r.beginBox hb hj hf e' sz
  exact k x M μ' tmps w hg (h ▸ r')
/-- Fewer boxes are told to lie where they lay. -/
theorem AW.pinsTo {c : Code} (ps : List Nat) (hs : ∀ i ∈ ps, i ∈ st.pins) (h : ({ st with pins := ps } : St) = st') (k : AW P G c Q st') : AW P G c Q st := fun x M μ tmps w hg r =>
  k x M μ tmps w hg (h ▸ ⟨r.mem, r.ext, r.old, r.slots, fun i hi => r.pins i (hs i hi), r.box, r.nodup, r.inj, r.own, r.size, r.below⟩)
/-- An operation under a guard that is so, whose effect is told apart. -/
theorem AOpsO.stepKIf (ks : List Nat) (d : Nat) {orc : List PD} {ops : Array Oper} {o : Oper} {rest : List Oper} {x : V} {st1 : St} {j : Nat} {pol : Bool} (hgd : o.guard = some (j, pol)) (hd : (ops[j]?).bind (·.dst) = some d)
    (h : Yields P G o st x st1) (hb : decide (d < st.tmps.length) = true ∧ V.guards pol (st.tmps.getD d .dead) = some true) (hk : (st1.put o.dst (.when true x)).keep ks = st') (k : AOpsO P G ops Q rest st' orc) : AOpsO P G ops Q (o :: rest) st orc :=
  AOps.stepIfT hgd hd (of_decide_eq_true hb.1) hb.2 h (AOps.keep ks (hk ▸ k))
theorem AW.fillE {c : Code} (id : Nat) (ns : List (Option Nat)) (h : st.fill id ns = st') (k : AW P G c Q st') : AW P G c Q st := fun x M μ tmps w hg r => k x M μ tmps w hg (h ▸ r.fill id ns)
end
end Go.Proofs.YtdjjmppnnkkloaaDoor.Sy
