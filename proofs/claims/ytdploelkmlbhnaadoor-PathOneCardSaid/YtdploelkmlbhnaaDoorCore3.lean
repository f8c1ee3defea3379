/-
  OUR OWN LAYER, 3: what a piece of code does to the abstract state; contracts of functions; the rules for the forms of code.
-/
import Derived.Test.YtdploelkmlbhnaaDoorCore2
namespace Go.Proofs.YtdploelkmlbhnaaDoor.Sy
open Go

/-- What the package-level variables hold (those that are listed). -/
abbrev Glob := Nat → Option (List PD)
def GOK (G : Glob) (M : FMap) : Prop := ∀ (g : Nat) cs, G g = some cs → (∀ (j : Nat) d, cs[j]? = some d → ∃ u, M g j = some u ∧ u.oneCell' = true) ∧ (∀ (j : Nat) d u, cs[j]? = some d → M g j = some u → Rd M u d)

theorem GOK.mono {G : Glob} {M M' : FMap} (h : ∀ b o v, M b o = some v → M' b o = some v) (g : GOK G M) : GOK G M' := by
  intro n cs hn
  obtain ⟨h1, h2⟩ := g n cs hn
  refine ⟨fun j d hd => ?_, fun j d u hd hu => ?_⟩
  · obtain ⟨u, hu, hc⟩ := h1 j d hd; exact ⟨u, h _ _ _ hu, hc⟩
  · obtain ⟨u', hu', _⟩ := h1 j d hd
    have := h _ _ _ hu'
    rw [this] at hu; cases hu
    exact (h2 j d _ hd hu').mono h

/-- How a piece of code goes from an abstract state: every concrete state that it tells of comes, by that code, to one that 'Q' tells of. -/
def Post (c : Ctx) (Q : Exit → St → Prop) (e : Exit) (a : Act) (w : World) : Prop := ∃ st M μ, Rel c M μ st a.tmps w ∧ a.defers = [] ∧ Q e st

def AW (P : Program) (G : Glob) (c : Code) (Q : Exit → St → Prop) (st : St) : Prop :=
  ∀ (x : Ctx) (M : FMap) (μ : Mu) (tmps : Array Value) (w : World), GOK G x.M0 → Rel x M μ st tmps w → c.wp P (Post x Q) ⟨tmps, []⟩ w

def AOps (P : Program) (G : Glob) (ops : Array Oper) (Q : Exit → St → Prop) (l : List Oper) (st : St) : Prop :=
  ∀ (x : Ctx) (M : FMap) (μ : Mu) (tmps : Array Value) (w : World), GOK G x.M0 → Rel x M μ st tmps w → wpList P ops (Post x Q) l ⟨tmps, []⟩ w

section
variable {P : Program} {G : Glob} {Q : Exit → St → Prop} {st : St}

theorem AW.weaken {c : Code} {st' : St} (h : St.Le st st') (k : AW P G c Q st') : AW P G c Q st :=
  fun x M μ tmps w hg r => k x M μ tmps w hg (r.weaken h)

theorem AW.mono {c : Code} {Q' : Exit → St → Prop} (k : AW P G c Q st) (h : ∀ e s, Q e s → Q' e s) : AW P G c Q' st :=
  fun x M μ tmps w hg r => wp_mono (k x M μ tmps w hg r) fun _ _ _ ⟨s, M', μ', r', hd, q⟩ => ⟨s, M', μ', r', hd, h _ _ q⟩

def andThen (k : St → Prop) (Q : Exit → St → Prop) : Exit → St → Prop
  | .normal, s => k s
  | e, s => Q e s

theorem AW.seq {a b : Code} (h : AW P G a (andThen (AW P G b Q) Q) st) : AW P G (.seq a b) Q st := by
  intro x M μ tmps w hg r
  refine wp_seq (wp_mono (h x M μ tmps w hg r) ?_)
  rintro e ⟨tm, df⟩ w' ⟨s, M', μ', r', hd, q⟩
  cases e with
  | normal =>
    simp only at hd
    subst hd
    exact q x M' μ' tm w' hg r'
  | _ => exact ⟨s, M', μ', r', hd, q⟩

theorem AW.skip (h : Q .normal st) : AW P G .skip Q st := fun _ M μ _ _ _ r => wp_skip ⟨st, M, μ, r, rfl, h⟩
theorem AW.exit {id : Nat} (h : Q (.exit id) st) : AW P G (.exit id) Q st := fun _ M μ _ _ _ r => wp_exit ⟨st, M, μ, r, rfl, h⟩
theorem AW.ret (h : Q .ret st) : AW P G .ret Q st := fun _ M μ _ _ _ r => wp_ret ⟨st, M, μ, r, rfl, h⟩

def inBlock (id : Nat) (Q : Exit → St → Prop) : Exit → St → Prop
  | .exit i, s => if i = id then Q .normal s else Q (.exit i) s
  | e, s => Q e s

theorem AW.block {id : Nat} {c : Code} (h : AW P G c (inBlock id Q) st) : AW P G (.block id c) Q st := by
  intro x M μ tmps w hg r
  refine wp_block (wp_mono (h x M μ tmps w hg r) ?_)
  rintro e a w' ⟨s, M', μ', r', hd, q⟩
  cases e with
  | exit i =>
    simp only [inBlock, Exit.inBlock] at q ⊢
    split
    · rename_i hi; rw [if_pos hi] at q; exact ⟨s, M', μ', r', hd, q⟩
    · rename_i hi; rw [if_neg hi] at q; exact ⟨s, M', μ', r', hd, q⟩
  | _ => exact ⟨s, M', μ', r', hd, q⟩

/-- A loop: a family of states, one for each 'a', and a measure. -/
theorem AW.loop {c : Code} {α : Type} (I : α → Prop) (S : α → St) (m : α → Nat) (a0 : α) (hI0 : I a0) (h0 : St.Le st (S a0))
    (round : ∀ a, I a → AW P G c (andThen (fun s => ∃ a', I a' ∧ m a' < m a ∧ St.Le s (S a')) Q) (S a)) : AW P G (.loop c) Q st := by
  intro x M μ tmps w hg r
  have r0 := r.weaken h0
  intro b k cs
  have key : ∀ n a M μ tmps w, I a → m a = n → Rel x M μ (S a) tmps w →
      ∃ e a' w', Post x Q e a' w' ∧ Arrives P (lone (b.at ⟨tmps, []⟩ (.code c :: .inLoop c :: k)) cs w) b k cs e a' w' := by
    intro n
    induction n using Nat.strongRecOn with
    | _ n ih =>
      intro a M μ tmps w hI hn r
      have h1 := round a hI x M μ tmps w hg r
      obtain ⟨e, a₁, w₁, hq, harr⟩ := h1 b (.inLoop c :: k) cs
      obtain ⟨s, M', μ', r', hd, q⟩ := hq
      cases e with
      | normal =>
        obtain ⟨a', hI', hlt, hle⟩ := q
        obtain ⟨tm, df⟩ := a₁
        simp only at hd
        subst hd
        obtain ⟨e₂, a₂, w₂, hq₂, harr₂⟩ := ih (m a') (hn ▸ hlt) a' M' μ' tm w₁ hI' rfl (r'.weaken hle)
        exact ⟨e₂, a₂, w₂, hq₂, .of_steps (Steps.trans harr (.one step_inLoop)) harr₂⟩
      | exit id => exact ⟨_, a₁, w₁, ⟨s, M', μ', r', hd, q⟩, .pass (x := .inLoop c) rfl (fun _ _ => .inl (by simp)) harr⟩
      | goto l => exact ⟨_, a₁, w₁, ⟨s, M', μ', r', hd, q⟩, .pass (x := .inLoop c) rfl (fun _ _ => .inl (by simp)) harr⟩
      | ret => exact ⟨_, a₁, w₁, ⟨s, M', μ', r', hd, q⟩, .pass (x := .inLoop c) rfl (fun _ _ => .inl (by simp)) harr⟩
      | panic ch => exact ⟨_, a₁, w₁, ⟨s, M', μ', r', hd, q⟩, .pass (x := .inLoop c) rfl (fun _ _ => .inl (by simp)) harr⟩
      | outgrown => exact ⟨_, a₁, w₁, ⟨s, M', μ', r', hd, q⟩, .pass (x := .inLoop c) rfl (fun _ _ => .inl (by simp)) harr⟩
  obtain ⟨e, a', w', hq, harr⟩ := key _ a0 M μ tmps w hI0 rfl r0
  exact ⟨e, a', w', hq, .of_steps (.one step_loop) harr⟩

/-- A region that draws no order. -/
theorem AW.region {id : Nat} {l : List Oper} (h : AOps P G l.toArray Q l st) : AW P G (.region id l.toArray false) Q st :=
  fun x M μ tmps w hg r => wp_region_lit (h x M μ tmps w hg r)

theorem AOps.nil {ops : Array Oper} (h : Q .normal st) : AOps P G ops Q [] st := fun _ M μ _ _ _ r => wpList_nil ⟨st, M, μ, r, rfl, h⟩

theorem AOps.weaken {ops : Array Oper} {l : List Oper} {st' : St} (h : St.Le st st') (k : AOps P G ops Q l st') : AOps P G ops Q l st :=
  fun x M μ tmps w hg r => k x M μ tmps w hg (r.weaken h)

/-- What comes of an operation that ends well. -/
def Ends (P : Program) (next : Value → World → Prop) : Result Next → Prop
  | .ok (.value v) w => next v w
  | .ok .skip w => next undef w
  | .ok (.enter f args) w => Calls P f args w fun e w' => ∃ v, e = .returned v ∧ next v w'
  | _ => False

theorem wp_of_ends {o : Oper} {a : Act} {w : World} {K : Act → World → Prop} {R : Exit → Act → World → Prop} {next : Value → World → Prop}
    (h : Ends P next ((execOp a.eval o).run P w)) (k : ∀ v w', next v w' → K (a.put o.dst v) w') : o.wp P a w K R := by
  unfold Oper.wp
  generalize (execOp a.eval o).run P w = r at h
  cases r with
  | halt x w' => exact h.elim
  | ok n w' =>
    cases n <;> simp only [Ends] at h
    case value v => rw [Oper.upon_value]; exact k _ _ h
    case skip => rw [Oper.upon_skip]; exact k _ _ h
    case enter f args =>
      rw [Oper.upon_enter]
      refine h.mono ?_
      rintro e w'' ⟨v, rfl, hn⟩
      exact k _ _ hn

/-- An operation that yields a value 'x': in every concrete state that 'st' tells of it comes to one that 'st'' tells of (less the slot that it writes). -/
def Yields (P : Program) (G : Glob) (o : Oper) (st : St) (x : V) (st' : St) : Prop :=
  ∀ (c : Ctx) (M : FMap) (μ : Mu) (tmps : Array Value) (w : World), GOK G c.M0 → Rel c M μ st tmps w →
    Ends P (fun u w' => ∃ M' μ', Rel c M' μ' st' tmps w' ∧ RV M' μ' u x) ((execOp (Act.eval ⟨tmps, []⟩) o).run P w)

/-- An operation without a guard. -/
theorem AOps.step {ops : Array Oper} {o : Oper} {rest : List Oper} {x : V} {st' : St} (hgd : o.guard = none) (h : Yields P G o st x st')
    (k : AOps P G ops Q rest (st'.put o.dst x)) : AOps P G ops Q (o :: rest) st := by
  intro c M μ tmps w hg r
  refine wpList_plain hgd fun K hK => wp_of_ends (h c M μ tmps w hg r) ?_
  rintro u w' ⟨M', μ', r', hv⟩
  apply hK
  rw [Act.put_tmps]
  exact k c M' μ' _ w' hg (r'.put hv o.dst)

/-- What a guard's slot tells: is the operation done? -/
def V.guards (pol : Bool) : V → Option Bool
  | .p (.bool b) => some (b == pol)
  | .when c x => (V.guards pol x).map (c && ·)
  | _ => none
theorem V.guards_sound {pol : Bool} {M : FMap} {μ : Mu} {u : Value} {x : V} (r : RV M μ u x) : ∀ {b : Bool}, V.guards pol x = some b → (b = true → u = .bool pol) ∧ (b = false → u ≠ .bool pol) := by
  induction r with
  | p r =>
    intro b hb
    cases r with
    | bool t => simp only [V.guards, Option.some.injEq] at hb; subst hb; cases t <;> cases pol <;> simp
    | _ => simp [V.guards] at hb
  | @when u c x h1 h2 ih =>
    intro b hb
    simp only [V.guards, Option.map_eq_some_iff] at hb
    obtain ⟨t, ht, rfl⟩ := hb
    cases c with
    | true => simpa using ih rfl ht
    | false => have := h2 rfl; subst this; simp [undef]
  | _ => intro b hb; simp [V.guards] at hb
def boolOf : Value → Option Bool
  | .bool t => some t
  | _ => none

/-- An operation under a guard: it is done just if 'b'. ('hno': where the guard's own slot was passed over, it holds nothing.) -/
theorem AOps.stepIf {ops : Array Oper} {o : Oper} {rest : List Oper} {x : V} {j : Nat} {pol : Bool} {d : Nat} {b : Bool} (hgd : o.guard = some (j, pol))
    (hd : (ops[j]?).bind (·.dst) = some d) (hlt : d < st.tmps.length)
    (hb : V.guards pol (st.tmps.getD d .dead) = some b)
    (h : b = true → Yields P G o st x st)
    (k : AOps P G ops Q rest (st.put o.dst (.when b x))) : AOps P G ops Q (o :: rest) st := by
  intro c M μ tmps w hg r
  refine wpList_step fun K hK => ?_
  have hget : ∃ u, tmps[d]? = some u := by
    have := r.slots.1
    exact ⟨tmps[d]'(by omega), by simp [show d < tmps.size by omega]⟩
  obtain ⟨u0, hu0⟩ := hget
  have hx0 : st.tmps[d]? = some (st.tmps.getD d .dead) := by simp [List.getD, hlt]
  obtain ⟨hb1, hb2⟩ := V.guards_sound (r.slots.2 d u0 _ hu0 hx0) hb
  have hy : yielded ops tmps j = boolOf u0 := by
    have e1 : ∀ o : Option Value, o = some u0 → (match o with | some (.bool b) => some b | _ => none) = boolOf u0 := by
      rintro _ rfl
      cases u0 <;> rfl
    unfold yielded
    rw [hd]
    exact e1 _ hu0
  have fin : ∀ (M' : FMap) (μ' : Mu) (u : Value) (w' : World), Rel c M' μ' st tmps w' → (b = true → RV M' μ' u x) → (b = false → u = undef) → K (Act.put ⟨tmps, []⟩ o.dst u) w' := by
    intro M' μ' u w' r' hv hv' 
    apply hK
    rw [Act.put_tmps]
    exact k c M' μ' _ w' hg (r'.put (.when hv hv') o.dst)
  cases hbv : b with
  | true =>
    have hu := hb1 hbv
    subst hu
    rw [if_pos (by simp [Region.wanted, hgd, hy, boolOf])]
    refine wp_of_ends (h hbv c M μ tmps w hg r) ?_
    rintro u w' ⟨M', μ', r', hv⟩
    exact fin M' μ' u w' r' (fun _ => hv) (fun e => by rw [hbv] at e; cases e)
  | false =>
    have hu := hb2 hbv
    rw [if_neg (by
      simp only [Region.wanted, hgd, hy]
      cases u0 with
      | bool t => simp only [boolOf, beq_iff_eq, Option.some.injEq]; rintro rfl; exact hu rfl
      | _ => simp [boolOf])]
    exact fin M μ undef w r (fun e => by rw [hbv] at e; cases e) fun _ => rfl

/-- An operation under a guard that is so: it may change what it will. -/
theorem AOps.stepIfT {ops : Array Oper} {o : Oper} {rest : List Oper} {x : V} {st' : St} {j : Nat} {pol : Bool} {d : Nat} (hgd : o.guard = some (j, pol))
    (hd : (ops[j]?).bind (·.dst) = some d) (hlt : d < st.tmps.length)
    (hb : V.guards pol (st.tmps.getD d .dead) = some true)
    (h : Yields P G o st x st')
    (k : AOps P G ops Q rest (st'.put o.dst (.when true x))) : AOps P G ops Q (o :: rest) st := by
  intro c M μ tmps w hg r
  refine wpList_step fun K hK => ?_
  have hget : ∃ u, tmps[d]? = some u := by
    have := r.slots.1
    exact ⟨tmps[d]'(by omega), by simp [show d < tmps.size by omega]⟩
  obtain ⟨u0, hu0⟩ := hget
  have hx0 : st.tmps[d]? = some (st.tmps.getD d .dead) := by simp [List.getD, hlt]
  obtain ⟨hb1, _⟩ := V.guards_sound (r.slots.2 d u0 _ hu0 hx0) hb
  have hu := hb1 rfl
  subst hu
  have hy : yielded ops tmps j = some pol := by
    have e1 : ∀ o : Option Value, o = some (.bool pol) → (match o with | some (.bool b) => some b | _ => none) = some pol := by
      rintro _ rfl; rfl
    unfold yielded
    rw [hd]
    exact e1 _ hu0
  rw [if_pos (by simp [Region.wanted, hgd, hy])]
  refine wp_of_ends (h c M μ tmps w hg r) ?_
  rintro u w' ⟨M', μ', r', hv⟩
  apply hK
  rw [Act.put_tmps]
  exact k c M' μ' _ w' hg (r'.put (.when (fun _ => hv) (fun e => by cases e)) o.dst)
/-- An operation under a guard that is not so: it is passed over. -/
theorem AOps.stepIfF {ops : Array Oper} {o : Oper} {rest : List Oper} {j : Nat} {pol : Bool} {d : Nat} (hgd : o.guard = some (j, pol))
    (hd : (ops[j]?).bind (·.dst) = some d) (hlt : d < st.tmps.length)
    (hb : V.guards pol (st.tmps.getD d .dead) = some false) {x : V}
    (k : AOps P G ops Q rest (st.put o.dst (.when false x))) : AOps P G ops Q (o :: rest) st :=
  AOps.stepIf hgd hd hlt hb (fun e => by cases e) k

end

/-- The contract of a function on pure data: what comes in is read; what comes out reads as 'r', in memory of its own or in what came in; all that was there is as it was. -/
def AF (P : Program) (G : Glob) (f : FuncId) (args : List PD) (r : PD) : Prop :=
  ∀ (M : FMap) (w : World) (vs : Array Value), GOK G M → (∀ b o v, M b o = some v → w.cell? ⟨b, o, none⟩ = some v) → vs.size = args.length →
    (∀ (i : Nat) u d, vs[i]? = some u → args[i]? = some d → Rd M u d) →
    Calls P f vs w fun e w' => ∃ v M', e = .returned v ∧ Rd M' v r ∧ (∀ b o v, M' b o = some v → w'.cell? ⟨b, o, none⟩ = some v) ∧ (∀ b o v, M b o = some v → M' b o = some v) ∧
      (∀ b o, b < w.heap.size → M' b o = M b o) ∧ RowKit.Below w.heap.size w w'

end Go.Proofs.YtdploelkmlbhnaaDoor.Sy
