/-
  OUR OWN LAYER, 1: pure data, abstract values, the abstract state, and how they are read in the model's world.
-/
import Derived.WalkKit
namespace Go.Proofs.YtdploelkmlbhnaaDoor.Sy
open Go

/-- Pure data: what a value reads as, memory left out. -/
inductive PD where
  | bool (b : Bool)
  | int (k : IntKind) (n : Int)
  | str (s : List UInt8)
  | agg (cs : List PD)
  | sl (sz : Nat) (es : List PD)
  | tup (ds : List PD)
  | fn (f : FuncId)
  | nilp
  | nilf
  deriving Inhabited

def PD.cells : PD → List PD
  | .agg cs => cs
  | d => [d]

/-- Cells that are never written any more, and what they hold. -/
abbrev FMap := Nat → Nat → Option Value

inductive Rd (M : FMap) : Value → PD → Prop
  | bool (b : Bool) : Rd M (.bool b) (.bool b)
  | int {k : IntKind} {n : Int} : k.min ≤ n → n ≤ k.max → Rd M (.int k n) (.int k n)
  | str {b : ByteArray} {s : List UInt8} : b.data.toList = s → s.length ≤ maxLen → Rd M (.string b) (.str s)
  | agg {arr : Array Value} {cs : List PD} : arr.size = cs.length → (∀ (i : Nat) u, arr[i]? = some u → u.oneCell' = true) → (∀ (i : Nat) u d, arr[i]? = some u → cs[i]? = some d → Rd M u d) → Rd M (.agg arr) (.agg cs)
  | tup {arr : Array Value} {cs : List PD} : arr.size = cs.length → (∀ (i : Nat) u d, arr[i]? = some u → cs[i]? = some d → Rd M u d) → Rd M (.tuple arr) (.tup cs)
  | sl {a : Option Addr} {n c sz : Nat} {es : List PD} (b o : Nat) : n = es.length → n ≤ c → c ≤ maxLen → (n ≠ 0 → a = some ⟨b, o, none⟩) →
      (∀ (i : Nat) e, es[i]? = some e → e.cells.length = sz) →
      (∀ (i : Nat) e j, es[i]? = some e → j < sz → ∃ u, M b (o + i * sz + j) = some u ∧ u.oneCell' = true) →
      (∀ (i : Nat) e (j : Nat) d u, es[i]? = some e → e.cells[j]? = some d → M b (o + i * sz + j) = some u → Rd M u d) → Rd M (.slice a n c) (.sl sz es)
  | fn (f : FuncId) : Rd M (.func (.func f) #[] #[]) (.fn f)
  | nilp : Rd M (.pointer none) .nilp
  | nilf : Rd M .nilFunc .nilf

theorem Rd.mono {M M' : FMap} (h : ∀ b o v, M b o = some v → M' b o = some v) {u : Value} {d : PD} (r : Rd M u d) : Rd M' u d := by
  induction r with
  | bool b => exact .bool b
  | int h1 h2 => exact .int h1 h2
  | str h1 h2 => exact .str h1 h2
  | agg h1 h2 _ ih => exact .agg h1 h2 ih
  | tup h1 _ ih => exact .tup h1 ih
  | @sl a n c sz es b o h1 h2 h3 h4 h5 h6 _ ih =>
    refine .sl b o h1 h2 h3 h4 h5 (fun i e j he hj => ?_) (fun i e j d u he hd hu => ?_)
    · obtain ⟨u, hu, h1⟩ := h6 i e j he hj
      exact ⟨u, h _ _ _ hu, h1⟩
    · have hj : j < sz := by
        rw [← h5 i e he]
        exact (List.getElem?_eq_some_iff.1 hd).1
      obtain ⟨u', hu', _⟩ := h6 i e j he hj
      have := h _ _ _ hu'
      rw [this] at hu
      cases hu
      exact ih i e j d _ he hd hu'
  | fn f => exact .fn f
  | nilp => exact .nilp
  | nilf => exact .nilf

/-- Abstract values: pure data, or something that refers to the call's own boxes. -/
inductive V where
  | p (d : PD)
  | dead
  | nilsl
  | ptr (id off : Nat)
  | rptr (id i sz off : Nat)
  | cptr (cs : List PD)
  | ms (id : Nat)
  | it (id : Nat)
  | func (fn : Fn) (first cap : List V)
  | agg (cs : List V)
  | tuple (vs : List V)
  | when (b : Bool) (x : V)
  deriving Inhabited

/-- Where a box lies: its block (a row that owns nothing yet has none); of a row: the slice itself. -/
structure Loc where
  blk : Option Nat
  val : Value := undef
  deriving Inhabited
abbrev Mu := Nat → Loc

inductive RV (M : FMap) (μ : Mu) : Value → V → Prop
  | p {u d} : Rd M u d → RV M μ u (.p d)
  | dead {u} : RV M μ u .dead
  | nilsl {a} : RV M μ (.slice a 0 0) .nilsl
  | ptr {id off b} : (μ id).blk = some b → RV M μ (.pointer (some ⟨b, off, none⟩)) (.ptr id off)
  | rptr {id i sz off b} : (μ id).blk = some b → RV M μ (.pointer (some ⟨b, i * sz + off, none⟩)) (.rptr id i sz off)
  | cptr {b o : Nat} {cs : List PD} : (∀ (j : Nat) d, cs[j]? = some d → ∃ u, M b (o + j) = some u ∧ u.oneCell' = true) → (∀ (j : Nat) d u, cs[j]? = some d → M b (o + j) = some u → Rd M u d) →
      RV M μ (.pointer (some ⟨b, o, none⟩)) (.cptr cs)
  | ms {u id} : u = (μ id).val → u.oneCell' = true → RV M μ u (.ms id)
  | it {id b} : (μ id).blk = some b → RV M μ (.pointer (some ⟨b, 0, none⟩)) (.it id)
  | func {fn : Fn} {f c : Array Value} {fs cs : List V} : f.size = fs.length → c.size = cs.length → (∀ (i : Nat) u x, f[i]? = some u → fs[i]? = some x → RV M μ u x) →
      (∀ (i : Nat) u x, c[i]? = some u → cs[i]? = some x → RV M μ u x) → RV M μ (.func fn f c) (.func fn fs cs)
  | agg {arr : Array Value} {cs : List V} : arr.size = cs.length → (∀ (i : Nat) u, arr[i]? = some u → u.oneCell' = true) → (∀ (i : Nat) u x, arr[i]? = some u → cs[i]? = some x → RV M μ u x) → RV M μ (.agg arr) (.agg cs)
  | tuple {arr : Array Value} {cs : List V} : arr.size = cs.length → (∀ (i : Nat) u x, arr[i]? = some u → cs[i]? = some x → RV M μ u x) → RV M μ (.tuple arr) (.tuple cs)
  | when {u b x} : (b = true → RV M μ u x) → (b = false → u = undef) → RV M μ u (.when b x)

mutual
/-- Nothing in the value refers to box 'id'. -/
def V.noRef (id : Nat) : V → Bool
  | .ptr i _ => i != id
  | .rptr i _ _ _ => i != id
  | .ms i => i != id
  | .it i => i != id
  | .func _ a b => V.noRefL id a && V.noRefL id b
  | .agg cs => V.noRefL id cs
  | .tuple cs => V.noRefL id cs
  | .when _ x => V.noRef id x
  | _ => true
def V.noRefL (id : Nat) : List V → Bool
  | [] => true
  | x :: xs => V.noRef id x && V.noRefL id xs
end

theorem V.noRefL_get {id : Nat} : ∀ {l : List V}, V.noRefL id l = true → ∀ {i : Nat} {x : V}, l[i]? = some x → V.noRef id x = true
  | [], _, i, x, h => by simp at h
  | y :: ys, h, i, x, hx => by
    simp only [V.noRefL, Bool.and_eq_true] at h
    cases i with
    | zero => simp at hx; subst hx; exact h.1
    | succ i => simp at hx; exact V.noRefL_get h.2 hx

/-- A reading stays where more cells are known, and where the boxes that it refers to lie as they lay. -/
theorem RV.mono {M M' : FMap} {μ μ' : Mu} (h : ∀ b o v, M b o = some v → M' b o = some v) {u : Value} {x : V} (r : RV M μ u x) :
    (∀ id, V.noRef id x = false → μ' id = μ id) → RV M' μ' u x := by
  induction r with
  | p r => exact fun _ => .p (r.mono h)
  | dead => exact fun _ => .dead
  | nilsl => exact fun _ => .nilsl
  | @ptr id off b h1 => intro k; have e := k id (by simp [V.noRef]); exact .ptr (by rw [e]; exact h1)
  | @rptr id i sz off b h1 => intro k; have e := k id (by simp [V.noRef]); exact .rptr (by rw [e]; exact h1)
  | @cptr b o cs h1 h2 =>
    refine fun _ => .cptr (fun j d hd => ?_) (fun j d u hd hu => ?_)
    · obtain ⟨u, hu, hc⟩ := h1 j d hd; exact ⟨u, h _ _ _ hu, hc⟩
    · obtain ⟨u', hu', _⟩ := h1 j d hd
      have := h _ _ _ hu'
      rw [this] at hu; cases hu
      exact (h2 j d _ hd hu').mono h
  | @ms u id h1 h2 => intro k; have e := k id (by simp [V.noRef]); exact .ms (by rw [e]; exact h1) h2
  | @it id b h1 => intro k; have e := k id (by simp [V.noRef]); exact .it (by rw [e]; exact h1)
  | func h1 h2 _ _ ih1 ih2 =>
    intro k
    refine .func h1 h2 (fun i u x hu hx => ih1 i u x hu hx fun id hid => k id ?_) (fun i u x hu hx => ih2 i u x hu hx fun id hid => k id ?_)
    · cases hh : V.noRef id (.func _ _ _) with
      | false => rfl
      | true => simp only [V.noRef, Bool.and_eq_true] at hh; rw [V.noRefL_get hh.1 hx] at hid; cases hid
    · cases hh : V.noRef id (.func _ _ _) with
      | false => rfl
      | true => simp only [V.noRef, Bool.and_eq_true] at hh; rw [V.noRefL_get hh.2 hx] at hid; cases hid
  | agg h1 h2 _ ih =>
    intro k
    refine .agg h1 h2 (fun i u x hu hx => ih i u x hu hx fun id hid => k id ?_)
    cases hh : V.noRef id (.agg _) with
    | false => rfl
    | true => simp only [V.noRef] at hh; rw [V.noRefL_get hh hx] at hid; cases hid
  | tuple h1 _ ih =>
    intro k
    refine .tuple h1 (fun i u x hu hx => ih i u x hu hx fun id hid => k id ?_)
    cases hh : V.noRef id (.tuple _) with
    | false => rfl
    | true => simp only [V.noRef] at hh; rw [V.noRefL_get hh hx] at hid; cases hid
  | when _ h2 ih => intro k; exact .when (fun hb => ih hb fun id hid => k id (by simpa [V.noRef] using hid)) h2

/-- A box of the call's own. -/
inductive Box where
  | vars (e : TypeId) (cs : List V)
  | row (e : TypeId) (sz : Nat) (es : List PD)
  | iter (s : List UInt8) (pos : Nat)

def Box.noRef (id : Nat) : Box → Bool
  | .vars _ cs => V.noRefL id cs
  | _ => true

inductive RBox (M : FMap) (μ : Mu) (w : World) (id : Nat) : Box → Prop
  | vars {e cs b} {arr : Array Value} : (μ id).blk = some b → w.heap[b]? = some (.cells arr e (0, 0)) → arr.size = cs.length → (∀ (i : Nat) u, arr[i]? = some u → u.oneCell' = true) →
      (∀ (i : Nat) u x, arr[i]? = some u → cs[i]? = some x → RV M μ u x) → RBox M μ w id (.vars e cs)
  | row {e sz es b cap} {arr : Array Value} : (μ id).blk = some b → (μ id).val = .slice (some ⟨b, 0, none⟩) es.length cap → w.heap[b]? = some (.cells arr e (0, 0)) → arr.size = cap * sz → es.length ≤ cap → cap ≤ maxLen →
      (∀ (i : Nat) u, arr[i]? = some u → u.oneCell' = true) →
      (∀ (i : Nat) e', es[i]? = some e' → e'.cells.length = sz) →
      (∀ (i : Nat) e' (j : Nat) d u, es[i]? = some e' → e'.cells[j]? = some d → arr[i * sz + j]? = some u → Rd M u d) → RBox M μ w id (.row e sz es)
  | rowN {e sz a} : (μ id).blk = none → (μ id).val = .slice a 0 0 → RBox M μ w id (.row e sz [])
  | iter {s : List UInt8} {pos b} {ba : ByteArray} : (μ id).blk = some b → w.heap[b]? = some (.stringIter ba pos) → ba.data.toList = s → s.length ≤ maxLen → RBox M μ w id (.iter s pos)

theorem RBox.mono {M M' : FMap} {μ μ' : Mu} {w w' : World} {id : Nat} {bx : Box} (h : ∀ b o v, M b o = some v → M' b o = some v) (hid : μ' id = μ id)
    (hk : ∀ i, Box.noRef i bx = false → μ' i = μ i) (hw : ∀ b, (μ id).blk = some b → w'.heap[b]? = w.heap[b]?) (r : RBox M μ w id bx) : RBox M' μ' w' id bx := by
  cases r with
  | vars h0 h1 h2 h3 h4 =>
    refine .vars (by rw [hid]; exact h0) (by rw [hw _ h0]; exact h1) h2 h3 fun i u x hu hx => (h4 i u x hu hx).mono h fun j hj => hk j ?_
    cases hh : Box.noRef j (.vars _ _) with
    | false => rfl
    | true => simp only [Box.noRef] at hh; rw [V.noRefL_get hh hx] at hj; cases hj
  | row h0 hv h1 h2 h3 h4 h5 h6 h7 =>
    exact .row (by rw [hid]; exact h0) (by rw [hid]; exact hv) (by rw [hw _ h0]; exact h1) h2 h3 h4 h5 h6 fun i e' j d u he hd hu => (h7 i e' j d u he hd hu).mono h
  | rowN h0 hv => exact .rowN (by rw [hid]; exact h0) (by rw [hid]; exact hv)
  | iter h0 h1 h2 h3 => exact .iter (by rw [hid]; exact h0) (by rw [hw _ h0]; exact h1) h2 h3

/-- The abstract state: the slots, the boxes that lie where they lay when the call began, the boxes, the number that the next boxes' names begin with. -/
structure St where
  tmps : List V
  pins : List Nat
  H : List (Nat × Box)
  base : Nat := 0

def St.put (st : St) (dst : Option Nat) (x : V) : St :=
  match dst with
  | some d => { st with tmps := st.tmps.set d x }
  | none => st

structure Ctx where
  B : Nat
  w0 : World
  M0 : FMap
  mu0 : Mu
  /-- The older blocks that the call may change (they are lent to it). -/
  lent : Nat → Prop := fun _ => False

def Ctx.mine (c : Ctx) (b : Nat) : Prop := c.B ≤ b ∨ c.lent b

/-- Only what is free has changed; the streams are as they were; no block has gone. -/
structure Kept (free : Nat → Prop) (w w' : World) : Prop where
  os : w'.os = w.os
  tape : w'.tape = w.tape
  output : w'.output = w.output
  size : w.heap.size ≤ w'.heap.size
  block : ∀ k, ¬ free k → w'.heap[k]? = w.heap[k]?
theorem Kept.refl (free : Nat → Prop) (w : World) : Kept free w w := ⟨rfl, rfl, rfl, Nat.le_refl _, fun _ _ => rfl⟩
theorem Kept.trans {free : Nat → Prop} {a b c : World} (h : Kept free a b) (k : Kept free b c) : Kept free a c :=
  ⟨k.os.trans h.os, k.tape.trans h.tape, k.output.trans h.output, Nat.le_trans h.size k.size, fun i hi => (k.block i hi).trans (h.block i hi)⟩

def RL (M : FMap) (μ : Mu) (arr : Array Value) (l : List V) : Prop := arr.size = l.length ∧ ∀ (i : Nat) u x, arr[i]? = some u → l[i]? = some x → RV M μ u x

theorem RL.mono {M M' : FMap} {μ μ' : Mu} {arr : Array Value} {l : List V} (h : ∀ b o v, M b o = some v → M' b o = some v)
    (hk : ∀ i, V.noRefL i l = false → μ' i = μ i) (r : RL M μ arr l) : RL M' μ' arr l :=
  ⟨r.1, fun i u x hu hx => (r.2 i u x hu hx).mono h fun j hj => hk j (by
    cases hh : V.noRefL j l with
    | false => rfl
    | true => rw [V.noRefL_get hh hx] at hj; cases hj)⟩

def noRefH (id : Nat) : List (Nat × Box) → Bool
  | [] => true
  | (_, b) :: r => b.noRef id && noRefH id r
theorem noRefH_mem {id : Nat} : ∀ {H : List (Nat × Box)}, noRefH id H = true → ∀ {i : Nat} {b : Box}, (i, b) ∈ H → b.noRef id = true
  | [], _, _, _, h => by cases h
  | (j, c) :: r, h, i, b, hm => by
    simp only [noRefH, Bool.and_eq_true] at h
    rcases List.mem_cons.1 hm with e | e
    · cases e; exact h.1
    · exact noRefH_mem h.2 e

def keyIn (id : Nat) : List (Nat × Box) → Bool
  | [] => false
  | (i, _) :: r => i == id || keyIn id r
theorem keyIn_iff {id : Nat} : ∀ {H : List (Nat × Box)}, keyIn id H = true ↔ ∃ b, (id, b) ∈ H
  | [] => by simp [keyIn]
  | (j, c) :: r => by
    simp only [keyIn, Bool.or_eq_true, beq_iff_eq, keyIn_iff (H := r), List.mem_cons, Prod.mk.injEq]
    constructor
    · rintro (rfl | ⟨b, hb⟩)
      · exact ⟨c, .inl ⟨rfl, rfl⟩⟩
      · exact ⟨b, .inr hb⟩
    · rintro ⟨b, ⟨rfl, rfl⟩ | hb⟩
      · exact .inl rfl
      · exact .inr ⟨b, hb⟩

/-- No slot and no box refers to 'id', and none is called so. -/
def St.fresh (st : St) (id : Nat) : Bool := V.noRefL id st.tmps && !st.pins.contains id && noRefH id st.H && !keyIn id st.H

structure Rel (c : Ctx) (M : FMap) (μ : Mu) (st : St) (tmps : Array Value) (w : World) : Prop where
  mem : ∀ b o v, M b o = some v → w.cell? ⟨b, o, none⟩ = some v
  ext : ∀ b o v, c.M0 b o = some v → M b o = some v
  old : ∀ b o, ¬ c.mine b → M b o = c.M0 b o
  slots : RL M μ tmps st.tmps
  pins : ∀ id ∈ st.pins, μ id = c.mu0 id
  box : ∀ id bx, (id, bx) ∈ st.H → RBox M μ w id bx
  nodup : (st.H.map (·.1)).Nodup
  inj : ∀ id id' b, keyIn id st.H = true → keyIn id' st.H = true → (μ id).blk = some b → (μ id').blk = some b → id = id'
  own : ∀ id b, keyIn id st.H = true → (μ id).blk = some b → c.mine b ∧ b < w.heap.size ∧ ∀ o, M b o = none
  size : c.B ≤ w.heap.size
  below : Kept c.mine c.w0 w

theorem Rel.put {c : Ctx} {M : FMap} {μ : Mu} {st : St} {tmps : Array Value} {w : World} (r : Rel c M μ st tmps w) {u : Value} {x : V} (h : RV M μ u x) (dst : Option Nat) :
    Rel c M μ (st.put dst x) (match dst with | some d => tmps.setIfInBounds d u | none => tmps) w := by
  cases dst with
  | none => exact r
  | some d =>
    refine { r with slots := ?_ }
    refine ⟨by simp [St.put, r.slots.1], fun i u' x' hu hx => ?_⟩
    simp only [St.put] at hx
    rw [Array.getElem?_setIfInBounds] at hu
    rw [List.getElem?_set] at hx
    by_cases hd : d = i
    · subst hd
      simp only [if_true] at hu hx
      have h1 := r.slots.1
      split at hu
      · split at hx
        · cases hu; cases hx; exact h
        · cases hx
      · cases hu
    · rw [if_neg hd] at hu hx
      exact r.slots.2 i u' x' hu hx

theorem Act.put_tmps (a : Act) (dst : Option Tmp) (u : Value) : (a.put dst u) = { a with tmps := (match dst with | some d => a.tmps.setIfInBounds d u | none => a.tmps) } := by
  cases dst <;> rfl

end Go.Proofs.YtdploelkmlbhnaaDoor.Sy
