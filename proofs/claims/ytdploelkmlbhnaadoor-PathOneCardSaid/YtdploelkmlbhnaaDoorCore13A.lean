/-
  OUR OWN LAYER, 13A: arrays: their elements' addresses, loads and stores there.
-/
import Derived.Test.YtdploelkmlbhnaaDoorCore13
namespace Go.Proofs.YtdploelkmlbhnaaDoor.Sy
open Go

/-- Cells of plain data. -/
def pcells (ds : List PD) : List V := ds.map .p
def reps (n : Nat) (d : PD) : List PD := List.replicate n d
@[simp] theorem pcells_len (ds : List PD) : (pcells ds).length = ds.length := by simp [pcells]
@[simp] theorem reps_len (n : Nat) (d : PD) : (reps n d).length = n := by simp [reps]
@[simp] theorem pcells_take (ds : List PD) (n : Nat) : (pcells ds).take n = pcells (ds.take n) := by simp [pcells, List.map_take]
@[simp] theorem pcells_drop (ds : List PD) (n : Nat) : (pcells ds).drop n = pcells (ds.drop n) := by simp [pcells, List.map_drop]
@[simp] theorem pcells_nil : pcells [] = [] := rfl
@[simp] theorem pcells_get (ds : List PD) (n : Nat) : (pcells ds)[n]? = (ds[n]?).map .p := by simp [pcells]
@[simp] theorem pcells_set (ds : List PD) (n : Nat) (d : PD) : (pcells ds).set n (.p d) = pcells (ds.set n d) := by simp [pcells, List.map_set]
@[simp] theorem pcells_noRef (id : Nat) : ∀ ds, V.noRefL id (pcells ds) = true
  | [] => by simp [pcells, V.noRefL]
  | d :: ds => by
    have := pcells_noRef id ds
    simp only [pcells, List.map_cons, V.noRefL, V.noRef, Bool.true_and] at this ⊢; exact this
@[simp] theorem pcells_kill (id : Nat) : ∀ ds, killL id (pcells ds) = pcells ds
  | [] => by simp [pcells, killL]
  | d :: ds => by
    have := pcells_kill id ds
    simp only [pcells, List.map_cons, killL, V.noRef] at this ⊢; rw [this]
@[simp] theorem pcells_frz (id : Nat) (e : PD) : ∀ ds, V.frzL id e (pcells ds) = pcells ds
  | [] => by simp [pcells, V.frzL]
  | d :: ds => by
    have := pcells_frz id e ds
    simp only [pcells, List.map_cons, V.frzL, V.frz] at this ⊢; rw [this]
@[simp] theorem pcells_pur : ∀ ds, purL (pcells ds) = some ds
  | [] => by simp [pcells, purL]
  | d :: ds => by
    have := pcells_pur ds
    simp only [pcells, List.map_cons, purL] at this ⊢; rw [this]
@[simp] theorem VLeL_self (l : List V) : VLeL l l = True := eq_true (VLeL.refl l)

def arrStill (T : Tab) (G : Glob) (st : St) (op : Op) (orc : List PD) : Option (Prop × V × List PD) :=
  match op with
  | .indexAddr t x i => match tkOf T t, st.arg G x, st.arg G i with
    | some (.ar n el), (p, .ptr id a), (q, .p (.int _ m)) => match T el with
      | some ti => some (p ∧ q ∧ 0 ≤ m ∧ m < n, .rptr id m.toNat ti.size a, orc)
      | none => none
    | some (.ar n el), (p, .cptr cs), (q, .p (.int _ m)) => match T el, orc with
      | some ti, e :: orc' => some (p ∧ q ∧ 0 ≤ m ∧ m < n ∧ (cs.drop (m.toNat * ti.size)).take ti.size = e.cells, .cptr e.cells, orc')
      | _, _ => none
    | _, _, _ => none
  | .load t x => match T t, st.arg G x, orc with
    | some ti, (p, .rptr id i sz o), e :: orc' => match boxOf id st.H, ti.k.agg with
      | some (.vars _ cells), false => some (p ∧ cells[i * sz + o]? = some (.p e), .p e, orc')
      | _, _ => none
    | _, _, _ => none
  | _ => none

section
variable {P : Program} {T : Tab} {G : Glob} {c : Ctx} {M : FMap} {μ : Mu} {st : St} {tmps : Array Value} {w : World}

theorem arrStill_sound (hT : TOK P T) (hg : GOK G c.M0) (r : Rel c M μ st tmps w) {o : Oper} {orc orc' : List PD} {v : Prop} {x : V} (h : arrStill T G st o.op orc = some (v, x, orc')) (hv : v) :
    ∃ u, (execOp (Act.eval ⟨tmps, []⟩) o).run P w = .ok (.value u) w ∧ RV M μ u x := by
  obtain ⟨dst, op, ty, pos, after, guard⟩ := o
  simp only at h
  unfold arrStill at h
  split at h
  · rename_i t a i
    split at h
    · rename_i n el p id off q k m hk h1 h2
      split at h
      · rename_i ti hti
        simp only [Option.some.injEq, Prod.mk.injEq] at h
        obtain ⟨rfl, rfl, rfl⟩ := h
        obtain ⟨hp, hq, h0, hm⟩ := hv
        have hd := hT.ar hk
        obtain ⟨ie, de, hi', _, _, hsz', _⟩ := hT.get hti
        have e1 := arg_sound hg r h1 hp
        have e2 := (arg_sound hg r h2 hq).p_inv
        generalize hu1 : Act.eval ⟨tmps, []⟩ a = u1 at e1
        generalize hu2 : Act.eval ⟨tmps, []⟩ i = u2 at e2
        cases e1 with
        | @ptr _ _ b hb =>
        cases e2
        have hso : (sizeOf el).run P w = .ok ti.size w := by simp [sizeOf, typeInfo, hi', hsz']
        refine ⟨.pointer (some ⟨b, m.toNat * ti.size + off, none⟩), ?_, .rptr hb⟩
        simp [execOp, hu1, hu2, Instr.indexAt, asIntOf, run_underlying hd, h0, hm, hso, add_eq, Instr.sureAddr, Nat.add_comm]
      · cases h
    · rename_i n el p cs q k m hk h1 h2
      split at h
      · rename_i ti e orc2 hti
        simp only [Option.some.injEq, Prod.mk.injEq] at h
        obtain ⟨rfl, rfl, rfl⟩ := h
        obtain ⟨hp, hq, h0, hm, hcs⟩ := hv
        have hd := hT.ar hk
        obtain ⟨ie, de, hi', _, _, hsz', _⟩ := hT.get hti
        have e1 := arg_sound hg r h1 hp
        have e2 := (arg_sound hg r h2 hq).p_inv
        generalize hu1 : Act.eval ⟨tmps, []⟩ a = u1 at e1
        generalize hu2 : Act.eval ⟨tmps, []⟩ i = u2 at e2
        cases e1 with
        | @cptr b o _ h3 h4 =>
        cases e2
        have hso : (sizeOf el).run P w = .ok ti.size w := by simp [sizeOf, typeInfo, hi', hsz']
        have hget : ∀ (j : Nat) d, e.cells[j]? = some d → cs[m.toNat * ti.size + j]? = some d := fun j d hd' => by
          rw [← hcs, List.getElem?_take] at hd'
          split at hd'
          · rw [List.getElem?_drop] at hd'; exact hd'
          · cases hd'
        refine ⟨.pointer (some ⟨b, o + m.toNat * ti.size, none⟩), ?_, .cptr (fun j d hd' => ?_) (fun j d u hd' hu' => ?_)⟩
        · simp [execOp, hu1, hu2, Instr.indexAt, asIntOf, run_underlying hd, h0, hm, hso, add_eq, Instr.sureAddr]
        · rw [Nat.add_assoc]; exact h3 _ d (hget j d hd')
        · rw [Nat.add_assoc] at hu'; exact h4 _ d u (hget j d hd') hu'
      · cases h
    · cases h
  · rename_i t a
    split at h
    · rename_i ti p id i sz off e orc2 hti h1
      split at h
      · rename_i e0 cells hb hag
        simp only [Option.some.injEq, Prod.mk.injEq] at h
        obtain ⟨rfl, rfl, rfl⟩ := h
        obtain ⟨hp, hce⟩ := hv
        obtain ⟨it, d, hi, hd, hk, hsz, _⟩ := hT.get hti
        have e1 := arg_sound hg r h1 hp
        generalize hu1 : Act.eval ⟨tmps, []⟩ a = u1 at e1
        cases e1 with
        | @rptr _ _ _ _ b hbk =>
        have hbx := r.box id _ (boxOf_mem hb)
        cases hbx with
        | @vars _ _ bk' arr h0 hh hs ho hc =>
        rw [hbk] at h0
        cases h0
        have hlt : i * sz + off < arr.size := by rw [hs]; exact (List.getElem?_eq_some_iff.1 hce).1
        have hcell : w.cell? ⟨b, i * sz + off, none⟩ = arr[i * sz + off]? := cell_of_block hh
        refine ⟨_, ?_, hc (i * sz + off) arr[i * sz + off] (.p e) (by simp [hlt]) hce⟩
        have := run_loadAt hd hi b (i * sz + off) (fun _ => arr[i * sz + off]) w (fun j hj => by
          rw [hk, hag] at hj
          have : j = 0 := by simpa using hj
          subst this
          rw [Nat.add_zero, hcell]; simp [hlt])
        rw [hk, hag] at this
        simp [execOp, hu1, this]
      · cases h
    · cases h
  · cases h

theorem splice_one (cells : List V) (off : Nat) (y : V) (h : off < cells.length) : splice cells off [y] = cells.set off y := by
  simp only [splice, List.length_singleton]
  rw [List.set_eq_take_append_cons_drop, if_pos h]
  simp

theorem y_storeArr (hT : TOK P T) {o : Oper} {st : St} {t : TypeId} {a x : Operand} (ho : o.op = .store t a x) {ti : TI} (ht : T t = some ti) {p q : Prop} {id i sz off : Nat} {v : V}
    (ha : st.arg G a = (p, .rptr id i sz off)) (hp : p) (hx : st.arg G x = (q, v)) (hq : q) {e : TypeId} {cells : List V} (hb : boxOf id st.H = some (.vars e cells)) {xs : List V} (hxs : v.cells = some xs)
    (hsz : xs.length = ti.size) (hfit : i * sz + off + xs.length ≤ cells.length) : Yields P G o st .dead { st with H := setBox id (.vars e (splice cells (i * sz + off) xs)) st.H } := by
  intro c M μ tmps w hg r
  have h1 := arg_sound hg r ha hp
  refine y_store_at hT ho ht (off := i * sz + off) (id := id) hx hq hb hxs hsz hfit c M μ tmps w hg r ?_
  generalize Act.eval ⟨tmps, []⟩ a = u1 at h1
  cases h1 with
  | rptr hb => exact .ptr hb

def arrEff (T : Tab) (G : Glob) (st : St) (op : Op) (orc : List PD) : Option (Prop × V × St × List PD) :=
  match op with
  | .store t a x => match T t, st.arg G a, st.arg G x with
    | some ti, (p, .rptr id i sz off), (q, v) => match boxOf id st.H, v.cells with
      | some (.vars e cells), some [y] => some (p ∧ q ∧ ti.size = 1 ∧ i * sz + off < cells.length, .dead, { st with H := setBox id (.vars e (cells.set (i * sz + off) y)) st.H }, orc)
      | _, _ => none
    | _, _, _ => none
  | _ => none
theorem arrEff_sound (hT : TOK P T) {st st' : St} {o : Oper} {orc orc' : List PD} {vc : Prop} {x : V} (h : arrEff T G st o.op orc = some (vc, x, st', orc')) (hv : vc) : Yields P G o st x st' := by
  unfold arrEff at h
  split at h
  · rename_i t a y ho
    split at h
    · rename_i ti p id i sz off q v hti ha hy
      split at h
      · rename_i e cells z hb hz
        simp only [Option.some.injEq, Prod.mk.injEq] at h
        obtain ⟨rfl, rfl, rfl, rfl⟩ := h
        obtain ⟨hp, hq, h1, h2⟩ := hv
        have := y_storeArr hT ho hti ha hp hy hq hb hz (by simp [h1]) (by simp only [List.length_singleton]; omega)
        rw [splice_one _ _ _ h2] at this
        exact this
      · cases h
    · cases h
  · cases h
attribute [simp] arrStill arrEff
end
end Go.Proofs.YtdploelkmlbhnaaDoor.Sy
