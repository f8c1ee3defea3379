/-
  OUR OWN LAYER, 14: a list of operations run through: what must hold, and the state behind it.
-/
import Derived.Test.YtdploelkmlbhnaaDoorCore13A
namespace Go.Proofs.YtdploelkmlbhnaaDoor.Sy
open Go

def idOf (st : St) (dst : Option Nat) : Nat :=
  match dst with
  | some d => st.base + d
  | none => 0

def allP : List Prop → Prop
  | [] => True
  | p :: ps => p ∧ allP ps
theorem allP_mem : ∀ {l : List Prop}, allP l → ∀ p ∈ l, p
  | [], _, p, h => by cases h
  | q :: l, h, p, hp => by
    rcases List.mem_cons.1 hp with e | e
    · rw [e]; exact h.1
    · exact allP_mem h.2 p e

/-- What is known of the functions (in use: 'AFn P G'). -/
abbrev Know := FuncId → List PD → PD → Prop

/-- The types of a type's cells. -/
def flatT (T : Tab) : Nat → TypeId → List TypeId
  | 0, t => [t]
  | f + 1, t => match T t with
    | some ti => match ti.k with
      | .st fs => fs.flatMap fun p => flatT T f p.2
      | _ => [t]
    | none => [t]
/-- What a value reads as, where that can be told. -/
def toPD1 (T : Tab) (t : TypeId) : V → Option PD
  | .p d => some d
  | .nilsl => match tkOf T t with
    | some (.sl e) => match T e with
      | some te => some (.sl te.size [])
      | none => none
    | _ => none
  | _ => none
def toPDl (T : Tab) : List TypeId → List V → Option (List PD)
  | t :: ts, v :: vs => match toPD1 T t v, toPDl T ts vs with
    | some d, some ds => some (d :: ds)
    | _, _ => none
  | [], [] => some []
  | _, _ => none
def V.toPD (T : Tab) (t : TypeId) : V → Option PD
  | .agg cs => match toPDl T (flatT T 5 t) cs with
    | some ds => some (.agg ds)
    | none => none
  | v => toPD1 T t v
def toPDs (T : Tab) : List TypeId → List V → Option (List PD)
  | t :: ts, v :: vs => match V.toPD T t v, toPDs T ts vs with
    | some d, some ds => some (d :: ds)
    | _, _ => none
  | [], [] => some []
  | _, _ => none
theorem toPD1_fits {T : Tab} {t : TypeId} {v : V} {d : PD} (h : toPD1 T t v = some d) : V.fits [] v d := by
  unfold toPD1 at h
  split at h
  · cases h; simp only [V.fits]
  · split at h
    · split at h
      · cases h; simp only [V.fits]
      · cases h
    · cases h
  · cases h
theorem toPDl_fits {T : Tab} : ∀ {ts : List TypeId} {vs : List V} {ds : List PD}, toPDl T ts vs = some ds → V.fitsL [] vs ds
  | t :: ts, v :: vs, ds, h => by
    simp only [toPDl] at h
    split at h
    · rename_i d ds' h1 h2
      cases h
      simp only [V.fitsL]
      exact ⟨toPD1_fits h1, toPDl_fits h2⟩
    · cases h
  | [], [], ds, h => by simp only [toPDl, Option.some.injEq] at h; subst h; simp only [V.fitsL]
  | [], _ :: _, ds, h => by simp [toPDl] at h
  | _ :: _, [], ds, h => by simp [toPDl] at h
theorem toPD_fits {T : Tab} {t : TypeId} {v : V} {d : PD} (h : V.toPD T t v = some d) : V.fits [] v d := by
  unfold V.toPD at h
  split at h
  · split at h
    · rename_i ds hd
      cases h
      simp only [V.fits]
      exact toPDl_fits hd
    · cases h
  · exact toPD1_fits h
theorem toPDs_fits {T : Tab} : ∀ {ts : List TypeId} {vs : List V} {ds : List PD}, toPDs T ts vs = some ds → V.fitsL [] vs ds
  | t :: ts, v :: vs, ds, h => by
    simp only [toPDs] at h
    split at h
    · rename_i d ds' h1 h2
      cases h
      simp only [V.fitsL]
      exact ⟨toPD_fits h1, toPDs_fits h2⟩
    · cases h
  | [], [], ds, h => by simp only [toPDs, Option.some.injEq] at h; subst h; simp only [V.fitsL]
  | [], _ :: _, ds, h => by simp [toPDs] at h
  | _ :: _, [], ds, h => by simp [toPDs] at h
attribute [simp] flatT toPD1 toPDl V.toPD toPDs

/-- A call: the oracle tells what comes of it, with what it is called ('.tup as'), or not ('.nilp': that is read off the state). -/
def callOf (C : Know) (T : Tab) (G : Glob) (st : St) (op : Op) (orc : List PD) : Option (Prop × V × List PD) :=
  match op with
  | .call { callee := .value x, args, argTypes } => match st.arg G x, orc with
    | (p, .p (.fn f)), .tup as :: r :: orc' => some (p ∧ allP (args.toList.map fun y => (st.arg G y).1) ∧ V.fitsL [] (args.toList.map fun y => (st.arg G y).2) as ∧ C f as r, .p r, orc')
    | (p, .p (.fn f)), .nilp :: r :: orc' => match toPDs T argTypes.toList (args.toList.map fun y => (st.arg G y).2) with
      | some as => some (p ∧ allP (args.toList.map fun y => (st.arg G y).1) ∧ C f as r, .p r, orc')
      | none => none
    | _, _ => none
  | _ => none
theorem callOf_spec {C : Know} {T : Tab} {G : Glob} {st : St} {op : Op} {orc orc' : List PD} {vc : Prop} {x : V} (h : callOf C T G st op orc = some (vc, x, orc')) (hv : vc) :
    ∃ y args tys p f as r, op = .call { callee := .value y, args := args, argTypes := tys } ∧ st.arg G y = (p, .p (.fn f)) ∧ p ∧ allP (args.toList.map fun y => (st.arg G y).1) ∧ V.fitsL [] (args.toList.map fun y => (st.arg G y).2) as ∧ C f as r ∧ x = .p r := by
  unfold callOf at h
  split at h
  · rename_i y args tys
    split at h
    · rename_i p f as r orc2 hf
      simp only [Option.some.injEq, Prod.mk.injEq] at h
      obtain ⟨rfl, rfl, rfl⟩ := h
      exact ⟨_, _, _, p, f, as, r, rfl, hf, hv.1, hv.2.1, hv.2.2.1, hv.2.2.2, rfl⟩
    · rename_i p f r orc2 hf
      split at h
      · rename_i as has
        simp only [Option.some.injEq, Prod.mk.injEq] at h
        obtain ⟨rfl, rfl, rfl⟩ := h
        exact ⟨_, _, _, p, f, as, r, rfl, hf, hv.1, hv.2.1, toPDs_fits has, hv.2.2, rfl⟩
      · cases h
    · cases h
  · cases h

theorem zip_fst_snd {α β γ : Type} (l : List γ) (f : γ → α) (g : γ → β) : l.map (fun y => (f y, g y)) = (l.map f).zip (l.map g) := by
  induction l with
  | nil => rfl
  | cons a l ih => simp [ih]

theorem callOf_sound {P : Program} {T : Tab} {G : Glob} {st : St} {o : Oper} {orc orc' : List PD} {vc : Prop} {x : V} (h : callOf (AFn P G) T G st o.op orc = some (vc, x, orc')) (hv : vc) : Yields P G o st x st := by
  obtain ⟨y, args, tys, p, f, as, r, ho, hf, hp, hall, hfit, hc, rfl⟩ := callOf_spec h hv
  exact y_call ho hf hp hc (q := args.toList.map fun y => (st.arg G y).1) (ys := args.toList.map fun y => (st.arg G y).2) (zip_fst_snd args.toList _ _) (by simp) (fun p hp => allP_mem hall p hp) hfit

def eff (T : Tab) (G : Glob) (st : St) (o : Oper) (orc : List PD) : Option (Prop × V × St × List PD) :=
  let id := idOf st o.dst
  match o.op with
  | .alloc e => match T e with
    | some ti => match ti.zero.cells with
      | some zs => some (st.fresh id = true ∧ V.noRefL id zs = true, .ptr id 0, { st with H := (id, .vars e zs) :: st.H }, orc)
      | none => none
    | none => none
  | .box e x => match st.arg G x with
    | (p, v) => match v.cells with
      | some zs => some (p ∧ st.fresh id = true ∧ V.noRefL id zs = true, .ptr id 0, { st with H := (id, .vars e zs) :: st.H }, orc)
      | none => none
  | .store t a x => match T t, st.arg G a, st.arg G x with
    | some ti, (p, .ptr bid off), (q, v) => match boxOf bid st.H, v.cells with
      | some (.vars e cells), some xs => some (p ∧ q ∧ xs.length = ti.size ∧ off + xs.length ≤ cells.length, .dead, { st with H := setBox bid (.vars e (splice cells off xs)) st.H }, orc)
      | _, _ => none
    | some ti, (p, .rptr bid i sz off), (q, v) => match boxOf bid st.H, v.cells, orc with
      | some (.row e sz' es), some xs, e0 :: e1 :: orc' => some (p ∧ q ∧ sz' = sz ∧ xs.length = ti.size ∧ es[i]? = some e0 ∧ off + xs.length ≤ e0.cells.length ∧ V.fitsL [] (spliceD e0.cells off xs) e1.cells, .dead,
          { st with H := setBox bid (.row e sz' (es.set i e1)) st.H }, orc')
      | _, _, _ => none
    | _, _, _ => none
  | .buildSlice t n parts => match tkOf T t with
    | some (.sl el) => match T el with
      | some ti => match ti.zero.cells, rowParts st G ti.size 0 parts.toList orc with
        | some zs, some (q, es, orc') => some (parts.toList.length = n ∧ zs.length = ti.size ∧ q ∧ n * ti.size ≤ 16777216 ∧ n ≤ 16777216 ∧ st.fresh id = true, .ms id, { st with H := (id, .row el ti.size es) :: st.H }, orc')
        | _, _ => none
      | none => none
    | _ => none
  | .makeSlice t l c => match tkOf T t, st.arg G l, st.arg G c, orc with
    | some (.sl el), (p, .p (.int _ n)), (q, .p (.int _ m)), e0 :: orc' => match T el with
      | some ti => match ti.zero.cells with
        | some zs => some (p ∧ q ∧ n = m ∧ zs.length = ti.size ∧ V.fitsL [] zs e0.cells ∧ 0 ≤ n ∧ (ti.bytes : Int) * n ≤ 140737488355328 ∧ 0 < ti.bytes ∧ st.fresh id = true, .ms id,
            { st with H := (id, .row el ti.size (List.replicate n.toNat e0)) :: st.H }, orc')
        | none => none
      | none => none
    | _, _, _, _ => none
  | .call { callee := .builtin b, args, argTypes } => match b, args.toList, argTypes.toList with
    | .append, [s, x], [t, tx] => match tkOf T t, st.arg G s, st.arg G x with
      | some (.sl el), (p, v), (q, y) => match T el with
        | some ti => match ti.zero.cells, srcOf st (tkOf T tx) y with
          | some zs, some (sz, fs) => match v with
            | .nilsl => some (p ∧ q ∧ zs.length = ti.size ∧ 0 < ti.bytes ∧ ti.size = sz ∧ (fs.length) * ti.bytes ≤ 140737488355328 ∧ st.fresh id = true, .ms id, { st with H := (id, .row el sz fs) :: st.H }, orc)
            | .ms id0 => match boxOf id0 st.H with
              | some (.row e' sz' es) => some (p ∧ q ∧ zs.length = ti.size ∧ 0 < ti.bytes ∧ ti.size = sz ∧ e' = el ∧ sz' = sz ∧ (es.length + fs.length) * ti.bytes ≤ 140737488355328, .ms id0,
                  { st.kill id0 with H := (id0, .row el sz (es ++ fs)) :: (st.kill id0).H }, orc)
              | _ => none
            | _ => none
          | _, _ => none
        | none => none
      | _, _, _ => none
    | _, _, _ => none
  | .range t x => match tkOf T t, st.arg G x with
    | some .str, (p, .p (.str s)) => some (p ∧ st.fresh id = true, .it id, { st with H := (id, .iter s 0) :: st.H }, orc)
    | _, _ => none
  | .next it true => match st.arg G it, orc with
    | (p, .it bid), .bool more :: orc' => match boxOf bid st.H with
      | some (.iter s pos) => match more with
        | true => some (p ∧ pos < s.length, .tuple [.p (.bool true), .p (.int .i64 pos), .p (.int .i32 (decL s pos).1)], { st with H := setBox bid (.iter s (pos + (decL s pos).2)) st.H }, orc')
        | false => some (p ∧ ¬ pos < s.length, .tuple [.p (.bool false)], { st with H := setBox bid (.iter s pos) st.H }, orc')
      | _ => none
    | _, _ => none
  | _ => none

theorem eff_sound {P : Program} {T : Tab} {G : Glob} (hT : TOK P T) {st st' : St} {o : Oper} {orc orc' : List PD} {vc : Prop} {x : V} (h : eff T G st o orc = some (vc, x, st', orc')) (hv : vc) : Yields P G o st x st' := by
  unfold eff at h
  simp only at h
  split at h
  · rename_i e ho
    split at h
    · rename_i ti hti
      split at h
      · rename_i zs hz
        simp only [Option.some.injEq, Prod.mk.injEq] at h
        obtain ⟨rfl, rfl, rfl, rfl⟩ := h
        exact y_alloc hT ho hti hz _ hv.1 hv.2
      · cases h
    · cases h
  · rename_i e y ho
    have hy : st.arg G y = ((st.arg G y).1, (st.arg G y).2) := rfl
    split at h
    · rename_i zs hz
      simp only [Option.some.injEq, Prod.mk.injEq] at h
      obtain ⟨rfl, rfl, rfl, rfl⟩ := h
      exact y_box hT ho hy hv.1 hz _ hv.2.1 hv.2.2
    · cases h
  · rename_i t a y ho
    split at h
    · rename_i ti p bid off q v hti ha hy
      split at h
      · rename_i e cells xs hb hxs
        simp only [Option.some.injEq, Prod.mk.injEq] at h
        obtain ⟨rfl, rfl, rfl, rfl⟩ := h
        exact y_store hT ho hti ha hv.1 hy hv.2.1 hb hxs hv.2.2.1 hv.2.2.2
      · cases h
    · rename_i ti p bid i sz off q v hti ha hy
      split at h
      · rename_i e sz' es xs e0 e1 orc2 hb hxs
        simp only [Option.some.injEq, Prod.mk.injEq] at h
        obtain ⟨rfl, rfl, rfl, rfl⟩ := h
        obtain ⟨hp, hq, rfl, h1, h2, h3, h4⟩ := hv
        exact y_storeRow hT ho hti ha hp hy hq hb hxs h1 h2 h3 h4
      · cases h
    · cases h
  · rename_i t n parts ho
    split at h
    · rename_i el ht
      split at h
      · rename_i ti hti
        split at h
        · rename_i zs q es orc2 hz hpt
          simp only [Option.some.injEq, Prod.mk.injEq] at h
          obtain ⟨rfl, rfl, rfl, rfl⟩ := h
          obtain ⟨h1, h2, h3, h4, h5, h6⟩ := hv
          exact y_buildSlice hT ho h1 ht hti hz h2 hpt h3 h4 h5 _ h6
        · cases h
      · cases h
    · cases h
  · rename_i t l cc ho
    split at h
    · rename_i el p _ n q _ m e0 orc2 ht hl hc
      split at h
      · rename_i ti hti
        split at h
        · rename_i zs hz
          simp only [Option.some.injEq, Prod.mk.injEq] at h
          obtain ⟨rfl, rfl, rfl, rfl⟩ := h
          obtain ⟨hp, hq, rfl, h1, h2, h3, h4, h5, h6⟩ := hv
          exact y_makeSlice hT ho hl hp hc hq ht hti hz h1 h2 h3 h4 h5 _ h6
        · cases h
      · cases h
    · cases h
  · rename_i b args tys ho
    split at h
    · rename_i s y t tx hargs htys
      split at h
      · rename_i el p v q yv ht hs hy
        split at h
        · rename_i ti hti
          split at h
          · rename_i zs sz fs hz hsrc
            split at h
            · simp only [Option.some.injEq, Prod.mk.injEq] at h
              obtain ⟨rfl, rfl, rfl, rfl⟩ := h
              obtain ⟨hp, hq, h1, h2, h3, h4, h5⟩ := hv
              have := y_append (es := []) (st1 := st) hT ho hargs htys hs hp hy hq ht hti hz h1 h2 hsrc h3 (.inl ⟨rfl, rfl, rfl⟩) (by simpa using h4) _ h5
              simpa using this
            · rename_i id0
              split at h
              · rename_i e' sz' es hb
                simp only [Option.some.injEq, Prod.mk.injEq] at h
                obtain ⟨rfl, rfl, rfl, rfl⟩ := h
                obtain ⟨hp, hq, h1, h2, h3, rfl, rfl, h4⟩ := hv
                exact y_append hT ho hargs htys hs hp hy hq ht hti hz h1 h2 hsrc h3 (.inr ⟨id0, rfl, hb, rfl⟩) h4 _ (fresh_kill st id0)
              · cases h
            · cases h
          · cases h
        · cases h
      · cases h
    · cases h
  · rename_i t y ho
    split at h
    · rename_i p s ht hy
      simp only [Option.some.injEq, Prod.mk.injEq] at h
      obtain ⟨rfl, rfl, rfl, rfl⟩ := h
      exact y_range hT ho ht hy hv.1 _ hv.2
    · cases h
  · rename_i it ho
    split at h
    · rename_i p bid more orc2 hit
      split at h
      · rename_i s pos hb
        split at h
        · simp only [Option.some.injEq, Prod.mk.injEq] at h
          obtain ⟨rfl, rfl, rfl, rfl⟩ := h
          exact y_next ho hit hv.1 hb true (by simp [hv.2])
        · simp only [Option.some.injEq, Prod.mk.injEq] at h
          obtain ⟨rfl, rfl, rfl, rfl⟩ := h
          exact y_next ho hit hv.1 hb false (by simp [hv.2])
      · cases h
    · cases h
  · cases h

theorem arr_yields {P : Program} {T : Tab} {G : Glob} (hT : TOK P T) {st : St} {o : Oper} {orc orc' : List PD} {v : Prop} {x : V} (h : arrStill T G st o.op orc = some (v, x, orc')) (hv : v) : Yields P G o st x st := by
  intro c M μ tmps w hg r
  obtain ⟨u, e, hu⟩ := arrStill_sound hT hg r h hv
  rw [e]
  exact ⟨M, μ, r, hu⟩
def effOf (T : Tab) (G : Glob) (st : St) (o : Oper) (orc : List PD) : Option (Prop × V × St × List PD) :=
  match eff T G st o orc with
  | some r => some r
  | none => arrEff T G st o.op orc
theorem effOf_sound {P : Program} {T : Tab} {G : Glob} (hT : TOK P T) {st st' : St} {o : Oper} {orc orc' : List PD} {vc : Prop} {x : V} (h : effOf T G st o orc = some (vc, x, st', orc')) (hv : vc) : Yields P G o st x st' := by
  unfold effOf at h
  split at h
  · rename_i r hr
    cases h
    exact eff_sound hT hr hv
  · exact arrEff_sound hT h hv
theorem quiet_yields {P : Program} {T : Tab} {G : Glob} (hT : TOK P T) {st : St} {o : Oper} {orc orc' : List PD} {v : Prop} {x : V} (h : quiet T G st o.op orc = some (v, x, orc')) (hv : v) : Yields P G o st x st := by
  intro c M μ tmps w hg r
  obtain ⟨u, e, hu⟩ := quiet_sound hT hg r h hv
  rw [e]
  exact ⟨M, μ, r, hu⟩

/-- One operation under a guard, or none. -/
def stillOf (C : Know) (T : Tab) (G : Glob) (st : St) (op : Op) (orc : List PD) : Option (Prop × V × List PD) :=
  match quiet T G st op orc with
  | some r => some r
  | none => match arrStill T G st op orc with
    | some r => some r
    | none => callOf C T G st op orc

/-- The rows that a value is made of. -/
def V.rowIds : V → List Nat
  | .ms i => [i]
  | _ => []
def rowIdsOf (G : Glob) (st : St) : List Operand → List Nat
  | [] => []
  | y :: ys => V.rowIds (st.arg G y).2 ++ rowIdsOf G st ys
def freezeAll (st : St) : List Nat → St
  | [] => st
  | i :: l => freezeAll (st.freeze i) l
/-- Ahead of a call: rows that are handed in become plain data. -/
def preCall (G : Glob) (st : St) (op : Op) : Option St :=
  match op with
  | .call { callee := .value _, args, argTypes := _ } => some (freezeAll st (rowIdsOf G st args.toList))
  | _ => some st
theorem freezeAll_sound {c : Ctx} {M : FMap} {μ : Mu} {tmps : Array Value} {w : World} : ∀ (l : List Nat) {st : St}, Rel c M μ st tmps w → ∃ M', Rel c M' μ (freezeAll st l) tmps w
  | [], _, r => ⟨M, r⟩
  | i :: l, _, r => by
    obtain ⟨M', r'⟩ := r.freeze i
    exact freezeAll_sound l r'
theorem preCall_sound {c : Ctx} {M : FMap} {μ : Mu} {tmps : Array Value} {w : World} {G : Glob} {st st' : St} {op : Op} (r : Rel c M μ st tmps w) (h : preCall G st op = some st') : ∃ M', Rel c M' μ st' tmps w := by
  unfold preCall at h
  split at h
  · cases h; exact freezeAll_sound _ r
  · cases h; exact ⟨M, r⟩
theorem AOps.pre {P : Program} {G : Glob} {Q : Exit → St → Prop} {ops : Array Oper} {l : List Oper} {st st' : St} {op : Op} (h : preCall G st op = some st') (k : AOps P G ops Q l st') : AOps P G ops Q l st := by
  intro x M μ tmps w hg r
  obtain ⟨M', r'⟩ := preCall_sound r h
  exact k x M' μ tmps w hg r'

def opsRun (C : Know) (T : Tab) (G : Glob) (ops : List Oper) : List Oper → St → List PD → Option (Prop × St)
  | [], st, _ => some (True, st)
  | o :: rest, st, orc => match preCall G st o.op with
   | none => none
   | some st => match o.guard with
    | none => match stillOf C T G st o.op orc with
      | some (v, x, orc') => match opsRun C T G ops rest (st.put o.dst x) orc' with
        | some (vs, st2) => some (v ∧ vs, st2)
        | none => none
      | none => match effOf T G st o orc with
        | some (v, x, st', orc') => match opsRun C T G ops rest (st'.put o.dst x) orc' with
          | some (vs, st2) => some (v ∧ vs, st2)
          | none => none
        | none => none
    | some (j, pol) => match (ops[j]?).bind (·.dst) with
      | none => none
      | some d => match V.guards pol (st.tmps.getD d .dead) with
        | none => none
        | some b => match stillOf C T G st o.op orc with
          | some (v, x, orc') => match opsRun C T G ops rest (st.put o.dst (.when b x)) orc' with
            | some (vs, st2) => some (d < st.tmps.length ∧ (b = true → v) ∧ vs, st2)
            | none => none
          | none => match b with
            | true => match effOf T G st o orc with
              | some (v, x, st', orc') => match opsRun C T G ops rest (st'.put o.dst (.when true x)) orc' with
                | some (vs, st2) => some (d < st.tmps.length ∧ v ∧ vs, st2)
                | none => none
              | none => none
            | false => match opsRun C T G ops rest (st.put o.dst (.when false (.p (.bool false)))) orc with
              | some (vs, st2) => some (d < st.tmps.length ∧ vs, st2)
              | none => none

theorem stillOf_sound {P : Program} {T : Tab} {G : Glob} (hT : TOK P T) {st : St} {o : Oper} {orc orc' : List PD} {v : Prop} {x : V} (h : stillOf (AFn P G) T G st o.op orc = some (v, x, orc')) (hv : v) : Yields P G o st x st := by
  unfold stillOf at h
  split at h
  · rename_i r hr
    cases h
    exact quiet_yields hT hr hv
  · split at h
    · rename_i r hr
      cases h
      exact arr_yields hT hr hv
    · exact callOf_sound h hv

theorem opsRun_sound {P : Program} {T : Tab} {G : Glob} {Q : Exit → St → Prop} (hT : TOK P T) (ops : List Oper) : ∀ (l more : List Oper) (st : St) (orc : List PD) (v : Prop) (st' : St),
    opsRun (AFn P G) T G ops l st orc = some (v, st') → v → AOps P G ops.toArray Q more st' → AOps P G ops.toArray Q (l ++ more) st
  | [], more, st, orc, v, st', h, _, k => by
    simp only [opsRun, Option.some.injEq, Prod.mk.injEq] at h
    obtain ⟨rfl, rfl⟩ := h
    exact k
  | o :: rest, more, st, orc, v, st', h, hv, k => by
    simp only [opsRun] at h
    split at h
    · cases h
    rename_i st0 hpre
    refine AOps.pre hpre ?_
    split at h
    · rename_i hgd
      split at h
      · rename_i v1 x orc1 hs
        split at h
        · rename_i vs st2 hr
          simp only [Option.some.injEq, Prod.mk.injEq] at h
          obtain ⟨rfl, rfl⟩ := h
          exact AOps.step hgd (stillOf_sound hT hs hv.1) (opsRun_sound hT ops rest more _ orc1 vs st2 hr hv.2 k)
        · cases h
      · split at h
        · rename_i v1 x st1 orc1 hs
          split at h
          · rename_i vs st2 hr
            simp only [Option.some.injEq, Prod.mk.injEq] at h
            obtain ⟨rfl, rfl⟩ := h
            exact AOps.step hgd (effOf_sound hT hs hv.1) (opsRun_sound hT ops rest more _ orc1 vs st2 hr hv.2 k)
          · cases h
        · cases h
    · rename_i j pol hgd
      split at h
      · cases h
      · rename_i d hd
        split at h
        · cases h
        · rename_i b hb
          split at h
          · rename_i v1 x orc1 hs
            split at h
            · rename_i vs st2 hr
              simp only [Option.some.injEq, Prod.mk.injEq] at h
              obtain ⟨rfl, rfl⟩ := h
              exact AOps.stepIf hgd (by simpa using hd) hv.1 hb (fun hbt => stillOf_sound hT hs (hv.2.1 hbt)) (opsRun_sound hT ops rest more _ orc1 vs st2 hr hv.2.2 k)
            · cases h
          · split at h
            · split at h
              · rename_i v1 x st1 orc1 hs
                split at h
                · rename_i vs st2 hr
                  simp only [Option.some.injEq, Prod.mk.injEq] at h
                  obtain ⟨rfl, rfl⟩ := h
                  exact AOps.stepIfT hgd (by simpa using hd) hv.1 hb (effOf_sound hT hs hv.2.1) (opsRun_sound hT ops rest more _ orc1 vs st2 hr hv.2.2 k)
                · cases h
              · cases h
            · split at h
              · rename_i vs st2 hr
                simp only [Option.some.injEq, Prod.mk.injEq] at h
                obtain ⟨rfl, rfl⟩ := h
                exact AOps.stepIfF hgd (by simpa using hd) hv.1 hb (opsRun_sound hT ops rest more _ orc vs st2 hr hv.2 k)
              · cases h

section
variable {P : Program} {T : Tab} {G : Glob} {Q : Exit → St → Prop} {st st' : St}

theorem AW.run (hT : TOK P T) (orc : List PD) {id : Nat} {l : List Oper} {v : Know → Prop} (h : ∀ C, opsRun C T G l l st orc = some (v C, st')) (hv : v (AFn P G)) (k : Q .normal st') : AW P G (.region id l.toArray false) Q st := by
  refine AW.region ?_
  have := opsRun_sound (Q := Q) hT l l [] st orc _ st' (h (AFn P G)) hv (AOps.nil k)
  simpa using this

theorem AW.seqRun (hT : TOK P T) (orc : List PD) {id : Nat} {l : List Oper} {b : Code} {v : Know → Prop} (h : ∀ C, opsRun C T G l l st orc = some (v C, st')) (hv : v (AFn P G)) (k : AW P G b Q st') :
    AW P G (.seq (.region id l.toArray false) b) Q st :=
  AW.seq (AW.run hT orc h hv k)

theorem AW.cond {c : Operand} {x y : Code} {p : Prop} {b : Bool} (hc : st.arg G c = (p, .p (.bool b))) (hp : p) (h1 : b = true → AW P G x Q st) (h2 : b = false → AW P G y Q st) : AW P G (.cond c x y) Q st := by
  intro ctx M μ tmps w hg r
  have h := (arg_sound hg r hc hp).p_inv
  generalize hu : Act.eval ⟨tmps, []⟩ c = u at h
  cases h
  exact wp_cond_split hu (fun e => h1 e ctx M μ tmps w hg r) (fun e => h2 e ctx M μ tmps w hg r)

/-! ### Facts that every state bears -/
theorem AW.slFact {c : Code} {i sz : Nat} {es : List PD} (h : st.tmps[i]? = some (.p (.sl sz es))) (k : es.length ≤ 9223372036854775807 → AW P G c Q st) : AW P G c Q st := by
  intro x M μ tmps w hg r
  have hlt : i < tmps.size := by rw [r.slots.1]; exact (List.getElem?_eq_some_iff.1 h).1
  have hv := (r.slots.2 i tmps[i] _ (by simp [hlt]) h).p_inv
  generalize tmps[i] = u at hv
  cases hv with
  | sl b o hn hnc hcm => exact k (by simp [maxLen] at hcm; omega) x M μ tmps w hg r
theorem AW.strFact {c : Code} {i : Nat} {s : List UInt8} (h : st.tmps[i]? = some (.p (.str s))) (k : s.length ≤ 9223372036854775807 → AW P G c Q st) : AW P G c Q st := by
  intro x M μ tmps w hg r
  have hlt : i < tmps.size := by rw [r.slots.1]; exact (List.getElem?_eq_some_iff.1 h).1
  have hv := (r.slots.2 i tmps[i] _ (by simp [hlt]) h).p_inv
  generalize tmps[i] = u at hv
  cases hv with
  | str hs hm => exact k (by simpa [maxLen] using hm) x M μ tmps w hg r
theorem AW.intFact {c : Code} {i : Nat} {kd : IntKind} {n : Int} (h : st.tmps[i]? = some (.p (.int kd n))) (k : kmin kd ≤ n ∧ n ≤ kmax kd → AW P G c Q st) : AW P G c Q st := by
  intro x M μ tmps w hg r
  have hlt : i < tmps.size := by rw [r.slots.1]; exact (List.getElem?_eq_some_iff.1 h).1
  have hv := (r.slots.2 i tmps[i] _ (by simp [hlt]) h).p_inv
  generalize tmps[i] = u at hv
  cases hv with
  | int h1 h2 => exact k ⟨by rw [← kmin_eq]; exact h1, by rw [← kmax_eq]; exact h2⟩ x M μ tmps w hg r

attribute [simp] preCall freezeAll rowIdsOf V.rowIds St.freeze V.frz V.frzL Box.frz frzH effOf opsRun stillOf quiet callOf eff St.arg St.ev V.strip V.pur purL ofConst ofAtom St.put PD.bin intBin intShift strBin boolBin eqRes PD.conv bound sliceV lenV loadV tkOf V.guards idOf TK.agg boxOf setBox splice spliceD V.cells PD.ite St.fresh V.noRefL V.noRef
  noRefH Box.noRef keyIn kmin kmax PD.cells rowParts V.fits V.fitsL srcOf St.kill killL killH Box.kill buildV allP resV tupV andThen inBlock VLe VLeL IntKind.signed PD.eqAtom PD.eqFlds
end
end Go.Proofs.YtdploelkmlbhnaaDoor.Sy
