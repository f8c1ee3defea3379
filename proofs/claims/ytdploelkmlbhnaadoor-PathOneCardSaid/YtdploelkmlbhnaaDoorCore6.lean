/-
  OUR OWN LAYER, 6: the operations that leave the boxes alone.
-/
import Derived.Test.YtdploelkmlbhnaaDoorCore5
namespace Go.Proofs.YtdploelkmlbhnaaDoor.Sy
open Go

def V.known : V → Bool
  | .dead => false
  | .when _ _ => false
  | _ => true

def loadV (T : Tab) (st : St) (t : TypeId) (x : V) (orc : List PD) : Option (Prop × V × List PD) :=
  match T t with
  | none => none
  | some ti => match x with
    | .cptr cs => match ti.k.agg with
      | true => some (ti.size ≤ cs.length, .p (.agg (cs.take ti.size)), orc)
      | false => match cs with
        | d :: _ => some (True, .p d, orc)
        | [] => none
    | .ptr id o => match boxOf id st.H with
      | some (.vars _ cells) => match ti.k.agg with
        | true => some (o + ti.size ≤ cells.length, .agg ((cells.drop o).take ti.size), orc)
        | false => match cells.drop o with
          | y :: _ => some (True, y, orc)
          | [] => none
      | _ => none
    | .rptr id i sz o => match boxOf id st.H with
      | some (.row _ sz' es) => match orc with
        | e :: orc' => match ti.k.agg with
          | true => some (sz = sz' ∧ es[i]? = some e ∧ o + ti.size ≤ sz, .p (.agg ((e.cells.drop o).take ti.size)), orc')
          | false => match e.cells.drop o with
            | d :: _ => some (sz = sz' ∧ es[i]? = some e, .p d, orc')
            | [] => none
        | [] => none
      | _ => none
    | _ => none

def PD.conv (T : Tab) (s d : TypeId) (a : PD) : Option (Prop × PD) :=
  match tkOf T s, tkOf T d, a with
  | some (.int k), some (.int k'), .int k0 n => if k = k0 then (if kmin k' ≤ kmin k ∧ kmax k ≤ kmax k' then some (True, .int k' n) else some (True, .int k' (k'.wrap n))) else none
  | some .str, some .str, .str b => some (True, .str b)
  | _, _, _ => none

def bound (st : St) (G : Glob) : Option Operand → Option (Prop × Option Int)
  | none => some (True, none)
  | some x => match st.arg G x with
    | (p, .p (.int _ n)) => some (p, some n)
    | _ => none

def sliceV (T : Tab) (t : TypeId) (x : V) (lo hi : Option Int) : Option (Prop × V) :=
  match tkOf T t, x with
  | some .str, .p (.str s) =>
    let l := lo.getD 0
    let h := hi.getD s.length
    some (0 ≤ l ∧ l ≤ h ∧ h ≤ s.length, .p (.str ((s.take h.toNat).drop l.toNat)))
  | some (.sl el), .p (.sl sz es) =>
    let l := lo.getD 0
    let h := hi.getD es.length
    some ((T el).map (fun x => x.size) = some sz ∧ 0 ≤ l ∧ l ≤ h ∧ h ≤ es.length, .p (.sl sz ((es.take h.toNat).drop l.toNat)))
  | _, _ => none

def lenV (T : Tab) (st : St) (t : TypeId) (x : V) : Option PD :=
  match tkOf T t, x with
  | some .str, .p (.str s) => some (.int .i64 s.length)
  | some (.sl _), .p (.sl _ es) => some (.int .i64 es.length)
  | some (.sl _), .nilsl => some (.int .i64 0)
  | some (.sl _), .ms id => match boxOf id st.H with
    | some (.row _ _ es) => some (.int .i64 es.length)
    | _ => none
  | _, _ => none

/-- The cells of a value that is stored, or built into another. -/
def V.cells : V → Option (List V)
  | .agg cs => some cs
  | .p (.agg ds) => some (ds.map .p)
  | .p (.tup _) => none
  | .tuple _ => none
  | .dead => none
  | .when _ _ => none
  | x => some [x]

def splice (l : List V) (o : Nat) (xs : List V) : List V := l.take o ++ xs ++ l.drop (o + xs.length)

def buildV (T : Tab) (st : St) (G : Glob) (fs : List (Nat × TypeId)) : List (Nat × Operand) → Prop → List V → Option (Prop × List V)
  | [], p, cs => some (p, cs)
  | (i, x) :: r, p, cs => match fs[i]? with
    | none => none
    | some (o, t) => match st.arg G x with
      | (q, v) => match v.cells, T t with
        | some xs, some ti => buildV T st G fs r (p ∧ q ∧ xs.length = ti.size ∧ o + xs.length ≤ cs.length) (splice cs o xs)
        | _, _ => none

def quiet (T : Tab) (G : Glob) (st : St) (op : Op) (orc : List PD) : Option (Prop × V × List PD) :=
  match op with
  | .move x => some (True, st.ev G x, orc)
  | .assign x => some (True, st.ev G x, orc)
  | .pick c a b => match st.arg G c, st.arg G a, st.arg G b with
    | (p, .p (.bool t)), (pa, .p da), (pb, .p db) => some (p ∧ (t = true → pa) ∧ (t = false → pb), .p (PD.ite t da db), orc)
    | _, _, _ => none
  | .unOp u _ x => match u, st.arg G x with
    | .not, (p, .p (.bool b)) => some (p, .p (.bool (!b)), orc)
    | .neg, (p, .p (.int k n)) => some (p, .p (.int k (k.wrap (0 - n))), orc)
    | _, _ => none
  | .binOp o t x y _ => match st.arg G x, st.arg G y with
    | (p, .p a), (q, .p b) => match PD.bin T o t a b with
      | some (v, d) => some (p ∧ q ∧ v, .p d, orc)
      | none => none
    | _, _ => none
  | .convert s d x => match st.arg G x with
    | (p, .p a) => match PD.conv T s d a with
      | some (v, r) => some (p ∧ v, .p r, orc)
      | none => none
    | _ => none
  | .extract x i => match st.arg G x with
    | (p, .p (.tup ds)) => match ds[i]? with
      | some d => some (p, .p d, orc)
      | none => none
    | (p, .tuple vs) => match vs[i]? with
      | some v => some (p, v, orc)
      | none => none
    | _ => none
  | .index t x i => match tkOf T t, st.arg G x, st.arg G i, orc with
    | some .str, (p, .p (.str s)), (q, .p (.int _ n)), .int .u8 c :: orc' => some (p ∧ q ∧ 0 ≤ n ∧ (s[n.toNat]?).map (fun b => (b.toNat : Int)) = some c, .p (.int .u8 c), orc')
    | _, _, _, _ => none
  | .indexAddr t x i => match tkOf T t, st.arg G x, st.arg G i with
    | some (.sl el), (p, .p (.sl sz es)), (q, .p (.int _ n)) => match orc with
      | e :: orc' => some (p ∧ q ∧ 0 ≤ n ∧ es[n.toNat]? = some e ∧ (T el).map (fun x => x.size) = some sz, .cptr e.cells, orc')
      | [] => none
    | some (.sl el), (p, .ms id), (q, .p (.int _ n)) => match boxOf id st.H, T el with
      | some (.row _ sz es), some ti => some (p ∧ q ∧ 0 ≤ n ∧ n.toNat < es.length ∧ ti.size = sz, .rptr id n.toNat sz 0, orc)
      | _, _ => none
    | _, _, _ => none
  | .fieldAddr t x f => match T t, st.arg G x with
    | some ⟨.st fs, _, _, _, _⟩, (p, v) => match fs[f]? with
      | none => none
      | some (o, ft) => match T ft with
        | none => none
        | some ti => match ti.size with
          | 0 => none
          | _ + 1 => match v with
            | .cptr cs => some (p, .cptr (cs.drop o), orc)
            | .ptr id a => some (p, .ptr id (a + o), orc)
            | .rptr id i sz a => some (p, .rptr id i sz (a + o), orc)
            | _ => none
    | _, _ => none
  | .load t x => match st.arg G x with
    | (p, v) => match loadV T st t v orc with
      | some (q, y, orc') => some (p ∧ q, y, orc')
      | none => none
  | .nilCheck x => match st.arg G x with
    | (p, .cptr cs) => some (p, .cptr cs, orc)
    | (p, .ptr id a) => some (p, .ptr id a, orc)
    | (p, .rptr id i sz a) => some (p, .rptr id i sz a, orc)
    | _ => none
  | .slice t x lo hi none => match st.arg G x, bound st G lo, bound st G hi with
    | (p, v), some (q, l), some (s, h) => match sliceV T t v l h with
      | some (c, y) => some (p ∧ q ∧ s ∧ c, y, orc)
      | none => none
    | _, _, _ => none
  | .call { callee := .builtin b, args, argTypes } => match b, args.toList, argTypes.toList with
    | .len, [x], [t] => match st.arg G x with
      | (p, v) => match lenV T st t v with
        | some d => some (p, .p d, orc)
        | none => none
    | .max, [x, y], _ => match st.arg G x, st.arg G y with
      | (p, .p (.int k a)), (q, .p (.int k' b)) => if k = k' then some (p ∧ q, .p (.int k (if b > a then b else a)), orc) else none
      | _, _ => none
    | .min, [x, y], _ => match st.arg G x, st.arg G y with
      | (p, .p (.int k a)), (q, .p (.int k' b)) => if k = k' then some (p ∧ q, .p (.int k (if b < a then b else a)), orc) else none
      | _, _ => none
    | _, _, _ => none
  | .makeFunc fn first cap => match fn, first.toList, cap.toList with
    | .func f, [], [] => some (True, .p (.fn f), orc)
    | fn, fs, cs => some (True, .func fn (fs.map (st.ev G)) (cs.map (st.ev G)), orc)
  | .build t parts => match T t with
    | some ⟨.st fs, _, _, z, _⟩ => match z.cells, fs.all (fun f => (T f.2).isSome) with
      | some zs, true => match buildV T st G fs parts.toList True zs with
        | some (p, cs) => some (p, .agg cs, orc)
        | none => none
      | _, _ => none
    | _ => none
  | _ => none

section
variable {P : Program} {T : Tab} {G : Glob} {c : Ctx} {M : FMap} {μ : Mu} {st : St} {tmps : Array Value} {w : World}

theorem add_eq (b o n : Nat) : (⟨b, o, none⟩ : Addr).add n = ⟨b, o + n, none⟩ := by unfold Addr.add; split <;> simp_all

theorem run_loadAt {t : TypeId} {d : TypeDesc} {i : TypeInfo} (hd : P.underlying t = some d) (hi : P.info? t = some i) (b o : Nat) (f : Nat → Value) (w : World)
    (h : ∀ j, j < (if (TK.of d).agg then i.size else 1) → w.cell? ⟨b, o + j, none⟩ = some (f j)) :
    (Instr.loadAt t (.pointer (some ⟨b, o, none⟩))).run P w = .ok (if (TK.of d).agg then .agg ((List.range i.size).map f).toArray else f 0) w := by
  have e1 : (Instr.loadAt t (.pointer (some ⟨b, o, none⟩))) = loadVar t ⟨b, o, none⟩ := rfl
  rw [e1]
  unfold loadVar
  rw [Sem.run_bind, run_isAgg hd, Result.andThen_ok]
  cases ha : (TK.of d).agg with
  | true =>
    rw [ha] at h
    simp only [if_true] at h ⊢
    have := run_loadCells (P := P) w ⟨b, o, none⟩ i.size f (fun j hj => by rw [add_eq]; exact h j hj)
    simp [sizeOf, typeInfo, hi, this]
  | false =>
    rw [ha] at h
    have h0 := h 0 (by simp)
    simp only [Nat.add_zero] at h0
    simp [h0]

theorem getElem?_range_map {α : Type} (f : Nat → α) (n i : Nat) (x : α) (h : ((List.range n).map f)[i]? = some x) : i < n ∧ x = f i := by
  rw [List.getElem?_map] at h
  obtain ⟨j, hj, rfl⟩ := Option.map_eq_some_iff.1 h
  rw [List.getElem?_range] at hj
  · cases hj
    refine ⟨?_, rfl⟩
    rcases Nat.lt_or_ge i n with h' | h'
    · exact h'
    · exfalso
      simp [h'] at h
  · rcases Nat.lt_or_ge i n with h' | h'
    · exact h'
    · exfalso
      simp [h'] at h

/-- A load out of cells that are known. -/
theorem load_run (hT : TOK P T) (r : Rel c M μ st tmps w) {t : TypeId} {x y : V} {orc orc' : List PD} {q : Prop} (h : loadV T st t x orc = some (q, y, orc')) (hq : q) {u : Value} (hu : RV M μ u x) :
    ∃ v, (Instr.loadAt t u).run P w = .ok v w ∧ RV M μ v y := by
  unfold loadV at h
  split at h
  · cases h
  · rename_i ti hti
    obtain ⟨i, d, hi, hd, hk, hsz, _⟩ := hT.get hti
    split at h
    · -- cells that are frozen
      rename_i cs
      cases hu with
      | @cptr b o _ h1 h2 =>
      split at h
      · rename_i hag
        simp only [Option.some.injEq, Prod.mk.injEq] at h
        obtain ⟨rfl, rfl, rfl⟩ := h
        have hc : ∀ j, j < ti.size → ∃ u', M b (o + j) = some u' ∧ u'.oneCell' = true := fun j hj => by
          have hj' : j < cs.length := by omega
          exact h1 j cs[j] (by simp [hj'])
        refine ⟨_, run_loadAt hd hi b o (fun j => (M b (o + j)).getD undef) w (fun j hj => ?_), ?_⟩
        · rw [hk, hag, hsz] at hj
          obtain ⟨u', hu', _⟩ := hc j (by simpa using hj)
          rw [r.mem _ _ _ hu']; simp [hu']
        · rw [hk, hag, hsz]
          refine .p (.agg (by simp; omega) (fun j u' hu' => ?_) fun j u' d' hu' hd' => ?_)
          · simp only [List.getElem?_toArray] at hu'
            obtain ⟨hj, rfl⟩ := getElem?_range_map _ _ _ _ hu'
            obtain ⟨u'', h3, h4⟩ := hc j hj
            simp [h3, h4]
          · simp only [List.getElem?_toArray] at hu'
            obtain ⟨hj, rfl⟩ := getElem?_range_map _ _ _ _ hu'
            obtain ⟨u'', h3, h4⟩ := hc j hj
            rw [List.getElem?_take, if_pos hj] at hd'
            simp only [h3, Option.getD_some]
            exact h2 j d' _ hd' h3
      · rename_i hag
        split at h
        · rename_i d0 rest
          simp only [Option.some.injEq, Prod.mk.injEq] at h
          obtain ⟨rfl, rfl, rfl⟩ := h
          obtain ⟨u', hu', _⟩ := h1 0 d0 rfl
          simp only [Nat.add_zero] at hu'
          refine ⟨_, run_loadAt hd hi b o (fun _ => u') w (fun j hj => ?_), ?_⟩
          · rw [hk, hag] at hj
            have : j = 0 := by simpa using hj
            subst this
            exact r.mem _ _ _ hu'
          · rw [hk, hag]
            exact .p (h2 0 d0 u' rfl (by simpa using hu'))
        · cases h
    · -- a box of variables
      rename_i id o
      cases hu with
      | @ptr _ _ bk hbk =>
      split at h
      · rename_i e cells hb
        have hbx := r.box id _ (boxOf_mem hb)
        cases hbx with
        | @vars _ _ bk' arr h0 hh hs ho hc =>
        rw [hbk] at h0
        cases h0
        have hcell : ∀ j, w.cell? ⟨bk, j, none⟩ = arr[j]? := fun j => cell_of_block hh
        split at h
        · rename_i hag
          simp only [Option.some.injEq, Prod.mk.injEq] at h
          obtain ⟨rfl, rfl, rfl⟩ := h
          refine ⟨_, run_loadAt hd hi _ o (fun j => (arr[o + j]?).getD undef) w (fun j hj => ?_), ?_⟩
          · rw [hk, hag, hsz] at hj
            have hlt : o + j < arr.size := by simp only [if_true] at hj; omega
            rw [hcell]; simp [hlt]
          · rw [hk, hag, hsz]
            refine .agg (by simp; omega) (fun j u' hu' => ?_) fun j u' y' hu' hy' => ?_
            · simp only [List.getElem?_toArray] at hu'
              obtain ⟨hj, rfl⟩ := getElem?_range_map _ _ _ _ hu'
              have hlt : o + j < arr.size := by omega
              simp only [hlt, getElem?_pos, Option.getD_some]
              exact ho (o + j) _ (by simp [hlt])
            · simp only [List.getElem?_toArray] at hu'
              obtain ⟨hj, rfl⟩ := getElem?_range_map _ _ _ _ hu'
              have hlt : o + j < arr.size := by omega
              simp only [hlt, getElem?_pos, Option.getD_some]
              rw [List.getElem?_take, if_pos hj, List.getElem?_drop] at hy'
              exact hc (o + j) _ _ (by simp [hlt]) hy'
        · rename_i hag
          split at h
          · rename_i y0 rest hdr
            simp only [Option.some.injEq, Prod.mk.injEq] at h
            obtain ⟨rfl, rfl, rfl⟩ := h
            have hy : cells[o]? = some y0 := by
              have := congrArg (fun l => l[0]?) hdr
              simpa [List.getElem?_drop] using this
            have hlt : o < arr.size := by rw [hs]; exact (List.getElem?_eq_some_iff.1 hy).1
            refine ⟨_, run_loadAt hd hi _ o (fun _ => arr[o]) w (fun j hj => ?_), ?_⟩
            · rw [hk, hag] at hj
              have : j = 0 := by simpa using hj
              subst this
              rw [hcell]; simp [hlt]
            · rw [hk, hag]
              exact hc o _ _ (by simp [hlt]) hy
          · cases h
      · cases h
    · -- a row of the call's own
      rename_i id j sz o
      cases hu with
      | @rptr _ _ _ _ bk hbk =>
      split at h
      · rename_i e sz' es hb
        have hbx := r.box id _ (boxOf_mem hb)
        cases hbx with
        | rowN h0 hv => rw [hbk] at h0; cases h0
        | @row _ _ _ bk' cap arr h0 hv hh hs hlc hm ho hz hc =>
        rw [hbk] at h0
        cases h0
        have hcell : ∀ j, w.cell? ⟨bk, j, none⟩ = arr[j]? := fun j => cell_of_block hh
        split at h
        · rename_i e0 orc1
          split at h
          · rename_i hag
            simp only [Option.some.injEq, Prod.mk.injEq] at h
            obtain ⟨rfl, rfl, rfl⟩ := h
            obtain ⟨rfl, he, hos⟩ := hq
            have hjl := (List.getElem?_eq_some_iff.1 he).1
            have hfit : ∀ k, k < sz → j * sz + k < arr.size := fun k hk' => by
              rw [hs]
              calc j * sz + k < j * sz + sz := by omega
                _ = (j + 1) * sz := by rw [Nat.add_mul, Nat.one_mul]
                _ ≤ cap * sz := Nat.mul_le_mul_right _ (by omega)
            refine ⟨_, run_loadAt hd hi _ (j * sz + o) (fun k => (arr[j * sz + o + k]?).getD undef) w (fun k hk' => ?_), ?_⟩
            · rw [hk, hag, hsz] at hk'
              have hlt : j * sz + o + k < arr.size := by simp only [if_true] at hk'; have := hfit (o + k) (by omega); omega
              rw [hcell]; simp [hlt]
            · rw [hk, hag, hsz]
              have hzz := hz j e0 he
              refine .p (.agg (by simp; omega) (fun k u' hu' => ?_) fun k u' d' hu' hd' => ?_)
              · simp only [List.getElem?_toArray] at hu'
                obtain ⟨hk', rfl⟩ := getElem?_range_map _ _ _ _ hu'
                have hlt : j * sz + o + k < arr.size := by have := hfit (o + k) (by omega); omega
                simp only [hlt, getElem?_pos, Option.getD_some]
                exact ho (j * sz + o + k) _ (by simp [hlt])
              · simp only [List.getElem?_toArray] at hu'
                obtain ⟨hk', rfl⟩ := getElem?_range_map _ _ _ _ hu'
                have hlt : j * sz + o + k < arr.size := by have := hfit (o + k) (by omega); omega
                simp only [hlt, getElem?_pos, Option.getD_some]
                rw [List.getElem?_take, if_pos hk', List.getElem?_drop] at hd'
                exact hc j e0 (o + k) _ _ he hd' (by rw [← Nat.add_assoc]; simp [hlt])
          · rename_i hag
            split at h
            · rename_i d0 rest hdr
              simp only [Option.some.injEq, Prod.mk.injEq] at h
              obtain ⟨rfl, rfl, rfl⟩ := h
              obtain ⟨rfl, he⟩ := hq
              have hy : e0.cells[o]? = some d0 := by
                have := congrArg (fun l => l[0]?) hdr
                simpa [List.getElem?_drop] using this
              have hjl := (List.getElem?_eq_some_iff.1 he).1
              have hol : o < sz := by rw [← hz j e0 he]; exact (List.getElem?_eq_some_iff.1 hy).1
              have hlt : j * sz + o < arr.size := by
                rw [hs]
                calc j * sz + o < j * sz + sz := by omega
                  _ = (j + 1) * sz := by rw [Nat.add_mul, Nat.one_mul]
                  _ ≤ cap * sz := Nat.mul_le_mul_right _ (by omega)
              refine ⟨_, run_loadAt hd hi _ (j * sz + o) (fun _ => arr[j * sz + o]) w (fun k hk' => ?_), ?_⟩
              · rw [hk, hag] at hk'
                have : k = 0 := by simpa using hk'
                subst this
                rw [hcell]; simp [hlt]
              · rw [hk, hag]
                exact .p (hc j e0 o _ _ he hy (by simp [hlt]))
            · cases h
        · cases h
      · cases h
    · cases h
end
end Go.Proofs.YtdploelkmlbhnaaDoor.Sy
