/-
  OUR OWN LAYER, 12: the operations on rows.
-/
import Derived.Test.YtdploelkmlbhnaaDoorCore11
namespace Go.Proofs.YtdploelkmlbhnaaDoor.Sy
open Go

section
variable {P : Program} {T : Tab} {G : Glob}

theorem y_append (hT : TOK P T) {o : Oper} {st st1 : St} {args : Array Operand} {tys : Array TypeId} (ho : o.op = .call { callee := .builtin .append, args := args, argTypes := tys }) {s x : Operand} {t tx el : TypeId}
    (hargs : args.toList = [s, x]) (htys : tys.toList = [t, tx]) {p q : Prop} {v y : V} (hs : st.arg G s = (p, v)) (hp : p) (hx : st.arg G x = (q, y)) (hq : q)
    (ht : tkOf T t = some (.sl el)) {ti : TI} (hti : T el = some ti) {zs : List V} (hzs : ti.zero.cells = some zs) (hzl : zs.length = ti.size) (hby : 0 < ti.bytes) {sz : Nat} {es fs : List PD}
    (hsrc : srcOf st (tkOf T tx) y = some (sz, fs)) (hsz : ti.size = sz) (hv : (v = .nilsl ∧ es = [] ∧ st1 = st) ∨ (∃ id0, v = .ms id0 ∧ boxOf id0 st.H = some (.row el sz es) ∧ st1 = st.kill id0))
    (hbound : (es.length + fs.length) * ti.bytes ≤ 140737488355328) (id : Nat) (hf : st1.fresh id = true) :
    Yields P G o st (.ms id) { st1 with H := (id, .row el sz (es ++ fs)) :: st1.H } := by
  intro c M μ tmps w hg r
  subst hsz
  have ea := arr_of hargs
  have et := arr_of htys
  subst ea; subst et
  have hvv := arg_sound hg r hs hp
  have hyy := arg_sound hg r hx hq
  generalize hu1 : Act.eval ⟨tmps, []⟩ s = u1 at hvv
  generalize hu2 : Act.eval ⟨tmps, []⟩ x = u2 at hyy
  obtain ⟨news, hsr, hrow⟩ := src_run hT r hsrc hyy
  have key : ∃ u w' μ', (Builtin.append_ #[t, tx] o.type #[u1, u2]).run P w = .ok u w' ∧ Rel c M μ' { st1 with H := (id, .row el ti.size (es ++ fs)) :: st1.H } tmps w' ∧ RV M μ' u (.ms id) := by
    rcases hv with ⟨rfl, rfl, rfl⟩ | ⟨id0, rfl, hb, rfl⟩
    · cases hvv
      exact append_core hT r ht hti hzs hzl hby hsr hrow hbound id hf (.inl ⟨rfl, _, rfl⟩)
    · cases hvv with
      | ms hval _ =>
      have hm := boxOf_mem hb
      have hk : keyIn id0 st.H = true := keyIn_iff.2 ⟨_, hm⟩
      rcases (r.box id0 _ hm).cells with ⟨rfl, h0, a, hva⟩ | ⟨b, cap, arr, h0, hva, hh, has, hlc, hcm, hone, hro⟩
      · rw [hva] at hval; subst hval
        exact append_core hT (r.kill id0) ht hti hzs hzl hby hsr hrow hbound id hf (.inl ⟨rfl, _, rfl⟩)
      · rw [hva] at hval; subst hval
        have hown := r.own id0 b hk h0
        exact append_core hT (r.kill id0) ht hti hzs hzl hby hsr hrow hbound id hf (.inr ⟨b, cap, arr, hown.1, hown.2.2, kill_noBlk r hk h0, rfl, hh, has, hlc, hcm, hone, hro⟩)
  obtain ⟨u, w', μ', hrun, hr, hu⟩ := key
  have e1 : (execOp (Act.eval ⟨tmps, []⟩) o).run P w = .ok (.value u) w' := by
    simp [execOp, ho, resolve, invoke, builtin, hu1, hu2, hrun]
  rw [e1]
  exact ⟨M, μ', hr, hu⟩

/-- A new row in a new block. -/
theorem new_row {c : Ctx} {M : FMap} {μ : Mu} {st : St} {tmps : Array Value} {w : World} (r : Rel c M μ st tmps w) {id : Nat} (hf : st.fresh id = true) {e : TypeId} {sz : Nat} {es : List PD} {arr : Array Value}
    (h : RowOf M sz es arr.toList) (hm : es.length ≤ maxLen) :
    ∃ μ', Rel c M μ' { st with H := (id, .row e sz es) :: st.H } tmps (w.alloc (.cells arr e)) ∧ RV M μ' (.slice (some ⟨w.heap.size, 0, none⟩) es.length es.length) (.ms id) := by
  refine ⟨upd μ id ⟨some w.heap.size, .slice (some ⟨w.heap.size, 0, none⟩) es.length es.length⟩, r.newBox hf (Grows.alloc w _) (fun b hb => ?_) ?_ rfl, .ms (by rw [upd_same]) rfl⟩
  · cases hb; exact ⟨Nat.le_refl _, by simp⟩
  · have hl : arr.size = es.length * sz := by have := h.len; simpa using this
    exact h.box (b := w.heap.size) (cap := es.length) (by rw [upd_same]) (by rw [upd_same]) (heap_alloc_new w _) hl (Nat.le_refl _) hm (fun i u hu => h.one u (by simpa using Array.mem_of_getElem? hu))
      (by rw [List.take_of_length_le (by simp [hl])])

theorem made_row {M : FMap} {μ : Mu} {z : Array Value} {zs : List V} (hz : Cells M μ z zs) {e0 : PD} {sz : Nat} (hzl : zs.length = sz) (hfit : V.fitsL [] zs e0.cells) (n : Nat) :
    RowOf M sz (List.replicate n e0) (madeCells z (n * sz)).toList := by
  have hzs : z.size = sz := by rw [hz.size, hzl]
  have hcl : e0.cells.length = sz := by rw [← V.fitsL_len hfit, hzl]
  have hget : ∀ (k : Nat) (u : Value), (madeCells z (n * sz)).toList[k]? = some u → z[k % sz]? = some u := by
    intro k u hu
    unfold madeCells at hu
    rw [Array.toList_map, List.getElem?_map] at hu
    obtain ⟨k', hk', rfl⟩ := Option.map_eq_some_iff.1 hu
    rw [Array.toList_range] at hk'
    have h1 : k < n * sz := by
      have := (List.getElem?_eq_some_iff.1 hk').1
      simpa using this
    rw [List.getElem?_range h1] at hk'
    cases hk'
    have hpos : 0 < sz := by
      rcases Nat.eq_zero_or_pos sz with h0 | h0
      · subst h0; simp at h1
      · exact h0
    have hlt : k % sz < z.size := by rw [hzs]; exact Nat.mod_lt _ hpos
    rw [hzs]
    simp [hlt]
  refine ⟨by simp [size_madeCells], fun u hu => ?_, fun i e he => ?_, fun i e j d u he hd hu => ?_⟩
  · obtain ⟨k, hk⟩ := List.mem_iff_getElem?.1 hu
    exact hz.one _ u (hget k u hk)
  · have := List.mem_of_getElem? he
    rw [(List.mem_replicate.1 this).2]; exact hcl
  · have := List.mem_of_getElem? he
    rw [(List.mem_replicate.1 this).2] at hd
    have hj : j < sz := by rw [← hcl]; exact (List.getElem?_eq_some_iff.1 hd).1
    have := hget _ u hu
    rw [Nat.mul_comm i sz, Nat.mul_add_mod, Nat.mod_eq_of_lt hj] at this
    have hx : zs[j]? = some zs[j] := by simp [hzl, hj]
    exact fits_pure (hz.get j u _ this hx) (V.fitsL_get hfit hx hd)

theorem y_makeSlice (hT : TOK P T) {o : Oper} {st : St} {t el : TypeId} {l cp : Operand} (ho : o.op = .makeSlice t l cp) {p q : Prop} {k k' : IntKind} {n : Int} (hl : st.arg G l = (p, .p (.int k n))) (hp : p)
    (hc : st.arg G cp = (q, .p (.int k' n))) (hq : q) (ht : tkOf T t = some (.sl el)) {ti : TI} (hti : T el = some ti) {zs : List V} (hzs : ti.zero.cells = some zs) (hzl : zs.length = ti.size) {e0 : PD} (hfit : V.fitsL [] zs e0.cells)
    (hn : 0 ≤ n) (hbound : ti.bytes * n ≤ 140737488355328) (hby : 0 < ti.bytes) (id : Nat) (hf : st.fresh id = true) :
    Yields P G o st (.ms id) { st with H := (id, .row el ti.size (List.replicate n.toNat e0)) :: st.H } := by
  intro c M μ tmps w hg r
  obtain ⟨z, hzr, hzc, i, hi, hz, hisz, hiby⟩ := run_zero hT hti hzs M μ w
  have hd := hT.sl ht
  have e1 := (arg_sound hg r hl hp).p_inv
  have e2 := (arg_sound hg r hc hq).p_inv
  generalize hu1 : Act.eval ⟨tmps, []⟩ l = u1 at e1
  generalize hu2 : Act.eval ⟨tmps, []⟩ cp = u2 at e2
  cases e1; cases e2
  have hn63 : n ≤ 140737488355328 := by
    have : 1 * n ≤ ti.bytes * n := Int.mul_le_mul_of_nonneg_right (by omega) hn
    omega
  have hrun := run_make (P := P) w t el i z hd hi hz k k' n n hn (Int.le_refl _) (by rw [hiby]; omega) (by omega)
  have e3 : (execOp (Act.eval ⟨tmps, []⟩) o).run P w = .ok (.value (.slice (some ⟨w.heap.size, 0, none⟩) n.toNat n.toNat)) (w.alloc (.cells (madeCells z.cells (n.toNat * i.size)) el)) := by
    simp [execOp, ho, hu1, hu2, hrun]
  rw [e3, hisz]
  obtain ⟨μ', h1, h2⟩ := new_row r hf (e := el) (made_row hzc hzl hfit n.toNat) (by simp [maxLen]; omega)
  exact ⟨M, μ', h1, by simpa using h2⟩

/-- The elements of a row that is built: each in its place. -/
def rowParts (st : St) (G : Glob) (sz : Nat) : Nat → List (Nat × Operand) → List PD → Option (Prop × List PD × List PD)
  | _, [], orc => some (True, [], orc)
  | k, (i, x) :: r, orc => match st.arg G x, orc with
    | (p, v), e :: orc' => match v.cells with
      | some xs => match rowParts st G sz (k + 1) r orc' with
        | some (q, es, orc2) => some (p ∧ i = k ∧ V.fitsL [] xs e.cells ∧ xs.length = sz ∧ q, e :: es, orc2)
        | none => none
      | none => none
    | _, _ => none

theorem fill_row {c : Ctx} {M : FMap} {μ : Mu} {st : St} {tmps : Array Value} {w : World} (hg : GOK G c.M0) (r : Rel c M μ st tmps w) (sz : Nat) : ∀ (parts : List (Nat × Operand)) (k : Nat) (orc : List PD) (q : Prop) (es orc' : List PD) (arr : Array Value),
    rowParts st G sz k parts orc = some (q, es, orc') → q → (k + parts.length) * sz ≤ arr.size → (∀ (i : Nat) u, arr[i]? = some u → u.oneCell' = true) →
    es.length = parts.length ∧ ∃ arr', Instr.fill (fun i => some (i * sz, sz)) arr (parts.map fun x => (x.1, Act.eval ⟨tmps, []⟩ x.2)) = some arr' ∧ arr'.size = arr.size ∧ (∀ (i : Nat) u, arr'[i]? = some u → u.oneCell' = true) ∧
      (∀ j, j < k * sz → arr'[j]? = arr[j]?) ∧ (∀ (i : Nat) e, es[i]? = some e → e.cells.length = sz) ∧ (∀ (i : Nat) e (j : Nat) d u, es[i]? = some e → e.cells[j]? = some d → arr'[(k + i) * sz + j]? = some u → Rd M u d)
  | [], k, orc, q, es, orc', arr, h, hq, hsz, hone => by
    simp only [rowParts, Option.some.injEq, Prod.mk.injEq] at h
    obtain ⟨rfl, rfl, rfl⟩ := h
    exact ⟨rfl, arr, rfl, rfl, hone, fun _ _ => rfl, fun i e h => by simp at h, fun i e j d u h => by simp at h⟩
  | (i, x) :: rest, k, orc, q, es, orc', arr, h, hq, hsz, hone => by
    simp only [rowParts] at h
    split at h
    · rename_i p v e orc1 harg
      split at h
      · rename_i xs hxs
        split at h
        · rename_i q2 es2 orc2 hrest
          simp only [Option.some.injEq, Prod.mk.injEq] at h
          obtain ⟨rfl, rfl, rfl⟩ := h
          obtain ⟨hp, rfl, hfit, hxl, hq2⟩ := hq
          have hv := arg_sound hg r harg hp
          have hcu := Cells.of hv hxs
          generalize hu : Act.eval ⟨tmps, []⟩ x = u at *
          obtain ⟨f1, f2⟩ := foldSet (i * sz) u.cells.toList 0 arr
          have efold : (u.cells.zipIdx.foldl (fun (cs : Array Value) (x : Value × Nat) => match x with | (c, j) => cs.setIfInBounds (i * sz + j) c) arr) =
              ((u.cells.toList.zipIdx 0).foldl (fun cs (x : Value × Nat) => cs.setIfInBounds (i * sz + x.2) x.1) arr) := by
            rw [← Array.foldl_toList]; simp
          generalize hnew : ((u.cells.toList.zipIdx 0).foldl (fun cs (x : Value × Nat) => cs.setIfInBounds (i * sz + x.2) x.1) arr) = arr1 at *
          have hus : u.cells.toList.length = sz := by simp [hcu.size, hxl]
          simp only [Nat.add_zero, hus] at f2
          have hroom : i * sz + sz ≤ arr.size := by
            have h1 : (i + 1) * sz ≤ (i + (rest.length + 1)) * sz := Nat.mul_le_mul_right _ (by omega)
            simp only [List.length_cons] at hsz
            rw [Nat.add_mul, Nat.one_mul] at h1
            omega
          have hone1 : ∀ (j : Nat) u', arr1[j]? = some u' → u'.oneCell' = true := by
            intro j u' hu'
            rw [f2 j] at hu'
            split at hu'
            · exact hcu.one _ u' (by simpa using hu')
            · exact hone j u' hu'
          obtain ⟨g0, arr', g1, g2, g3, g4, g5, g6⟩ := fill_row hg r sz rest (i + 1) orc1 q2 es2 orc2 arr1 hrest hq2 (by rw [f1]; simp only [List.length_cons] at hsz; rw [show i + 1 + rest.length = i + (rest.length + 1) from by omega]; exact hsz) hone1
          refine ⟨by simp [g0], arr', ?_, by rw [g2, f1], g3, fun j hj => ?_, fun j e' he' => ?_, fun j e' l d u' he' hd hu' => ?_⟩
          · simp only [List.map_cons, Instr.fill]
            rw [hu]
            rw [if_neg (by
              have : u.cells.size = sz := by simpa using hus
              simp only [this]; simp; exact hroom)]
            rw [efold]
            exact g1
          · rw [g4 j (by rw [Nat.add_mul]; omega), f2 j, if_neg (by omega)]
          · cases j with
            | zero =>
              simp at he'; subst he'
              rw [← V.fitsL_len hfit, hxl]
            | succ j => simp at he'; exact g5 j e' he'
          · cases j with
            | zero =>
              simp at he'; subst he'
              have hl : l < sz := by rw [← hxl, V.fitsL_len hfit]; exact (List.getElem?_eq_some_iff.1 hd).1
              rw [Nat.add_zero] at hu'
              rw [g4 _ (by rw [Nat.add_mul]; omega), f2, if_pos ⟨by omega, by omega, by omega⟩] at hu'
              rw [show i * sz + l - i * sz = l from by omega] at hu'
              have hx : xs[l]? = some xs[l] := by simp [hxl, hl]
              exact fits_pure (hcu.get l u' _ (by simpa using hu') hx) (V.fitsL_get hfit hx hd)
            | succ j =>
              simp at he'
              exact g6 j e' l d u' he' hd (by rw [← hu', show i + 1 + j = i + (j + 1) from by omega])
        · cases h
      · cases h
    · cases h

theorem y_buildSlice (hT : TOK P T) {o : Oper} {st : St} {t el : TypeId} {n : Nat} {parts : Array (Nat × Operand)} (ho : o.op = .buildSlice t n parts) (hn : parts.toList.length = n) (ht : tkOf T t = some (.sl el)) {ti : TI} (hti : T el = some ti)
    {zs : List V} (hzs : ti.zero.cells = some zs) (hzl : zs.length = ti.size) {orc orc' es : List PD} {q : Prop} (hpt : rowParts st G ti.size 0 parts.toList orc = some (q, es, orc')) (hq : q) (hb : n * ti.size ≤ 16777216)
    (hn2 : n ≤ 16777216) (id : Nat) (hf : st.fresh id = true) : Yields P G o st (.ms id) { st with H := (id, .row el ti.size es) :: st.H } := by
  intro c M μ tmps w hg r
  obtain ⟨z, hzr, hzc, i, hi, hz, hisz, hiby⟩ := run_zero hT hti hzs M μ w
  have hd := hT.sl ht
  have hone : ∀ (j : Nat) u, (madeCells z.cells (n * ti.size))[j]? = some u → u.oneCell' = true := by
    intro j u hu
    unfold madeCells at hu
    rw [Array.getElem?_map] at hu
    obtain ⟨k', hk', rfl⟩ := Option.map_eq_some_iff.1 hu
    have hzs' : z.cells.size = ti.size := by rw [hzc.size, hzl]
    have hpos : 0 < ti.size := by
      rcases Nat.eq_zero_or_pos ti.size with h0 | h0
      · rw [h0] at hk'; simp at hk'
      · exact h0
    have hlt : k' % z.cells.size < z.cells.size := Nat.mod_lt _ (by omega)
    have : z.cells[k' % z.cells.size]! = z.cells[k' % z.cells.size] := by simp [hlt]
    rw [this]
    exact hzc.one (k' % z.cells.size) _ (by simp [hlt])
  obtain ⟨g0, arr', g1, g2, g3, _, g5, g6⟩ := fill_row (tmps := tmps) hg r ti.size parts.toList 0 orc q es orc' (madeCells z.cells (n * ti.size)) hpt hq (by rw [size_madeCells, Nat.zero_add, hn]; exact Nat.le_refl _) hone
  rw [size_madeCells] at g2
  have e3 : (execOp (Act.eval ⟨tmps, []⟩) o).run P w = .ok (.value (.slice (some ⟨w.heap.size, 0, none⟩) n n)) (w.alloc (.cells arr' el)) := by
    have hso : (sizeOf el).run P w = .ok ti.size w := by simp [sizeOf, typeInfo, hi, hisz]
    have hmc : ((Array.range (n * ti.size)).map (z.cells[· % z.cells.size]!)) = madeCells z.cells (n * ti.size) := rfl
    have hrun : (Instr.buildSlice t n (parts.map fun x => (x.1, Act.eval ⟨tmps, []⟩ x.2))).run P w = .ok (.slice (some ⟨w.heap.size, 0, none⟩) n n) (w.alloc (.cells arr' el)) := by
      unfold Instr.buildSlice
      rw [Sem.run_bind, run_underlying hd]
      simp only [Result.andThen_ok]
      rw [Sem.run_bind, hso]
      simp only [Result.andThen_ok]
      rw [if_neg (by omega)]
      by_cases h0 : n * ti.size = 0
      · have hm0 : madeCells z.cells (n * ti.size) = #[] := by simp [madeCells, h0]
        rw [hm0] at g1
        have hr0 : (Array.range 0).map (fun x => (#[] : Array Value)[x % (#[] : Array Value).size]!) = #[] := by apply Array.ext'; simp
        simp only [h0, if_true, Sem.run_bind, Sem.run_pure, Result.andThen_ok, Array.toList_map]
        rw [hr0, g1]
        simp [newRow]
      · rw [if_neg h0]
        simp only [Sem.run_bind, hzr, Sem.run_pure, Result.andThen_ok, hmc, Array.toList_map]
        rw [g1]
        simp [newRow]
    simp only [execOp, ho]
    rw [Sem.run_bind]
    simp only [hrun]
    rfl
  rw [e3]
  have hlen : es.length = n := by rw [g0, hn]
  have hrow : RowOf M ti.size es arr'.toList := ⟨by simp [g2, hlen], fun u hu => by
    obtain ⟨k, hk, rfl⟩ := List.mem_iff_getElem.1 hu
    exact g3 k _ (by simp at hk; simp [hk]), g5, fun i e j d u he hd hu => g6 i e j d u he hd (by rw [Nat.zero_add]; simpa using hu)⟩
  obtain ⟨μ', h1, h2⟩ := new_row r hf (e := el) hrow (by simp [maxLen]; omega)
  rw [hlen] at h2
  exact ⟨M, μ', h1, h2⟩
end
end Go.Proofs.YtdploelkmlbhnaaDoor.Sy
