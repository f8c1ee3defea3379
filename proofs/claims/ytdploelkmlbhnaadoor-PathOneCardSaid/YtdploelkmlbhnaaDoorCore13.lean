/-
  OUR OWN LAYER, 13: stores into rows; ranging over a text; rows that are frozen, or begun.
-/
import Derived.Test.YtdploelkmlbhnaaDoorCore12
namespace Go.Proofs.YtdploelkmlbhnaaDoor.Sy
open Go

section
variable {P : Program} {T : Tab} {G : Glob} {Q : Exit → St → Prop}

def spliceD (l : List PD) (o : Nat) (xs : List V) : List V := splice (l.map .p) o xs

/-- A store into a row: element 'i' becomes 'e1'. -/
theorem y_storeRow (hT : TOK P T) {o : Oper} {st : St} {t : TypeId} {a x : Operand} (ho : o.op = .store t a x) {ti : TI} (ht : T t = some ti) {p q : Prop} {id i sz off : Nat} {v : V}
    (ha : st.arg G a = (p, .rptr id i sz off)) (hp : p) (hx : st.arg G x = (q, v)) (hq : q) {e : TypeId} {es : List PD} (hb : boxOf id st.H = some (.row e sz es)) {xs : List V} (hxs : v.cells = some xs)
    (hsz : xs.length = ti.size) {e0 e1 : PD} (he0 : es[i]? = some e0) (hfit : off + xs.length ≤ e0.cells.length) (he1 : V.fitsL [] (spliceD e0.cells off xs) e1.cells) :
    Yields P G o st .dead { st with H := setBox id (.row e sz (es.set i e1)) st.H } := by
  intro c M μ tmps w hg r
  have h1 := arg_sound hg r ha hp
  have h2 := arg_sound hg r hx hq
  generalize hu1 : Act.eval ⟨tmps, []⟩ a = u1 at h1
  generalize hu2 : Act.eval ⟨tmps, []⟩ x = u2 at h2
  cases h1 with
  | @rptr _ _ _ _ b hbk =>
  have hc := Cells.of h2 hxs
  have hm := boxOf_mem hb
  have hbx := r.box id _ hm
  cases hbx with
  | rowN h0 hv => rw [hbk] at h0; cases h0
  | @row _ _ _ b' cap arr h0 hval hh hs hlc hcm ho1 hz hcc =>
  rw [hbk] at h0
  cases h0
  obtain ⟨inf, d, hi, _, _, hszi, _⟩ := hT.get ht
  have hil := (List.getElem?_eq_some_iff.1 he0).1
  have h0l : e0.cells.length = sz := hz i e0 he0
  have hend : i * sz + sz ≤ arr.size := by
    have : (i + 1) * sz ≤ cap * sz := Nat.mul_le_mul_right _ (by omega)
    rw [Nat.add_mul, Nat.one_mul] at this
    omega
  have hul : u2.cells.toList.length = xs.length := by simp [hc.size]
  have hst := run_storeCells_at P b (i * sz + off) e u2.cells.toList 0 arr w hh (by
    simp only [Nat.add_zero, hul]
    omega) (fun v hv => by
      obtain ⟨j, hj, rfl⟩ := List.mem_iff_getElem.1 hv
      exact hc.one j _ (by simp at hj; simp [hj]))
  simp only [Nat.add_zero] at hst
  generalize hnew : (arr.toList.take (i * sz + off) ++ u2.cells.toList ++ arr.toList.drop (i * sz + off + u2.cells.toList.length)).toArray = arr' at hst
  have hget : ∀ k, arr'[k]? = if i * sz + off ≤ k ∧ k < i * sz + off + xs.length then u2.cells[k - (i * sz + off)]? else arr[k]? := by
    intro k
    rw [← hnew, List.getElem?_toArray]
    have hto : (arr.toList.take (i * sz + off)).length = i * sz + off := by simp; omega
    rw [List.append_assoc, List.getElem?_append, hto]
    split
    · rename_i hk
      rw [if_neg (by omega), List.getElem?_take, if_pos hk]; simp
    · rename_i hk
      rw [List.getElem?_append, hul]
      split
      · rw [if_pos ⟨by omega, by omega⟩]; simp
      · rw [if_neg (by omega), List.getElem?_drop]
        rw [show i * sz + off + xs.length + (k - (i * sz + off) - xs.length) = k from by omega]; simp
  have hsize : arr'.size = arr.size := by
    have hus : u2.cells.size = xs.length := hc.size
    rw [← hnew]
    simp [hus]
    omega
  have e2 : (execOp (Act.eval ⟨tmps, []⟩) o).run P w = .ok .skip (w.setRow b arr') := by
    have hs1 : (sizeOf t).run P w = .ok ti.size w := by simp [sizeOf, typeInfo, hi, hszi]
    have hcs : u2.cells.size = ti.size := by rw [hc.size, hsz]
    simp only [execOp, ho, hu1, hu2]
    rw [Sem.run_bind]
    have : (Instr.storeAt t (.pointer (some ⟨b, i * sz + off, none⟩)) u2).run P w = .ok () (w.setRow b arr') := by
      show (storeVar t ⟨b, i * sz + off, none⟩ u2).run P w = _
      unfold storeVar
      rw [Sem.run_bind, hs1]
      simp only [Result.andThen_ok]
      rw [if_neg (by simp [hcs])]
      exact hst
    rw [this]
    rfl
  rw [e2]
  have hset : ∀ (k : Nat) e', (es.set i e1)[k]? = some e' → (k = i ∧ e' = e1) ∨ (k ≠ i ∧ es[k]? = some e') := by
    intro k e' hk
    rw [List.getElem?_set] at hk
    split at hk
    · rename_i hik
      subst hik
      simp only [Option.some.injEq] at hk
      exact .inl ⟨rfl, hk.symm⟩
    · rename_i hik; exact .inr ⟨fun h => hik h.symm, hk⟩
  have h1l : e1.cells.length = sz := by
    rw [← V.fitsL_len he1, ← h0l]
    simp [spliceD, splice]; omega
  refine ⟨M, μ, r.write (keyIn_iff.2 ⟨_, hm⟩) hbk (setRow_turned w b _) ?_, .dead⟩
  refine .row hbk (by rw [List.length_set]; exact hval) (setRow_heap w b arr _ e (0, 0) hh) (by rw [hsize]; exact hs) (by rw [List.length_set]; exact hlc) hcm (fun k u hu => ?_) (fun k e' he' => ?_) (fun k e' j d u he' hd hu => ?_)
  · rw [hget k] at hu
    split at hu
    · exact hc.one _ u hu
    · exact ho1 k u hu
  · rcases hset k e' he' with ⟨rfl, rfl⟩ | ⟨_, h⟩
    · exact h1l
    · exact hz k e' h
  · rcases hset k e' he' with ⟨rfl, rfl⟩ | ⟨hne, h⟩
    · have hj : j < sz := by rw [← h1l]; exact (List.getElem?_eq_some_iff.1 hd).1
      have hlen : off + xs.length ≤ (e0.cells.map V.p).length := by simpa using hfit
      have hspl : (spliceD e0.cells off xs)[j]? = if off ≤ j ∧ j < off + xs.length then xs[j - off]? else (e0.cells.map V.p)[j]? := getElem?_splice _ xs off j hlen
      have hjx : j < (spliceD e0.cells off xs).length := by rw [V.fitsL_len he1, h1l]; exact hj
      have hx : (spliceD e0.cells off xs)[j]? = some (spliceD e0.cells off xs)[j] := by simp [hjx]
      have hft := V.fitsL_get he1 hx hd
      rw [hget] at hu
      rw [hspl] at hx
      split at hu
      · rename_i hin
        rw [if_pos ⟨by omega, by omega⟩] at hx
        rw [show k * sz + j - (k * sz + off) = j - off from by omega] at hu
        exact fits_pure (hc.get _ u _ hu hx) hft
      · rename_i hin
        rw [if_neg (by omega), List.getElem?_map] at hx
        obtain ⟨d0, hd0, hd0e⟩ := Option.map_eq_some_iff.1 hx
        rw [← hd0e] at hft
        simp only [V.fits] at hft
        subst hft
        exact hcc k e0 j _ u he0 hd0 hu
    · have hj : j < sz := by rw [← hz k e' h]; exact (List.getElem?_eq_some_iff.1 hd).1
      rw [hget] at hu
      have hfar : ¬ (i * sz + off ≤ k * sz + j ∧ k * sz + j < i * sz + off + xs.length) := by
        rcases Nat.lt_or_gt_of_ne hne with hlt | hgt
        · have : (k + 1) * sz ≤ i * sz := Nat.mul_le_mul_right _ hlt
          rw [Nat.add_mul, Nat.one_mul] at this
          omega
        · have : (i + 1) * sz ≤ k * sz := Nat.mul_le_mul_right _ hgt
          rw [Nat.add_mul, Nat.one_mul] at this
          omega
      rw [if_neg hfar] at hu
      exact hcc k e' j d u h hd hu

/-! ### A text, rune by rune -/
def decL (s : List UInt8) (pos : Nat) : Nat × Nat := Utf8.decode ⟨s.toArray⟩ pos

theorem y_range (hT : TOK P T) {o : Oper} {st : St} {t : TypeId} {x : Operand} (ho : o.op = .range t x) (ht : tkOf T t = some .str) {p : Prop} {s : List UInt8} (hx : st.arg G x = (p, .p (.str s))) (hp : p) (id : Nat)
    (hf : st.fresh id = true) : Yields P G o st (.it id) { st with H := (id, .iter s 0) :: st.H } := by
  intro c M μ tmps w hg r
  have hd := hT.str ht
  have h1 := (arg_sound hg r hx hp).p_inv
  generalize hu1 : Act.eval ⟨tmps, []⟩ x = u1 at h1
  cases h1 with
  | @str b _ hs hm =>
  have e1 : (execOp (Act.eval ⟨tmps, []⟩) o).run P w = .ok (.value (.pointer (some ⟨w.heap.size, 0, none⟩))) (w.alloc (.stringIter b 0)) := by
    simp [execOp, ho, hu1, Instr.range, run_underlying hd]
  rw [e1]
  refine ⟨M, upd μ id ⟨some w.heap.size, undef⟩, r.newBox hf (Grows.alloc w _) (fun b hb => ?_) (.iter (by rw [upd_same]) (heap_alloc_new w _) hs hm) rfl, .it (by rw [upd_same])⟩
  cases hb; exact ⟨Nat.le_refl _, by simp⟩

theorem decL_eq {b : ByteArray} {s : List UInt8} (h : b.data.toList = s) (pos : Nat) : Utf8.decode b pos = decL s pos := by
  subst h
  unfold decL
  congr 1

theorem decode_range (b : ByteArray) (pos : Nat) : (Utf8.decode b pos).1 ≤ 0x10FFFF := by
  have hb : ∀ k, (b.get! (pos + k)).toNat < 256 := fun k => (b.get! (pos + k)).toNat_lt
  have h0 := hb 0; have h1 := hb 1; have h2 := hb 2; have h3 := hb 3
  unfold Utf8.decode
  simp only []
  split
  · simp only []; omega
  · split
    · split
      · simp only []; omega
      · simp [Utf8.runeError]
    · split
      · split
        · simp only []; omega
        · simp [Utf8.runeError]
      · split
        · split
          · rename_i hv
            simp only [Bool.and_eq_true, Utf8.valid, Bool.or_eq_true, decide_eq_true_eq] at hv
            simp only []
            omega
          · simp [Utf8.runeError]
        · simp [Utf8.runeError]

/-- The next rune: there is one ('more'), or there is none. -/
theorem y_next {o : Oper} {st : St} {it : Operand} (ho : o.op = .next it true) {p : Prop} {id : Nat} (hit : st.arg G it = (p, .it id)) (hp : p) {s : List UInt8} {pos : Nat} (hb : boxOf id st.H = some (.iter s pos)) (more : Bool)
    (hmore : more = decide (pos < s.length)) : Yields P G o st (match more with
      | true => .tuple [.p (.bool true), .p (.int .i64 pos), .p (.int .i32 (decL s pos).1)]
      | false => .tuple [.p (.bool false)]) { st with H := setBox id (.iter s (match more with | true => pos + (decL s pos).2 | false => pos)) st.H } := by
  intro c M μ tmps w hg r
  have h1 := arg_sound hg r hit hp
  generalize hu1 : Act.eval ⟨tmps, []⟩ it = u1 at h1
  cases h1 with
  | @it _ b hbk =>
  have hm := boxOf_mem hb
  have hbx := r.box id _ hm
  cases hbx with
  | @iter _ _ b' ba h0 hh hs hl =>
  rw [hbk] at h0
  cases h0
  have hz := str_size hs
  have hnc : ∀ {c e z}, w.heap[b]? ≠ some (.cells c e z) := by intro c e z h; rw [hh] at h; cases h
  have hlt : b < w.heap.size := (Array.getElem?_eq_some_iff.1 hh).1
  cases more with
  | true =>
    have hpos : pos < ba.size := by rw [hz]; simpa using hmore.symm
    have e1 : (execOp (Act.eval ⟨tmps, []⟩) o).run P w = .ok (.value (.tuple #[.bool true, .int .i64 pos, .int .i32 (Utf8.decode ba pos).1])) { w with heap := w.heap.setIfInBounds b (.stringIter ba (pos + (Utf8.decode ba pos).2)) } := by
      simp only [execOp, ho, hu1, Instr.next, getObj, setObj]
      simp [Sem.run, hh, hpos, goInt]
    rw [e1, decL_eq hs]
    have hd := decode_range ba pos
    rw [decL_eq hs] at hd
    refine ⟨M, μ, r.write (keyIn_iff.2 ⟨_, hm⟩) hbk ⟨rfl, rfl, rfl, by simp, fun k hk => by simp [Array.getElem?_setIfInBounds_ne (Ne.symm hk)]⟩ (.iter hbk ?_ hs hl), ?_⟩
    · show (w.heap.setIfInBounds b _)[b]? = _
      simp [hlt]
    · refine .tuple rfl fun i u x hu hx => ?_
      match i, hu, hx with
      | 0, hu, hx => simp at hu hx; subst hu; subst hx; exact .p (.bool true)
      | 1, hu, hx => simp at hu hx; subst hu; subst hx; exact .p (Rd.intOf (by simp only [kmin]; omega) (by simp [kmax, maxLen] at *; omega))
      | 2, hu, hx => simp at hu hx; subst hu; subst hx; exact .p (Rd.intOf (by simp only [kmin]; omega) (by simp only [kmax]; omega))
      | i + 3, hu, hx => simp at hu
  | false =>
    have hpos : ¬ pos < ba.size := by rw [hz]; simpa using hmore.symm
    have e1 : (execOp (Act.eval ⟨tmps, []⟩) o).run P w = .ok (.value (.tuple #[.bool false])) w := by
      simp only [execOp, ho, hu1, Instr.next, getObj]
      simp [Sem.run, hh, hpos]
    rw [e1]
    refine ⟨M, μ, r.write (keyIn_iff.2 ⟨_, hm⟩) hbk ⟨rfl, rfl, rfl, rfl, fun _ _ => rfl⟩ (.iter hbk hh hs hl), ?_⟩
    refine .tuple rfl fun i u x hu hx => ?_
    match i, hu, hx with
    | 0, hu, hx => simp at hu hx; subst hu; subst hx; exact .p (.bool false)
    | i + 1, hu, hx => simp at hu

/-! ### Changes of the state alone -/

/-- A slice that owns nothing is taken as a row that is begun: slot 'd' holds it. -/
theorem Rel.begin {c : Ctx} {M : FMap} {μ : Mu} {st : St} {tmps : Array Value} {w : World} (r : Rel c M μ st tmps w) {d id : Nat} (hd : st.tmps[d]? = some .nilsl) (hf : st.fresh id = true) (e : TypeId) (sz : Nat) :
    ∃ μ', Rel c M μ' { st with tmps := st.tmps.set d (.ms id), H := (id, .row e sz []) :: st.H } tmps w := by
  have hlt : d < st.tmps.length := (List.getElem?_eq_some_iff.1 hd).1
  have hlt' : d < tmps.size := by rw [r.slots.1]; exact hlt
  have hv := r.slots.2 d tmps[d] _ (by simp [hlt']) hd
  generalize hu : tmps[d] = u at hv
  cases hv with
  | @nilsl a =>
  refine ⟨upd μ id ⟨none, .slice a 0 0⟩, ?_⟩
  have r1 := r.adopt (l := ⟨none, .slice a 0 0⟩) hf (fun b hb => by cases hb) (bx := .row e sz []) (.rowN (by rw [upd_same]) (by rw [upd_same]))
  have r2 := r1.put (u := tmps[d]) (x := .ms id) (by rw [hu]; exact .ms (by rw [upd_same]) rfl) (some d)
  have e : tmps.setIfInBounds d tmps[d] = tmps := by
    apply Array.ext_getElem?
    intro k
    rw [Array.getElem?_setIfInBounds]
    split
    · rename_i h; subst h; simp [hlt']
    · rfl
  simp only [e] at r2
  exact r2

theorem AW.begin {code : Code} {st : St} {d id : Nat} (e : TypeId) (sz : Nat) (hd : st.tmps[d]? = some .nilsl) (hf : st.fresh id = true)
    (k : AW P G code Q { st with tmps := st.tmps.set d (.ms id), H := (id, .row e sz []) :: st.H }) : AW P G code Q st := by
  intro c M μ tmps w hg r
  obtain ⟨μ', r'⟩ := r.begin hd hf e sz
  exact k c M μ' tmps w hg r'

theorem AOps.begin {ops : Array Oper} {l : List Oper} {st : St} {d id : Nat} (e : TypeId) (sz : Nat) (hd : st.tmps[d]? = some .nilsl) (hf : st.fresh id = true)
    (k : AOps P G ops Q l { st with tmps := st.tmps.set d (.ms id), H := (id, .row e sz []) :: st.H }) : AOps P G ops Q l st := by
  intro c M μ tmps w hg r
  obtain ⟨μ', r'⟩ := r.begin hd hf e sz
  exact k c M μ' tmps w hg r'
end

/-! ### A row becomes plain data -/
mutual
/-- The value once row 'id' is known as 'd'. -/
def V.frz (id : Nat) (d : PD) : V → V
  | .ms i => if i = id then .p d else .ms i
  | .agg cs => .agg (V.frzL id d cs)
  | .when b x => .when b (V.frz id d x)
  | .func f a b => .func f (V.frzL id d a) (V.frzL id d b)
  | .tuple cs => .tuple (V.frzL id d cs)
  | .ptr i o => if i = id then .dead else .ptr i o
  | .rptr i j k o => if i = id then .dead else .rptr i j k o
  | .it i => if i = id then .dead else .it i
  | .p d => .p d
  | .dead => .dead
  | .nilsl => .nilsl
  | .cptr cs => .cptr cs
def V.frzL (id : Nat) (d : PD) : List V → List V
  | [] => []
  | x :: xs => V.frz id d x :: V.frzL id d xs
end
theorem V.frzL_eq (id : Nat) (d : PD) : ∀ l, V.frzL id d l = l.map (V.frz id d)
  | [] => by simp only [V.frzL, List.map_nil]
  | x :: xs => by simp only [V.frzL, List.map_cons, V.frzL_eq id d xs]

theorem RV.frz {M M' : FMap} {μ : Mu} {id : Nat} {d : PD} (hM : ∀ b o v, M b o = some v → M' b o = some v) (hd : Rd M' (μ id).val d) {u : Value} {x : V} (r : RV M μ u x) : RV M' μ u (x.frz id d) := by
  induction r with
  | p r => simp only [V.frz]; exact .p (r.mono hM)
  | dead => simp only [V.frz]; exact .dead
  | nilsl => simp only [V.frz]; exact .nilsl
  | ptr h1 => simp only [V.frz]; split; · exact .dead
              exact .ptr h1
  | rptr h1 => simp only [V.frz]; split; · exact .dead
               exact .rptr h1
  | cptr h1 h2 =>
    simp only [V.frz]
    refine .cptr (fun j d hd => ?_) (fun j d u hd hu => ?_)
    · obtain ⟨u, hu, hc⟩ := h1 j d hd; exact ⟨u, hM _ _ _ hu, hc⟩
    · obtain ⟨u', hu', _⟩ := h1 j d hd
      have := hM _ _ _ hu'
      rw [this] at hu; cases hu
      exact (h2 j d _ hd hu').mono hM
  | ms h1 h2 =>
    simp only [V.frz]; split
    · rename_i e; subst e; rw [h1]; exact .p hd
    · exact .ms h1 h2
  | it h1 => simp only [V.frz]; split; · exact .dead
             exact .it h1
  | func h1 h2 _ _ ih1 ih2 =>
    simp only [V.frz, V.frzL_eq]
    refine .func (by simpa using h1) (by simpa using h2) (fun i u x hu hx => ?_) (fun i u x hu hx => ?_)
    · rw [List.getElem?_map] at hx
      obtain ⟨y, hy, rfl⟩ := Option.map_eq_some_iff.1 hx
      exact ih1 i u y hu hy
    · rw [List.getElem?_map] at hx
      obtain ⟨y, hy, rfl⟩ := Option.map_eq_some_iff.1 hx
      exact ih2 i u y hu hy
  | agg h1 h2 _ ih =>
    simp only [V.frz, V.frzL_eq]
    refine .agg (by simpa using h1) h2 (fun i u x hu hx => ?_)
    rw [List.getElem?_map] at hx
    obtain ⟨y, hy, rfl⟩ := Option.map_eq_some_iff.1 hx
    exact ih i u y hu hy
  | tuple h1 _ ih =>
    simp only [V.frz, V.frzL_eq]
    refine .tuple (by simpa using h1) (fun i u x hu hx => ?_)
    rw [List.getElem?_map] at hx
    obtain ⟨y, hy, rfl⟩ := Option.map_eq_some_iff.1 hx
    exact ih i u y hu hy
  | when _ h2 ih => simp only [V.frz]; exact .when (fun hb => ih hb) h2

def Box.frz (id : Nat) (d : PD) : Box → Box
  | .vars e cs => .vars e (V.frzL id d cs)
  | .row e sz es => .row e sz es
  | .iter s pos => .iter s pos
theorem RBox.frz {M M' : FMap} {μ : Mu} {w : World} {id i : Nat} {d : PD} (hM : ∀ b o v, M b o = some v → M' b o = some v) (hd : Rd M' (μ id).val d) {bx : Box} (r : RBox M μ w i bx) : RBox M' μ w i (bx.frz id d) := by
  cases r with
  | vars h0 h1 h2 h3 h4 =>
    simp only [Box.frz, V.frzL_eq]
    refine .vars h0 h1 (by simpa using h2) h3 fun i u x hu hx => ?_
    rw [List.getElem?_map] at hx
    obtain ⟨y, hy, rfl⟩ := Option.map_eq_some_iff.1 hx
    exact (h4 i u y hu hy).frz hM hd
  | row h0 hv h1 h2 h3 h4 h5 h6 h7 => exact .row h0 hv h1 h2 h3 h4 h5 h6 fun i e' j d u he hd hu => (h7 i e' j d u he hd hu).mono hM
  | rowN h0 hv => exact .rowN h0 hv
  | iter h0 h1 h2 h3 => exact .iter h0 h1 h2 h3

def frzH (id : Nat) (d : PD) : List (Nat × Box) → List (Nat × Box)
  | [] => []
  | (i, b) :: r => if i = id then frzH id d r else (i, b.frz id d) :: frzH id d r
theorem frzH_mem {id : Nat} {d : PD} : ∀ {H : List (Nat × Box)} {i : Nat} {b : Box}, (i, b) ∈ frzH id d H → i ≠ id ∧ ∃ b', (i, b') ∈ H ∧ b = b'.frz id d
  | (j, c) :: r, i, b, h => by
    simp only [frzH] at h
    split at h
    · obtain ⟨h1, b', h2, h3⟩ := frzH_mem h; exact ⟨h1, b', List.mem_cons.2 (.inr h2), h3⟩
    · rename_i hj
      rcases List.mem_cons.1 h with e | e
      · cases e; exact ⟨hj, c, by simp, rfl⟩
      · obtain ⟨h1, b', h2, h3⟩ := frzH_mem e; exact ⟨h1, b', List.mem_cons.2 (.inr h2), h3⟩
theorem frzH_keys (id : Nat) (d : PD) : ∀ H : List (Nat × Box), (frzH id d H).map (·.1) = (H.map (·.1)).filter (· ≠ id)
  | [] => rfl
  | (j, c) :: r => by
    simp only [frzH]
    split
    · rename_i h; simp [h, frzH_keys id d r]
    · rename_i h; simp [h, frzH_keys id d r]
theorem keyIn_frzH {id i : Nat} {d : PD} {H : List (Nat × Box)} (h : keyIn i (frzH id d H) = true) : i ≠ id ∧ keyIn i H = true := by
  obtain ⟨b, hb⟩ := keyIn_iff.1 h
  obtain ⟨h1, b', h2, _⟩ := frzH_mem hb
  exact ⟨h1, keyIn_iff.2 ⟨b', h2⟩⟩

def St.freeze (st : St) (id : Nat) : St :=
  match boxOf id st.H with
  | some (.row _ sz es) => { st with tmps := V.frzL id (.sl sz es) st.tmps, pins := st.pins.filter (· != id), H := frzH id (.sl sz es) st.H }
  | _ => st

theorem Rel.freeze {c : Ctx} {M : FMap} {μ : Mu} {st : St} {tmps : Array Value} {w : World} (r : Rel c M μ st tmps w) (id : Nat) : ∃ M', Rel c M' μ (st.freeze id) tmps w := by
  unfold St.freeze
  split
  · rename_i e sz es hb
    have hm := boxOf_mem hb
    have hk : keyIn id st.H = true := keyIn_iff.2 ⟨_, hm⟩
    let M2 : FMap := fun b o => if (μ id).blk = some b then w.cell? ⟨b, o, none⟩ else M b o
    have e1 : ∀ b o, (μ id).blk = some b → M2 b o = w.cell? ⟨b, o, none⟩ := fun b o h => if_pos h
    have e2 : ∀ b o, (μ id).blk ≠ some b → M2 b o = M b o := fun b o h => if_neg h
    have hM : ∀ b o v, M b o = some v → M2 b o = some v := by
      intro b o v hv
      by_cases h : (μ id).blk = some b
      · rw [e1 b o h]; exact r.mem b o v hv
      · rw [e2 b o h]; exact hv
    have hd : Rd M2 (μ id).val (.sl sz es) := row_reads (r.box id _ hm) hM fun b h o v hv => by rw [e1 b o h]; exact hv
    refine ⟨M2, ?_, fun b o v hv => hM _ _ _ (r.ext b o v hv), fun b o hb => ?_, ⟨by simp [V.frzL_eq, r.slots.1], fun i u x hu hx => ?_⟩, fun i hi => r.pins i (List.mem_filter.1 hi).1, fun i b hi => ?_, ?_, fun i j b hi hj => ?_, fun i b hi hib => ?_, r.size, r.below⟩
    · intro b o v hv
      by_cases h : (μ id).blk = some b
      · rw [e1 b o h] at hv; exact hv
      · rw [e2 b o h] at hv; exact r.mem b o v hv
    · rw [e2 b o fun h => hb (r.own id b hk h).1]; exact r.old b o hb
    · simp only [V.frzL_eq] at hx
      rw [List.getElem?_map] at hx
      obtain ⟨y, hy, rfl⟩ := Option.map_eq_some_iff.1 hx
      exact (r.slots.2 i u y hu hy).frz hM hd
    · obtain ⟨_, b', h2, rfl⟩ := frzH_mem hi
      exact (r.box i b' h2).frz hM hd
    · show ((frzH id (.sl sz es) st.H).map (·.1)).Nodup
      rw [frzH_keys]; exact r.nodup.filter _
    · exact r.inj i j b (keyIn_frzH hi).2 (keyIn_frzH hj).2
    · obtain ⟨h1, h2⟩ := keyIn_frzH hi
      have h3 := r.own i b h2 hib
      exact ⟨h3.1, h3.2.1, fun o => by rw [e2 b o fun h => h1 (r.inj i id b h2 hk hib h)]; exact h3.2.2 o⟩
  · exact ⟨M, r⟩

end Go.Proofs.YtdploelkmlbhnaaDoor.Sy
