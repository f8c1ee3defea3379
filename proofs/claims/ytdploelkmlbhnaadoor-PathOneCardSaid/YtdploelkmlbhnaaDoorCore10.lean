/-
  OUR OWN LAYER, 10: the operations that make boxes, or write them.
-/
import Derived.Test.YtdploelkmlbhnaaDoorCore9
import Derived.Deep.AppendSrc
namespace Go.Proofs.YtdploelkmlbhnaaDoor.Sy
open Go

/-! ### Forgetting a box -/
def killL (id : Nat) : List V → List V
  | [] => []
  | x :: xs => (match V.noRef id x with | true => x | false => .dead) :: killL id xs
def Box.kill (id : Nat) : Box → Box
  | .vars e cs => .vars e (killL id cs)
  | b => b
def killH (id : Nat) : List (Nat × Box) → List (Nat × Box)
  | [] => []
  | (i, b) :: r => if i = id then killH id r else (i, b.kill id) :: killH id r
def St.kill (st : St) (id : Nat) : St := { st with tmps := killL id st.tmps, pins := st.pins.filter (· != id), H := killH id st.H }

theorem killL_le (id : Nat) : ∀ l, VLeL l (killL id l)
  | [] => trivial
  | x :: xs => by
    refine ⟨?_, killL_le id xs⟩
    cases V.noRef id x
    · exact .dead x
    · exact .refl x
theorem noRefL_killL (id : Nat) : ∀ l, V.noRefL id (killL id l) = true
  | [] => rfl
  | x :: xs => by
    simp only [killL, V.noRefL, noRefL_killL id xs, Bool.and_true]
    cases h : V.noRef id x
    · rfl
    · exact h
theorem killH_keys (id : Nat) : ∀ H : List (Nat × Box), (killH id H).map (·.1) = (H.map (·.1)).filter (· ≠ id)
  | [] => rfl
  | (i, b) :: r => by
    simp only [killH]
    split
    · rename_i h; simp [h, killH_keys id r]
    · rename_i h; simp [h, killH_keys id r]
theorem killH_mem {id : Nat} : ∀ {H : List (Nat × Box)} {i : Nat} {b : Box}, (i, b) ∈ killH id H → i ≠ id ∧ ∃ b', (i, b') ∈ H ∧ b = b'.kill id
  | [], i, b, h => by simp [killH] at h
  | (j, c) :: r, i, b, h => by
    simp only [killH] at h
    split at h
    · obtain ⟨h1, b', h2, h3⟩ := killH_mem h
      exact ⟨h1, b', List.mem_cons.2 (.inr h2), h3⟩
    · rename_i hj
      rcases List.mem_cons.1 h with h | h
      · cases h; exact ⟨hj, c, List.mem_cons.2 (.inl rfl), rfl⟩
      · obtain ⟨h1, b', h2, h3⟩ := killH_mem h
        exact ⟨h1, b', List.mem_cons.2 (.inr h2), h3⟩
theorem keyIn_killH {id i : Nat} {H : List (Nat × Box)} (h : keyIn i (killH id H) = true) : i ≠ id ∧ keyIn i H = true := by
  obtain ⟨b, hb⟩ := keyIn_iff.1 h
  obtain ⟨h1, b', h2, _⟩ := killH_mem hb
  exact ⟨h1, keyIn_iff.2 ⟨b', h2⟩⟩

theorem noRefH_kill (id : Nat) : ∀ H : List (Nat × Box), noRefH id (killH id H) = true
  | [] => rfl
  | (i, b) :: r => by
    simp only [killH]
    split
    · exact noRefH_kill id r
    · simp only [noRefH, noRefH_kill id r, Bool.and_true]
      cases b <;> simp [Box.kill, Box.noRef, noRefL_killL]
theorem keyIn_kill (id : Nat) : ∀ H : List (Nat × Box), keyIn id (killH id H) = false
  | [] => rfl
  | (i, b) :: r => by
    simp only [killH]
    split
    · exact keyIn_kill id r
    · rename_i h; simp [keyIn, keyIn_kill id r, h]
theorem fresh_kill (st : St) (id : Nat) : (st.kill id).fresh id = true := by
  simp [St.fresh, St.kill, noRefL_killL, noRefH_kill, keyIn_kill]

section
variable {c : Ctx} {M : FMap} {μ : Mu} {st : St} {tmps : Array Value} {w w' : World}

theorem RBox.kill {id i : Nat} {b : Box} (r : RBox M μ w i b) : RBox M μ w i (b.kill id) := by
  cases r with
  | vars h0 h1 h2 h3 h4 =>
    have hr : RL M μ _ _ := RL.weaken (M := M) (μ := μ) ⟨h2, h4⟩ (killL_le id _)
    exact .vars h0 h1 hr.1 h3 hr.2
  | row h0 hv h1 h2 h3 h4 h5 h6 h7 => exact .row h0 hv h1 h2 h3 h4 h5 h6 h7
  | rowN h0 hv => exact .rowN h0 hv
  | iter h0 h1 h2 h3 => exact .iter h0 h1 h2 h3

theorem Rel.kill (r : Rel c M μ st tmps w) (id : Nat) : Rel c M μ (st.kill id) tmps w where
  mem := r.mem
  ext := r.ext
  old := r.old
  slots := r.slots.weaken (killL_le id _)
  pins := fun i hi => r.pins i (List.mem_filter.1 hi).1
  box := fun i b hb => by
    obtain ⟨_, b', h2, rfl⟩ := killH_mem hb
    exact (r.box i b' h2).kill
  nodup := by
    show ((killH id st.H).map (·.1)).Nodup
    rw [killH_keys]
    exact r.nodup.filter _
  inj := fun i j b hi hj => r.inj i j b (keyIn_killH hi).2 (keyIn_killH hj).2
  own := fun i b hi => r.own i b (keyIn_killH hi).2
  size := r.size
  below := r.below

theorem kill_noBlk (r : Rel c M μ st tmps w) {id b : Nat} (hk : keyIn id st.H = true) (hb : (μ id).blk = some b) : ∀ j, keyIn j (st.kill id).H = true → (μ j).blk ≠ some b := by
  intro j hj hjb
  obtain ⟨h1, h2⟩ := keyIn_killH hj
  exact h1 (r.inj j id b h2 hk hjb hb)

/-- A block that no box of the state has turns. -/
theorem Rel.turn (r : Rel c M μ st tmps w) {b : Nat} (hB : c.mine b) (hM : ∀ o, M b o = none) (hno : ∀ j, keyIn j st.H = true → (μ j).blk ≠ some b) (h : Turned w w' b) : Rel c M μ st tmps w' where
  mem := fun b' o v hv => by
    have hne : b' ≠ b := by rintro rfl; rw [hM o] at hv; cases hv
    exact (World.cell?_of_block (w := w) (h.block b' hne)).trans (r.mem b' o v hv)
  ext := r.ext
  old := r.old
  slots := r.slots
  pins := r.pins
  box := fun i bx hb => (r.box i bx hb).mono (fun _ _ _ h => h) rfl (fun _ _ => rfl) (fun b2 hb2 => h.block _ fun e => hno i (keyIn_iff.2 ⟨bx, hb⟩) (by rw [hb2, e]))
  nodup := r.nodup
  inj := r.inj
  own := fun i b hi hib => by
    have := r.own i b hi hib
    exact ⟨this.1, by rw [h.size]; exact this.2.1, this.2.2⟩
  size := by rw [h.size]; exact r.size
  below := r.below.trans ⟨h.os, h.tape, h.output, Nat.le_of_eq h.size.symm, fun k hk => h.block k (by rintro rfl; exact hk hB)⟩

/-- A box for a block that is there, and that no other box has. -/
theorem Rel.adopt (r : Rel c M μ st tmps w) {id : Nat} {bx : Box} {l : Loc} (hf : st.fresh id = true)
    (hl : ∀ b, l.blk = some b → c.mine b ∧ b < w.heap.size ∧ (∀ o, M b o = none) ∧ ∀ j, keyIn j st.H = true → (μ j).blk ≠ some b)
    (hbx : RBox M (upd μ id l) w id bx) : Rel c M (upd μ id l) { st with H := (id, bx) :: st.H } tmps w := by
  obtain ⟨f1, f2, f3, f4⟩ := St.fresh_spec hf
  refine { r with slots := ?_, pins := ?_, box := ?_, nodup := ?_, inj := ?_, own := ?_ }
  · exact r.slots.mono (fun _ _ _ h => h) fun i hi => upd_ne μ l (ne_of_noRef (P := fun i => V.noRefL i st.tmps) f1 hi)
  · intro i hi; rw [upd_ne μ l (by rintro rfl; exact f2 hi)]; exact r.pins i hi
  · intro i b hb
    rcases List.mem_cons.1 hb with e | e
    · cases e; exact hbx
    · have hne : i ≠ id := by rintro rfl; rw [keyIn_iff.2 ⟨b, e⟩] at f4; cases f4
      exact (r.box i b e).mono (fun _ _ _ h => h) (upd_ne μ l hne) (fun j hj => upd_ne μ l (by
        rintro rfl; rw [noRefH_mem f3 e] at hj; cases hj)) (fun _ _ => rfl)
  · simp only [List.map_cons, List.nodup_cons]
    refine ⟨fun hm => ?_, r.nodup⟩
    obtain ⟨⟨i, b⟩, hb, rfl⟩ := List.mem_map.1 hm
    rw [keyIn_iff.2 ⟨b, hb⟩] at f4; cases f4
  · intro i j b hi hj hei hej
    simp only [keyIn, Bool.or_eq_true, beq_iff_eq] at hi hj
    by_cases hid : i = id
    · by_cases hjd : j = id
      · rw [hid, hjd]
      · have hj' := hj.resolve_left (Ne.symm hjd)
        rw [hid, upd_same] at hei
        rw [upd_ne μ l hjd] at hej
        exact ((hl b hei).2.2.2 j hj' hej).elim
    · have hi' := hi.resolve_left (Ne.symm hid)
      by_cases hjd : j = id
      · rw [hjd, upd_same] at hej
        rw [upd_ne μ l hid] at hei
        exact ((hl b hej).2.2.2 i hi' hei).elim
      · rw [upd_ne μ l hid] at hei
        rw [upd_ne μ l hjd] at hej
        exact r.inj i j b hi' (hj.resolve_left (Ne.symm hjd)) hei hej
  · intro i b hi hib
    simp only [keyIn, Bool.or_eq_true, beq_iff_eq] at hi
    by_cases hid : i = id
    · rw [hid, upd_same] at hib
      have := hl b hib
      exact ⟨this.1, this.2.1, this.2.2.1⟩
    · rw [upd_ne μ l hid] at hib; exact r.own i b (hi.resolve_left (Ne.symm hid)) hib

theorem none_new (r : Rel c M μ st tmps w) {b : Nat} (hb : w.heap.size ≤ b) (o : Nat) : M b o = none := by
  cases hm : M b o with
  | none => rfl
  | some v => have := lt_of_cell (r.mem _ _ _ hm); omega

theorem noBlk_new (r : Rel c M μ st tmps w) {b : Nat} (hb : w.heap.size ≤ b) : ∀ j, keyIn j st.H = true → (μ j).blk ≠ some b := by
  intro j hj hjb
  have := (r.own j b hj hjb).2.1
  omega

end

/-! ### The operations -/
section
variable {P : Program} {T : Tab} {G : Glob}

theorem run_zero (hT : TOK P T) {t : TypeId} {ti : TI} (ht : T t = some ti) {zs : List V} (hz : ti.zero.cells = some zs) (M : FMap) (μ : Mu) (w : World) :
    ∃ z, (zeroValue t).run P w = .ok z w ∧ Cells M μ z.cells zs ∧ (∃ i, P.info? t = some i ∧ i.zero = some z ∧ i.size = ti.size ∧ i.bytes = ti.bytes) := by
  obtain ⟨i, d, hi, _, _, hsz, hby, hzero, _⟩ := hT.get ht
  cases hzz : i.zero with
  | none => rw [hzz] at hzero; simp at hzero; rw [← hzero] at hz; simp [V.cells] at hz
  | some z =>
    rw [hzz] at hzero
    simp only [Option.map_some, Option.getD_some] at hzero
    refine ⟨z, by simp [zeroValue, typeInfo, hi, hzz], Cells.of (ofConst_sound M μ z) (by rw [hzero]; exact hz), i, hi, hzz, hsz, hby⟩

/-- A new box of variables. -/
theorem new_vars {c : Ctx} {M : FMap} {μ : Mu} {st : St} {tmps : Array Value} {w : World} (r : Rel c M μ st tmps w) {id : Nat} (hf : st.fresh id = true) {e : TypeId} {zs : List V} {arr : Array Value}
    (hc : Cells M μ arr zs) (hn : V.noRefL id zs = true) :
    ∃ μ', Rel c M μ' { st with H := (id, .vars e zs) :: st.H } tmps (w.alloc (.cells arr e)) ∧ RV M μ' (.pointer (some ⟨w.heap.size, 0, none⟩)) (.ptr id 0) := by
  refine ⟨upd μ id ⟨some w.heap.size, undef⟩, r.newBox hf (Grows.alloc w _) (fun b hb => ?_) ?_ hn, .ptr (by rw [upd_same])⟩
  · cases hb; exact ⟨Nat.le_refl _, by simp⟩
  · refine .vars (by rw [upd_same]) (heap_alloc_new w _) hc.size hc.one fun i u x hu hx => (hc.get i u x hu hx).mono (fun _ _ _ h => h) fun j hj => upd_ne μ _ ?_
    rintro rfl
    rw [V.noRefL_get hn hx] at hj; cases hj

theorem y_alloc (hT : TOK P T) {o : Oper} {st : St} {e : TypeId} (ho : o.op = .alloc e) {ti : TI} (ht : T e = some ti) {zs : List V} (hz : ti.zero.cells = some zs) (id : Nat) (hf : st.fresh id = true)
    (hn : V.noRefL id zs = true) : Yields P G o st (.ptr id 0) { st with H := (id, .vars e zs) :: st.H } := by
  intro c M μ tmps w _ r
  obtain ⟨z, hzr, hzc, _⟩ := run_zero hT ht hz M μ w
  have e1 : (execOp (Act.eval ⟨tmps, []⟩) o).run P w = .ok (.value (.pointer (some ⟨w.heap.size, 0, none⟩))) (w.alloc (.cells z.cells e)) := by
    simp [execOp, ho, Instr.alloc, hzr, newVar, newRow]
  rw [e1]
  obtain ⟨μ', h1, h2⟩ := new_vars r hf (e := e) hzc hn
  exact ⟨M, μ', h1, h2⟩

theorem y_box (hT : TOK P T) {o : Oper} {st : St} {e : TypeId} {x : Operand} (ho : o.op = .box e x) {p : Prop} {v : V} (ha : st.arg G x = (p, v)) (hp : p) {zs : List V} (hz : v.cells = some zs) (id : Nat) (hf : st.fresh id = true)
    (hn : V.noRefL id zs = true) : Yields P G o st (.ptr id 0) { st with H := (id, .vars e zs) :: st.H } := by
  have _ := hT
  intro c M μ tmps w hg r
  have hv := arg_sound hg r ha hp
  have hzc := Cells.of hv hz
  have e1 : (execOp (Act.eval ⟨tmps, []⟩) o).run P w = .ok (.value (.pointer (some ⟨w.heap.size, 0, none⟩))) (w.alloc (.cells (Act.eval ⟨tmps, []⟩ x).cells e)) := by
    simp [execOp, ho, Instr.box, newVar, newRow]
  rw [e1]
  obtain ⟨μ', h1, h2⟩ := new_vars r hf (e := e) hzc hn
  exact ⟨M, μ', h1, h2⟩

theorem setRow_turned (w : World) (b : Nat) (cs : Array Value) : Turned w (w.setRow b cs) b :=
  ⟨rfl, rfl, rfl, by simp, fun k hk => setRow_other w b k cs hk⟩

/-- A store into a box of variables. -/
theorem y_store_at (hT : TOK P T) {o : Oper} {st : St} {t : TypeId} {a x : Operand} (ho : o.op = .store t a x) {ti : TI} (ht : T t = some ti) {q : Prop} {id off : Nat} {v : V}
    (hx : st.arg G x = (q, v)) (hq : q) {e : TypeId} {cells : List V} (hb : boxOf id st.H = some (.vars e cells)) {xs : List V} (hxs : v.cells = some xs)
    (hsz : xs.length = ti.size) (hfit : off + xs.length ≤ cells.length) (c : Ctx) (M : FMap) (μ : Mu) (tmps : Array Value) (w : World) (hg : GOK G c.M0) (r : Rel c M μ st tmps w) (h1 : RV M μ (Act.eval ⟨tmps, []⟩ a) (.ptr id off)) :
    Ends P (fun u w' => ∃ M' μ', Rel c M' μ' { st with H := setBox id (.vars e (splice cells off xs)) st.H } tmps w' ∧ RV M' μ' u .dead) ((execOp (Act.eval ⟨tmps, []⟩) o).run P w) := by
  have h2 := arg_sound hg r hx hq
  generalize hu1 : Act.eval ⟨tmps, []⟩ a = u1 at h1
  generalize hu2 : Act.eval ⟨tmps, []⟩ x = u2 at h2
  cases h1 with
  | @ptr _ _ b hbk =>
  have hc := Cells.of h2 hxs
  have hm := boxOf_mem hb
  have hbx := r.box id _ hm
  cases hbx with
  | @vars _ _ b' arr h0 hh hs ho1 hcc =>
  rw [hbk] at h0
  cases h0
  obtain ⟨i, d, hi, _, _, hszi, _⟩ := hT.get ht
  have hst := run_storeCells_at P b off e u2.cells.toList 0 arr w hh (by
    simp only [Nat.add_zero, Array.length_toList]
    rw [hc.size, hs]; exact hfit) (fun v hv => by
      obtain ⟨j, hj, rfl⟩ := List.mem_iff_getElem.1 hv
      exact hc.one j _ (by simp at hj; simp [hj]))
  simp only [Nat.add_zero] at hst
  have e1 : (execOp (Act.eval ⟨tmps, []⟩) o).run P w = .ok .skip (w.setRow b (arr.toList.take off ++ u2.cells.toList ++ arr.toList.drop (off + u2.cells.toList.length)).toArray) := by
    have hs1 : (sizeOf t).run P w = .ok ti.size w := by simp [sizeOf, typeInfo, hi, hszi]
    have : u2.cells.size = ti.size := by rw [hc.size, hsz]
    simp only [execOp, ho, hu1, hu2]
    rw [Sem.run_bind]
    have : (Instr.storeAt t (.pointer (some ⟨b, off, none⟩)) u2).run P w = .ok () (w.setRow b (arr.toList.take off ++ u2.cells.toList ++ arr.toList.drop (off + u2.cells.toList.length)).toArray) := by
      show (storeVar t ⟨b, off, none⟩ u2).run P w = _
      unfold storeVar
      rw [Sem.run_bind, hs1]
      simp only [Result.andThen_ok]
      rw [if_neg (by simp [this])]
      exact hst
    rw [this]
    rfl
  rw [e1]
  refine ⟨M, μ, r.write (keyIn_iff.2 ⟨_, hm⟩) hbk (setRow_turned w b _) ?_, .dead⟩
  have hlu : u2.cells.toList.length = xs.length := by simp [hc.size]
  refine .vars hbk (setRow_heap w b arr _ e (0, 0) hh) ?_ (fun j u hu => ?_) (fun j u y hu hy => ?_)
  · simp [splice, hc.size, hs]
  · rw [List.getElem?_toArray] at hu
    rw [List.append_assoc, List.getElem?_append] at hu
    split at hu
    · rw [List.getElem?_take] at hu
      split at hu
      · exact ho1 j u (by simpa using hu)
      · cases hu
    · rw [List.getElem?_append] at hu
      split at hu
      · exact hc.one _ u (by simpa using hu)
      · rw [List.getElem?_drop] at hu
        exact ho1 _ u (by simpa using hu)
  · rw [List.getElem?_toArray] at hu
    rw [getElem?_splice cells xs off j hfit] at hy
    have hto : (arr.toList.take off).length = off := by simp; omega
    rw [List.append_assoc, List.getElem?_append, hto] at hu
    split at hu
    · rename_i hj
      rw [if_neg (by omega)] at hy
      rw [List.getElem?_take, if_pos hj] at hu
      exact hcc j u y (by simpa using hu) hy
    · rename_i hj
      rw [List.getElem?_append, hlu] at hu
      split at hu
      · rename_i hj2
        rw [if_pos ⟨by omega, by omega⟩] at hy
        exact hc.get _ u y (by simpa using hu) hy
      · rename_i hj2
        rw [if_neg (by omega)] at hy
        rw [List.getElem?_drop] at hu
        exact hcc j u y (by rw [← hu, show off + xs.length + (j - off - xs.length) = j from by omega]; simp) hy
theorem y_store (hT : TOK P T) {o : Oper} {st : St} {t : TypeId} {a x : Operand} (ho : o.op = .store t a x) {ti : TI} (ht : T t = some ti) {p q : Prop} {id off : Nat} {v : V}
    (ha : st.arg G a = (p, .ptr id off)) (hp : p) (hx : st.arg G x = (q, v)) (hq : q) {e : TypeId} {cells : List V} (hb : boxOf id st.H = some (.vars e cells)) {xs : List V} (hxs : v.cells = some xs)
    (hsz : xs.length = ti.size) (hfit : off + xs.length ≤ cells.length) : Yields P G o st .dead { st with H := setBox id (.vars e (splice cells off xs)) st.H } :=
  fun c M μ tmps w hg r => y_store_at hT ho ht hx hq hb hxs hsz hfit c M μ tmps w hg r (arg_sound hg r ha hp)
end
end Go.Proofs.YtdploelkmlbhnaaDoor.Sy
