/-
  OUR OWN LAYER, 2: what the world's steps do to the relation: new blocks, draws, stores.
-/
import Derived.Test.YtdploelkmlbhnaaDoorCore1
namespace Go.Proofs.YtdploelkmlbhnaaDoor.Sy
open Go

theorem cell_alloc (w : World) (o : Obj) {b i : Nat} (h : b < w.heap.size) : (w.alloc o).cell? ⟨b, i, none⟩ = w.cell? ⟨b, i, none⟩ :=
  World.cell?_of_block (w := w) (RowKit.Below.heap_alloc w o b h)

theorem lt_of_cell {w : World} {b i : Nat} {v : Value} (h : w.cell? ⟨b, i, none⟩ = some v) : b < w.heap.size := by
  unfold World.cell? at h
  split at h
  · rename_i hb; exact (Array.getElem?_eq_some_iff.1 hb).1
  · cases h

theorem cell_of_block {w : World} {b i : Nat} {arr : Array Value} {e : TypeId} {fz : Nat × Nat} (h : w.heap[b]? = some (.cells arr e fz)) : w.cell? ⟨b, i, none⟩ = arr[i]? := by
  simp [World.cell?, h]

/-- More memory: what was there is as it was. -/
structure Grows (w w' : World) : Prop where
  os : w'.os = w.os
  tape : w'.tape = w.tape
  output : w'.output = w.output
  size : w.heap.size ≤ w'.heap.size
  block : ∀ k, k < w.heap.size → w'.heap[k]? = w.heap[k]?

theorem Grows.refl (w : World) : Grows w w := ⟨rfl, rfl, rfl, Nat.le_refl _, fun _ _ => rfl⟩
theorem Grows.alloc (w : World) (o : Obj) : Grows w (w.alloc o) := ⟨rfl, rfl, rfl, by simp, fun k hk => RowKit.Below.heap_alloc w o k hk⟩
theorem Grows.drew (w : World) : Grows w w.drew := ⟨rfl, rfl, rfl, Nat.le_refl _, fun _ _ => rfl⟩
theorem Grows.trans {a b c : World} (h : Grows a b) (k : Grows b c) : Grows a c :=
  ⟨k.os.trans h.os, k.tape.trans h.tape, k.output.trans h.output, Nat.le_trans h.size k.size, fun i hi => (k.block i (Nat.lt_of_lt_of_le hi h.size)).trans (h.block i hi)⟩
theorem Grows.of_below {w w' : World} (h : RowKit.Below w.heap.size w w') : Grows w w' := ⟨h.os, h.tape, h.output, h.size, h.block⟩
theorem Grows.of_grownBy {w w' : World} (h : w.grownBy w' none) : Grows w w' := ⟨h.os, h.tape, h.output, h.size, fun k hk => h.block k hk (by simp)⟩
theorem Grows.kept {w w' : World} (h : Grows w w') {c : Ctx} (hB : c.B ≤ w.heap.size) : Kept c.mine w w' :=
  ⟨h.os, h.tape, h.output, h.size, fun k hk => h.block k (by have : ¬ c.B ≤ k := fun e => hk (.inl e); omega)⟩

section
variable {c : Ctx} {M M' : FMap} {μ μ' : Mu} {st : St} {tmps : Array Value} {w w' : World}

/-- More memory, and more cells that are known (in the new memory alone). -/
theorem Rel.grows (r : Rel c M μ st tmps w) (h : Grows w w') (hM : ∀ b o v, M b o = some v → M' b o = some v) (hmem : ∀ b o v, M' b o = some v → w'.cell? ⟨b, o, none⟩ = some v)
    (hold : ∀ b o, b < w.heap.size → M' b o = M b o) : Rel c M' μ st tmps w' where
  mem := hmem
  ext := fun b o v hv => hM _ _ _ (r.ext b o v hv)
  old := fun b o hb => (hold b o (by have := r.size; have : ¬ c.B ≤ b := fun e => hb (.inl e); omega)).trans (r.old b o hb)
  slots := r.slots.mono hM fun _ _ => rfl
  pins := r.pins
  box := fun id bx hb => (r.box id bx hb).mono hM rfl (fun _ _ => rfl) (fun b hbk => h.block _ (r.own id b (keyIn_iff.2 ⟨bx, hb⟩) hbk).2.1)
  nodup := r.nodup
  inj := r.inj
  own := fun id b hid hbk => by
    obtain ⟨h1, h2, h3⟩ := r.own id b hid hbk
    exact ⟨h1, Nat.lt_of_lt_of_le h2 h.size, fun o => (hold _ o h2).trans (h3 o)⟩
  size := Nat.le_trans r.size h.size
  below := r.below.trans (h.kept r.size)

theorem Rel.same (r : Rel c M μ st tmps w) (h : Grows w w') : Rel c M μ st tmps w' :=
  r.grows h (fun _ _ _ h => h) (fun b o v hv => by
    have h1 := r.mem b o v hv
    exact (World.cell?_of_block (w := w) (h.block b (lt_of_cell h1))).trans h1) fun _ _ _ => rfl

def upd (μ : Mu) (id : Nat) (l : Loc) : Mu := fun i => if i = id then l else μ i
theorem upd_same (μ : Mu) (id : Nat) (l : Loc) : upd μ id l id = l := by simp [upd]
theorem upd_ne (μ : Mu) {id i : Nat} (l : Loc) (h : i ≠ id) : upd μ id l i = μ i := by simp [upd, h]

theorem St.fresh_spec {st : St} {id : Nat} (h : st.fresh id = true) : V.noRefL id st.tmps = true ∧ id ∉ st.pins ∧ noRefH id st.H = true ∧ keyIn id st.H = false := by
  simp only [St.fresh, Bool.and_eq_true, Bool.not_eq_true', List.contains_eq_mem, decide_eq_false_iff_not] at h
  exact ⟨h.1.1.1, h.1.1.2, h.1.2, h.2⟩

theorem ne_of_noRef {P : Nat → Bool} {id i : Nat} (h : P id = true) (hi : P i = false) : i ≠ id := by
  rintro rfl; rw [h] at hi; cases hi

/-- A new box: its block is new. -/
theorem Rel.newBox (r : Rel c M μ st tmps w) {id : Nat} {bx : Box} {l : Loc} (hf : st.fresh id = true) (h : Grows w w') (hl : ∀ b, l.blk = some b → w.heap.size ≤ b ∧ b < w'.heap.size)
    (hbx : RBox M (upd μ id l) w' id bx) (hno : bx.noRef id = true) : Rel c M (upd μ id l) { st with H := (id, bx) :: st.H } tmps w' := by
  obtain ⟨f1, f2, f3, f4⟩ := St.fresh_spec hf
  have r' := r.same h
  refine { r' with slots := ?_, pins := ?_, box := ?_, nodup := ?_, inj := ?_, own := ?_ }
  · exact r'.slots.mono (fun _ _ _ h => h) fun i hi => upd_ne μ l (ne_of_noRef (P := fun i => V.noRefL i st.tmps) f1 hi)
  · intro i hi; rw [upd_ne μ l (by rintro rfl; exact f2 hi)]; exact r.pins i hi
  · intro i b hb
    rcases List.mem_cons.1 hb with e | e
    · cases e; exact hbx
    · have hne : i ≠ id := by rintro rfl; rw [keyIn_iff.2 ⟨b, e⟩] at f4; cases f4
      exact (r'.box i b e).mono (fun _ _ _ h => h) (upd_ne μ l hne) (fun j hj => upd_ne μ l (by
        rintro rfl; rw [noRefH_mem f3 e] at hj; cases hj)) (fun _ _ => rfl)
  · simp only [List.map_cons, List.nodup_cons]
    refine ⟨fun hm => ?_, r.nodup⟩
    obtain ⟨⟨i, b⟩, hb, rfl⟩ := List.mem_map.1 hm
    rw [keyIn_iff.2 ⟨b, hb⟩] at f4; cases f4
  · intro i j b hi hj hei hej
    simp only [keyIn, Bool.or_eq_true, beq_iff_eq] at hi hj
    by_cases hid : i = id
    · by_cases hjd : j = id
      · rw [hid, hjd]
      · have hj' := hj.resolve_left (Ne.symm hjd)
        rw [hid, upd_same] at hei
        rw [upd_ne μ l hjd] at hej
        have := (r.own j b hj' hej).2.1
        have := (hl b hei).1
        omega
    · have hi' := hi.resolve_left (Ne.symm hid)
      by_cases hjd : j = id
      · rw [hjd, upd_same] at hej
        rw [upd_ne μ l hid] at hei
        have := (r.own i b hi' hei).2.1
        have := (hl b hej).1
        omega
      · rw [upd_ne μ l hid] at hei
        rw [upd_ne μ l hjd] at hej
        exact r.inj i j b hi' (hj.resolve_left (Ne.symm hjd)) hei hej
  · intro i b hi hib
    simp only [keyIn, Bool.or_eq_true, beq_iff_eq] at hi
    by_cases hid : i = id
    · rw [hid, upd_same] at hib
      refine ⟨.inl (Nat.le_trans r.size (hl b hib).1), (hl b hib).2, fun o => ?_⟩
      cases hm : M b o with
      | none => rfl
      | some v => have := lt_of_cell (r.mem _ _ _ hm); have := (hl b hib).1; omega
    · rw [upd_ne μ l hid] at hib; exact r'.own i b (hi.resolve_left (Ne.symm hid)) hib

/-- Weaker states: fewer things known. -/
def VLe : V → V → Prop
  | _, .dead => True
  | x, y => x = y
theorem VLe.refl (x : V) : VLe x x := by cases x <;> simp [VLe]
theorem VLe.dead (x : V) : VLe x .dead := trivial
theorem VLe.cases {x y : V} (h : VLe x y) : x = y ∨ y = .dead := by
  cases y <;> first | exact .inr rfl | exact .inl h
def VLeL : List V → List V → Prop
  | [], [] => True
  | x :: xs, y :: ys => VLe x y ∧ VLeL xs ys
  | _, _ => False
theorem VLeL.refl : ∀ l, VLeL l l
  | [] => trivial
  | x :: xs => ⟨.refl x, VLeL.refl xs⟩
theorem VLeL.len : ∀ {l l' : List V}, VLeL l l' → l.length = l'.length
  | [], [], _ => rfl
  | _ :: _, _ :: _, h => by simp [VLeL.len h.2]
  | [], _ :: _, h => h.elim
  | _ :: _, [], h => h.elim
theorem VLeL.get : ∀ {l l' : List V}, VLeL l l' → ∀ {i : Nat} {y : V}, l'[i]? = some y → ∃ x, l[i]? = some x ∧ VLe x y
  | [], [], _, i, y, hy => by simp at hy
  | x :: xs, z :: ys, h, i, y, hy => by
    cases i with
    | zero => simp at hy; subst hy; exact ⟨x, by simp, h.1⟩
    | succ i => simp at hy; obtain ⟨x', h1, h2⟩ := VLeL.get h.2 hy; exact ⟨x', by simpa using h1, h2⟩
  | [], _ :: _, h, _, _, _ => h.elim
  | _ :: _, [], h, _, _, _ => h.elim
theorem RL.weaken {arr : Array Value} {l l' : List V} (h : RL M μ arr l) (hl : VLeL l l') : RL M μ arr l' := by
  refine ⟨h.1.trans hl.len, fun i u y hu hy => ?_⟩
  obtain ⟨x, hx, hle⟩ := hl.get hy
  rcases hle.cases with rfl | rfl
  · exact h.2 i u _ hu hx
  · exact .dead

/-- 'st' tells at least what 'st'' tells. -/
structure St.Le (st st' : St) : Prop where
  tmps : VLeL st.tmps st'.tmps
  pins : st'.pins = st.pins
  H : ∀ x ∈ st'.H, x ∈ st.H
  nodup : (st'.H.map (·.1)).Nodup

theorem Rel.weaken {st' : St} (r : Rel c M μ st tmps w) (h : St.Le st st') : Rel c M μ st' tmps w where
  mem := r.mem
  ext := r.ext
  old := r.old
  slots := r.slots.weaken h.tmps
  pins := by rw [h.pins]; exact r.pins
  box := fun id bx hb => r.box id bx (h.H _ hb)
  nodup := h.nodup
  inj := fun i j b hi hj => r.inj i j b (by obtain ⟨b, hb⟩ := keyIn_iff.1 hi; exact keyIn_iff.2 ⟨b, h.H _ hb⟩) (by obtain ⟨b, hb⟩ := keyIn_iff.1 hj; exact keyIn_iff.2 ⟨b, h.H _ hb⟩)
  own := fun i b hi => r.own i b (by obtain ⟨b, hb⟩ := keyIn_iff.1 hi; exact keyIn_iff.2 ⟨b, h.H _ hb⟩)
  size := r.size
  below := r.below

/-- The box of a name. -/
def boxOf (id : Nat) : List (Nat × Box) → Option Box
  | [] => none
  | (i, b) :: r => if i = id then some b else boxOf id r
theorem boxOf_mem {id : Nat} : ∀ {H : List (Nat × Box)} {b : Box}, boxOf id H = some b → (id, b) ∈ H
  | [], _, h => by simp [boxOf] at h
  | (i, c) :: r, b, h => by
    simp only [boxOf] at h
    split at h
    · rename_i e; cases h; exact List.mem_cons.2 (.inl (by rw [e]))
    · exact List.mem_cons.2 (.inr (boxOf_mem h))
def setBox (id : Nat) (b : Box) : List (Nat × Box) → List (Nat × Box)
  | [] => []
  | (i, c) :: r => if i = id then (i, b) :: r else (i, c) :: setBox id b r
theorem map_setBox (id : Nat) (b : Box) : ∀ H : List (Nat × Box), (setBox id b H).map (·.1) = H.map (·.1)
  | [] => rfl
  | (i, c) :: r => by
    simp only [setBox]; split
    · rfl
    · simp [map_setBox id b r]
theorem keyIn_eq_mem {id : Nat} {H : List (Nat × Box)} : keyIn id H = true ↔ id ∈ H.map (·.1) := by
  rw [keyIn_iff, List.mem_map]
  constructor
  · rintro ⟨b, hb⟩; exact ⟨_, hb, rfl⟩
  · rintro ⟨⟨i, b⟩, hb, rfl⟩; exact ⟨b, hb⟩
theorem keyIn_setBox {id i : Nat} {b : Box} {H : List (Nat × Box)} : keyIn i (setBox id b H) = true ↔ keyIn i H = true := by
  rw [keyIn_eq_mem, keyIn_eq_mem, map_setBox]
theorem mem_setBox {id : Nat} {b : Box} : ∀ {H : List (Nat × Box)}, (H.map (·.1)).Nodup → ∀ {i : Nat} {c : Box}, (i, c) ∈ setBox id b H → (i = id ∧ c = b) ∨ (i ≠ id ∧ (i, c) ∈ H)
  | [], _, i, c, h => by simp [setBox] at h
  | (j, d) :: r, hn, i, c, h => by
    simp only [List.map_cons, List.nodup_cons] at hn
    simp only [setBox] at h
    split at h
    · rename_i e
      rcases List.mem_cons.1 h with h | h
      · cases h; exact .inl ⟨e, rfl⟩
      · refine .inr ⟨?_, List.mem_cons.2 (.inr h)⟩
        rintro rfl
        exact hn.1 (List.mem_map.2 ⟨(i, c), h, e.symm⟩)
    · rename_i e
      rcases List.mem_cons.1 h with h | h
      · cases h; exact .inr ⟨e, List.mem_cons.2 (.inl rfl)⟩
      · rcases mem_setBox hn.2 h with h | h
        · exact .inl h
        · exact .inr ⟨h.1, List.mem_cons.2 (.inr h.2)⟩

/-- Block 'b' alone has turned. -/
structure Turned (w w' : World) (b : Nat) : Prop where
  os : w'.os = w.os
  tape : w'.tape = w.tape
  output : w'.output = w.output
  size : w'.heap.size = w.heap.size
  block : ∀ k, k ≠ b → w'.heap[k]? = w.heap[k]?

/-- A box is written: its block alone has turned. -/
theorem Rel.write (r : Rel c M μ st tmps w) {id b : Nat} {bx : Box} (hk : keyIn id st.H = true) (hb : (μ id).blk = some b) (h : Turned w w' b) (hbx : RBox M μ w' id bx) :
    Rel c M μ { st with H := setBox id bx st.H } tmps w' := by
  have hB := r.own id b hk hb
  refine { r with mem := ?_, box := ?_, nodup := ?_, inj := ?_, own := ?_, size := ?_, below := ?_ }
  · intro b' o v hv
    have hne : b' ≠ b := by rintro rfl; rw [hB.2.2 o] at hv; cases hv
    exact (World.cell?_of_block (w := w) (h.block b' hne)).trans (r.mem b' o v hv)
  · intro i bx' hb'
    rcases mem_setBox r.nodup hb' with ⟨rfl, rfl⟩ | ⟨hne, hb''⟩
    · exact hbx
    · exact (r.box i bx' hb'').mono (fun _ _ _ h => h) rfl (fun _ _ => rfl) (fun b2 hb2 => h.block _ fun e => hne (r.inj i id b (keyIn_iff.2 ⟨bx', hb''⟩) hk (e ▸ hb2) hb))
  · show ((setBox id bx st.H).map (·.1)).Nodup
    rw [map_setBox]; exact r.nodup
  · exact fun i j b hi hj => r.inj i j b (keyIn_setBox.1 hi) (keyIn_setBox.1 hj)
  · intro i b' hi hib
    have := r.own i b' (keyIn_setBox.1 hi) hib
    exact ⟨this.1, by rw [h.size]; exact this.2.1, this.2.2⟩
  · rw [h.size]; exact r.size
  · exact r.below.trans ⟨h.os, h.tape, h.output, Nat.le_of_eq h.size.symm, fun k hk => h.block k (by rintro rfl; exact hk hB.1)⟩

end
end Go.Proofs.YtdploelkmlbhnaaDoor.Sy
