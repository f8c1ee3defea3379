/-
  OUR OWN LAYER, 17: a box takes another name; a box is forgotten.
-/
import Derived.Test.YtdploelkmlbhnaaDoorCore16
namespace Go.Proofs.YtdploelkmlbhnaaDoor.Sy
open Go

mutual
/-- Box 'i' is called 'j'. -/
def V.ren (i j : Nat) : V → V
  | .ms k => if k = i then .ms j else .ms k
  | .agg cs => .agg (V.renL i j cs)
  | .when b x => .when b (V.ren i j x)
  | .func f a b => .func f (V.renL i j a) (V.renL i j b)
  | .tuple cs => .tuple (V.renL i j cs)
  | .ptr k o => if k = i then .ptr j o else .ptr k o
  | .rptr k n s o => if k = i then .rptr j n s o else .rptr k n s o
  | .it k => if k = i then .it j else .it k
  | .p d => .p d
  | .dead => .dead
  | .nilsl => .nilsl
  | .cptr cs => .cptr cs
def V.renL (i j : Nat) : List V → List V
  | [] => []
  | x :: xs => V.ren i j x :: V.renL i j xs
end
theorem V.renL_eq (i j : Nat) : ∀ l, V.renL i j l = l.map (V.ren i j)
  | [] => by simp only [V.renL, List.map_nil]
  | x :: xs => by simp only [V.renL, List.map_cons, V.renL_eq i j xs]

theorem RV.ren {M : FMap} {μ : Mu} {i j : Nat} {u : Value} {x : V} (r : RV M μ u x) : V.noRef j x = true → RV M (upd μ j (μ i)) u (x.ren i j) := by
  have same : ∀ k, k ≠ j → upd μ j (μ i) k = μ k := fun k h => upd_ne _ _ h
  have got : upd μ j (μ i) j = μ i := upd_same _ _ _
  induction r with
  | p r => intro _; simp only [V.ren]; exact .p r
  | dead => intro _; simp only [V.ren]; exact .dead
  | nilsl => intro _; simp only [V.ren]; exact .nilsl
  | @ptr id off b h1 =>
    intro h; simp only [V.noRef, bne_iff_ne, ne_eq] at h
    simp only [V.ren]; split
    · rename_i e; subst e; exact .ptr (by rw [got]; exact h1)
    · exact .ptr (by rw [same _ h]; exact h1)
  | @rptr id n sz off b h1 =>
    intro h; simp only [V.noRef, bne_iff_ne, ne_eq] at h
    simp only [V.ren]; split
    · rename_i e; subst e; exact .rptr (by rw [got]; exact h1)
    · exact .rptr (by rw [same _ h]; exact h1)
  | cptr h1 h2 => intro _; simp only [V.ren]; exact .cptr h1 h2
  | @ms u id h1 h2 =>
    intro h; simp only [V.noRef, bne_iff_ne, ne_eq] at h
    simp only [V.ren]; split
    · rename_i e; subst e; exact .ms (by rw [got]; exact h1) h2
    · exact .ms (by rw [same _ h]; exact h1) h2
  | @it id b h1 =>
    intro h; simp only [V.noRef, bne_iff_ne, ne_eq] at h
    simp only [V.ren]; split
    · rename_i e; subst e; exact .it (by rw [got]; exact h1)
    · exact .it (by rw [same _ h]; exact h1)
  | func h1 h2 _ _ ih1 ih2 =>
    intro h; simp only [V.noRef, Bool.and_eq_true] at h
    simp only [V.ren, V.renL_eq]
    refine .func (by simpa using h1) (by simpa using h2) (fun k u x hu hx => ?_) (fun k u x hu hx => ?_)
    · rw [List.getElem?_map] at hx
      obtain ⟨y, hy, rfl⟩ := Option.map_eq_some_iff.1 hx
      exact ih1 k u y hu hy (V.noRefL_get h.1 hy)
    · rw [List.getElem?_map] at hx
      obtain ⟨y, hy, rfl⟩ := Option.map_eq_some_iff.1 hx
      exact ih2 k u y hu hy (V.noRefL_get h.2 hy)
  | agg h1 h2 _ ih =>
    intro h; simp only [V.noRef] at h
    simp only [V.ren, V.renL_eq]
    refine .agg (by simpa using h1) h2 (fun k u x hu hx => ?_)
    rw [List.getElem?_map] at hx
    obtain ⟨y, hy, rfl⟩ := Option.map_eq_some_iff.1 hx
    exact ih k u y hu hy (V.noRefL_get h hy)
  | tuple h1 _ ih =>
    intro h; simp only [V.noRef] at h
    simp only [V.ren, V.renL_eq]
    refine .tuple (by simpa using h1) (fun k u x hu hx => ?_)
    rw [List.getElem?_map] at hx
    obtain ⟨y, hy, rfl⟩ := Option.map_eq_some_iff.1 hx
    exact ih k u y hu hy (V.noRefL_get h hy)
  | when _ h2 ih => intro h; simp only [V.noRef] at h; simp only [V.ren]; exact .when (fun hb => ih hb h) h2

def Box.ren (i j : Nat) : Box → Box
  | .vars e cs => .vars e (V.renL i j cs)
  | .row e sz es => .row e sz es
  | .iter s pos => .iter s pos
def renH (i j : Nat) : List (Nat × Box) → List (Nat × Box)
  | [] => []
  | (k, b) :: r => (if k = i then j else k, b.ren i j) :: renH i j r
theorem renH_mem {i j : Nat} : ∀ {H : List (Nat × Box)} {k : Nat} {b : Box}, (k, b) ∈ renH i j H → ∃ k' b', (k', b') ∈ H ∧ k = (if k' = i then j else k') ∧ b = b'.ren i j
  | (n, c) :: r, k, b, h => by
    simp only [renH] at h
    rcases List.mem_cons.1 h with e | e
    · cases e; exact ⟨n, c, by simp, rfl, rfl⟩
    · obtain ⟨k', b', h1, h2, h3⟩ := renH_mem e; exact ⟨k', b', List.mem_cons.2 (.inr h1), h2, h3⟩
theorem renH_keys (i j : Nat) : ∀ H : List (Nat × Box), (renH i j H).map (·.1) = (H.map (·.1)).map fun k => if k = i then j else k
  | [] => rfl
  | (n, c) :: r => by simp [renH, renH_keys i j r]

theorem RBox.ren {M : FMap} {μ : Mu} {w : World} {i j k : Nat} {bx : Box} (r : RBox M μ w k bx) (hk : k ≠ j) (hno : bx.noRef j = true) : RBox M (upd μ j (μ i)) w (if k = i then j else k) (bx.ren i j) := by
  have hloc : upd μ j (μ i) (if k = i then j else k) = μ k := by
    split
    · rename_i e; rw [upd_same, e]
    · exact upd_ne _ _ hk
  cases r with
  | vars h0 h1 h2 h3 h4 =>
    simp only [Box.ren, V.renL_eq]
    refine .vars (by rw [hloc]; exact h0) h1 (by simpa using h2) h3 fun n u x hu hx => ?_
    rw [List.getElem?_map] at hx
    obtain ⟨y, hy, rfl⟩ := Option.map_eq_some_iff.1 hx
    exact (h4 n u y hu hy).ren (V.noRefL_get hno hy)
  | row h0 hv h1 h2 h3 h4 h5 h6 h7 => exact .row (by rw [hloc]; exact h0) (by rw [hloc]; exact hv) h1 h2 h3 h4 h5 h6 h7
  | rowN h0 hv => exact .rowN (by rw [hloc]; exact h0) (by rw [hloc]; exact hv)
  | iter h0 h1 h2 h3 => exact .iter (by rw [hloc]; exact h0) h1 h2 h3

def St.ren (st : St) (i j : Nat) : St := { st with tmps := V.renL i j st.tmps, pins := st.pins.filter (· != i), H := renH i j st.H }

theorem Rel.ren {c : Ctx} {M : FMap} {μ : Mu} {st : St} {tmps : Array Value} {w : World} (r : Rel c M μ st tmps w) {i j : Nat} (hf : st.fresh j = true) : Rel c M (upd μ j (μ i)) (st.ren i j) tmps w := by
  obtain ⟨f1, f2, f3, f4⟩ := St.fresh_spec hf
  have hne : ∀ {k b}, (k, b) ∈ st.H → k ≠ j := fun {k b} h => by rintro rfl; rw [keyIn_iff.2 ⟨b, h⟩] at f4; cases f4
  have hloc : ∀ k, k ≠ j → upd μ j (μ i) (if k = i then j else k) = μ k := fun k hk => by
    split
    · rename_i e; rw [upd_same, e]
    · exact upd_ne _ _ hk
  have hinj : ∀ k k', k ≠ j → k' ≠ j → (if k = i then j else k) = (if k' = i then j else k') → k = k' := by
    intro k k' h1 h2 h
    split at h <;> split at h
    · omega
    · omega
    · omega
    · exact h
  have hkey : ∀ {k}, keyIn k (renH i j st.H) = true → ∃ k', keyIn k' st.H = true ∧ k' ≠ j ∧ k = (if k' = i then j else k') := fun {k} h => by
    obtain ⟨b, hb⟩ := keyIn_iff.1 h
    obtain ⟨k', b', h1, h2, _⟩ := renH_mem hb
    exact ⟨k', keyIn_iff.2 ⟨b', h1⟩, hne h1, h2⟩
  refine ⟨r.mem, r.ext, r.old, ⟨by simp [St.ren, V.renL_eq, r.slots.1], fun k u x hu hx => ?_⟩, fun k hk => ?_, fun k b hb => ?_, ?_, fun k k' b h1 h2 hb hb' => ?_, fun k b hk hb => ?_, r.size, r.below⟩
  · simp only [St.ren, V.renL_eq] at hx
    rw [List.getElem?_map] at hx
    obtain ⟨y, hy, rfl⟩ := Option.map_eq_some_iff.1 hx
    exact (r.slots.2 k u y hu hy).ren (V.noRefL_get f1 hy)
  · obtain ⟨h1, h2⟩ := List.mem_filter.1 hk
    rw [upd_ne _ _ (by rintro rfl; exact f2 h1)]
    exact r.pins k h1
  · obtain ⟨k', b', h1, rfl, rfl⟩ := renH_mem hb
    exact (r.box k' b' h1).ren (hne h1) (noRefH_mem f3 h1)
  · show ((renH i j st.H).map (·.1)).Nodup
    rw [renH_keys]
    refine List.Pairwise.map _ (R := fun a b => a ≠ b ∧ a ≠ j ∧ b ≠ j) (fun a b h e => h.1 (hinj a b h.2.1 h.2.2 e)) ?_
    have hn : ∀ k ∈ st.H.map (·.1), k ≠ j := fun k hk => by
      obtain ⟨⟨k', b⟩, h, rfl⟩ := List.mem_map.1 hk; exact hne h
    exact List.Pairwise.imp_of_mem (fun {a b} ha hb h => ⟨h, hn a ha, hn b hb⟩) r.nodup
  · obtain ⟨n, hn, hnj, rfl⟩ := hkey h1
    obtain ⟨n', hn', hnj', rfl⟩ := hkey h2
    rw [hloc n hnj] at hb
    rw [hloc n' hnj'] at hb'
    rw [r.inj n n' b hn hn' hb hb']
  · obtain ⟨n, hn, hnj, rfl⟩ := hkey hk
    rw [hloc n hnj] at hb
    exact r.own n b hn hb

section
variable {P : Program} {G : Glob} {Q : Exit → St → Prop} {st : St}
theorem AW.ren {c : Code} (i j : Nat) (hf : st.fresh j = true) (k : AW P G c Q (st.ren i j)) : AW P G c Q st :=
  fun x M _ tmps w hg r => k x M _ tmps w hg (r.ren hf)
theorem AW.kill {c : Code} (i : Nat) (k : AW P G c Q (st.kill i)) : AW P G c Q st :=
  fun x M μ tmps w hg r => k x M μ tmps w hg (r.kill i)
/-- An older row gives way: box 'i' takes the name 'j' of one that is forgotten. -/
theorem AW.take {c : Code} (i j : Nat) (k : AW P G c Q ((st.kill j).ren i j)) : AW P G c Q st :=
  AW.kill j (AW.ren i j (fresh_kill st j) k)
@[simp] theorem pcells_ren (i j : Nat) : ∀ ds, V.renL i j (pcells ds) = pcells ds
  | [] => by simp [pcells, V.renL]
  | d :: ds => by
    have := pcells_ren i j ds
    simp only [pcells, List.map_cons, V.renL, V.ren] at this ⊢; rw [this]
@[simp] theorem pcells_ids : ∀ ds, V.idsL (pcells ds) = []
  | [] => by simp [pcells, V.idsL]
  | d :: ds => by
    have := pcells_ids ds
    simp only [pcells, List.map_cons, V.idsL, V.ids, List.nil_append] at this ⊢; exact this
/-- What must be so at a call of a function that boxes are lent to. -/
def CX (G : Glob) (st : St) (x : Operand) (args : List Operand) (f : FuncId) (xs : List V) (H : List (Nat × Box)) (r : V) (ps : List Nat) (H' : List (Nat × Box)) : Prop :=
  (st.arg G x).1 ∧ allP (args.map fun y => (st.arg G y).1) ∧ (match calleeOf (st.arg G x).2 (args.map fun y => (st.arg G y).2) with
    | some (g, xs') => g = f ∧ VLeL xs' xs
    | none => False) ∧ allP (H.map fun p => boxOf p.1 st.H = some p.2) ∧ (H.map (·.1)).Nodup ∧ (∀ i ∈ ps, i ∈ H.map (·.1)) ∧ ∀ i ∈ V.ids r ++ idsH H', i ∈ ps ∨ (st.rest H ps).fresh i = true
theorem y_cx {o : Oper} {x : Operand} {args : Array Operand} {tys : Array TypeId} {f : FuncId} {xs : List V} {H : List (Nat × Box)} {r : V} {ps : List Nat} {H' : List (Nat × Box)}
    (ho : o.op = .call { callee := .value x, args := args, argTypes := tys }) (hc : AX P G f xs H r ps H') (h : CX G st x args.toList f xs H r ps H') : Yields P G o st r { st.rest H ps with H := H' ++ (st.rest H ps).H } := by
  obtain ⟨h1, h2, h3, h4, h5, h6, h7⟩ := h
  split at h3
  · rename_i g xs' hcal
    obtain ⟨rfl, h3⟩ := h3
    exact y_callX ho h1 hc h2 hcal h3 h4 h5 h6 h7
  · exact h3.elim
attribute [simp] CX St.ren V.ren V.renL Box.ren renH
end
end Go.Proofs.YtdploelkmlbhnaaDoor.Sy
