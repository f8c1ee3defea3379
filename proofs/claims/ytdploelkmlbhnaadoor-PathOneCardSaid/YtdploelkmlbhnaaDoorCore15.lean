/-
  OUR OWN LAYER, 15: contracts of functions that are lent boxes (closures, pointers, rows that they write); boxes that become plain data.
-/
import Derived.Test.YtdploelkmlbhnaaDoorCore14
namespace Go.Proofs.YtdploelkmlbhnaaDoor.Sy
open Go

mutual
/-- All boxes that a value refers to. -/
def V.ids : V → List Nat
  | .ptr i _ => [i]
  | .rptr i _ _ _ => [i]
  | .ms i => [i]
  | .it i => [i]
  | .func _ a b => V.idsL a ++ V.idsL b
  | .agg cs => V.idsL cs
  | .tuple cs => V.idsL cs
  | .when _ x => V.ids x
  | .p _ => []
  | .dead => []
  | .nilsl => []
  | .cptr _ => []
def V.idsL : List V → List Nat
  | [] => []
  | x :: xs => V.ids x ++ V.idsL xs
end

mutual
theorem V.ids_of {id : Nat} : ∀ (x : V), V.noRef id x = false → id ∈ V.ids x
  | .ptr i _, h => by simp [V.noRef] at h; simp [V.ids, h]
  | .rptr i _ _ _, h => by simp [V.noRef] at h; simp [V.ids, h]
  | .ms i, h => by simp [V.noRef] at h; simp [V.ids, h]
  | .it i, h => by simp [V.noRef] at h; simp [V.ids, h]
  | .func _ a b, h => by
    simp only [V.noRef, Bool.and_eq_false_iff] at h
    simp only [V.ids, List.mem_append]
    rcases h with h | h
    · exact .inl (V.idsL_of a h)
    · exact .inr (V.idsL_of b h)
  | .agg cs, h => by simp only [V.noRef] at h; simp only [V.ids]; exact V.idsL_of cs h
  | .tuple cs, h => by simp only [V.noRef] at h; simp only [V.ids]; exact V.idsL_of cs h
  | .when _ x, h => by simp only [V.noRef] at h; simp only [V.ids]; exact V.ids_of x h
  | .p _, h => by simp [V.noRef] at h
  | .dead, h => by simp [V.noRef] at h
  | .nilsl, h => by simp [V.noRef] at h
  | .cptr _, h => by simp [V.noRef] at h
theorem V.idsL_of {id : Nat} : ∀ (l : List V), V.noRefL id l = false → id ∈ V.idsL l
  | [], h => by simp [V.noRefL] at h
  | x :: xs, h => by
    simp only [V.noRefL, Bool.and_eq_false_iff] at h
    simp only [V.idsL, List.mem_append]
    rcases h with h | h
    · exact .inl (V.ids_of x h)
    · exact .inr (V.idsL_of xs h)
end

def Box.ids : Box → List Nat
  | .vars _ cs => V.idsL cs
  | .row .. => []
  | .iter .. => []
theorem Box.ids_of {id : Nat} {b : Box} (h : b.noRef id = false) : id ∈ b.ids := by
  cases b with
  | vars e cs => exact V.idsL_of cs h
  | _ => simp [Box.noRef] at h
def idsH : List (Nat × Box) → List Nat
  | [] => []
  | (i, b) :: r => i :: (b.ids ++ idsH r)
theorem idsH_box {i : Nat} {b : Box} : ∀ {H : List (Nat × Box)}, (i, b) ∈ H → ∀ j ∈ b.ids, j ∈ idsH H
  | (k, c) :: r, h, j, hj => by
    rcases List.mem_cons.1 h with e | e
    · cases e; simp [idsH, hj]
    · simp [idsH, idsH_box e j hj]
theorem idsH_key {i : Nat} : ∀ {H : List (Nat × Box)}, keyIn i H = true → i ∈ idsH H
  | [], h => by simp [keyIn] at h
  | (k, c) :: r, h => by
    simp only [keyIn, Bool.or_eq_true, beq_iff_eq] at h
    rcases h with rfl | h
    · simp [idsH]
    · simp [idsH, idsH_key h]

def lentBy (μ : Mu) (H : List (Nat × Box)) (b : Nat) : Prop := ∃ id, keyIn id H = true ∧ (μ id).blk = some b

/-- The contract of a function that boxes are lent to: it is called with values that read as 'xs' over the boxes 'H', and ends with one that reads as 'r' over the boxes 'H''; those of 'ps' lie where they lay. -/
def AX (P : Program) (G : Glob) (f : FuncId) (xs : List V) (H : List (Nat × Box)) (r : V) (ps : List Nat) (H' : List (Nat × Box)) : Prop :=
  Callable P f ∧ ∀ (M : FMap) (μ : Mu) (w : World) (vs : Array Value), GOK G M → Rel ⟨w.heap.size, w, M, μ, lentBy μ H⟩ M μ ⟨xs, H.map (·.1), H, 0⟩ vs w →
    Calls P f vs w fun e w' => ∃ v M' μ', e = .returned v ∧ Rel ⟨w.heap.size, w, M, μ, lentBy μ H⟩ M' μ' ⟨[r], ps, H', 0⟩ #[v] w'

/-- What such a contract asks of the function's end. -/
def FinX (T : Tab) (rs : List ResultVar) (r : V) (ps : List Nat) (H' : List (Nat × Box)) (e : Exit) (st : St) : Prop :=
  (e = .normal ∨ e = .ret) ∧ ∃ p l, resV T st rs = some (p, l) ∧ p ∧ VLe (tupV l) r ∧ (∀ i ∈ ps, i ∈ st.pins) ∧ (∀ x ∈ H', x ∈ st.H) ∧ (H'.map (·.1)).Nodup

def St.startX (n base : Nat) (xs : List V) (H : List (Nat × Box)) : St := ⟨xs ++ List.replicate (n - xs.length) .dead, H.map (·.1), H, base⟩

theorem Rel.rebase {c : Ctx} {M : FMap} {μ : Mu} {tmps : Array Value} {w : World} {a : List V} {b : List Nat} {H : List (Nat × Box)} {n m : Nat} (r : Rel c M μ ⟨a, b, H, n⟩ tmps w) : Rel c M μ ⟨a, b, H, m⟩ tmps w :=
  ⟨r.mem, r.ext, r.old, r.slots, r.pins, r.box, r.nodup, r.inj, r.own, r.size, r.below⟩

section
variable {P : Program} {T : Tab} {G : Glob}

theorem AX.intro (hT : TOK P T) {f : FuncId} {fn : Func} {c : Code} {xs : List V} {H : List (Nat × Box)} {r : V} {ps : List Nat} {H' : List (Nat × Box)} (base : Nat) (hf : P.funcs[f]? = some fn)
    (hn : (fn.name == "runtime.NumGoroutine") = false) (hb : fn.body = some c) (h : AW P G c (FinX T fn.results.toList r ps H') (St.startX fn.ntmps base xs H)) : AX P G f xs H r ps H' := by
  refine ⟨⟨fn, c, hf, hn, hb⟩, fun M μ w vs hg rel => ?_⟩
  refine calls_of_wp hf hb ?_
  have hsz : vs.size = xs.length := rel.slots.1
  have hrel : Rel ⟨w.heap.size, w, M, μ, lentBy μ H⟩ M μ (St.startX fn.ntmps base xs H) (vs ++ Array.replicate (fn.ntmps - vs.size) undef) w := by
    refine ⟨rel.mem, rel.ext, rel.old, ⟨by simp [St.startX, hsz], fun i u x hu hx => ?_⟩, rel.pins, rel.box, rel.nodup, rel.inj, rel.own, rel.size, rel.below⟩
    simp only [St.startX] at hx
    rw [List.getElem?_append] at hx
    split at hx
    · rename_i hi
      rw [Array.getElem?_append_left (by rw [hsz]; exact hi)] at hu
      exact rel.slots.2 i u x hu hx
    · have : x = .dead := by
        have := List.mem_of_getElem? hx
        exact (List.mem_replicate.1 this).2
      subst this
      exact .dead
  refine wp_mono (h _ M _ _ w hg hrel) ?_
  rintro e a w' ⟨st, M', μ', r', hd, hfin⟩
  obtain ⟨he, p, l, hres, hp, hle, hps, hH, hnd⟩ := hfin
  obtain ⟨v, hv, hrv⟩ := results_run hT r' hres hp
  have hrel2 : Rel ⟨w.heap.size, w, M, μ, lentBy μ H⟩ M' μ' ⟨[r], ps, H', 0⟩ #[v] w' := by
    refine ⟨r'.mem, r'.ext, r'.old, ⟨rfl, fun i u x hu hx => ?_⟩, fun i hi => r'.pins i (hps i hi), fun i b hb => r'.box i b (hH _ hb), hnd, fun i j b hi hj => ?_, fun i b hi => ?_, r'.size, r'.below⟩
    · cases i with
      | zero =>
        simp at hu hx; subst hu; subst hx
        rcases hle.cases with e | e
        · rw [← e]; exact hrv
        · rw [e]; exact .dead
      | succ i => simp at hx
    · obtain ⟨b1, h1⟩ := keyIn_iff.1 hi
      obtain ⟨b2, h2⟩ := keyIn_iff.1 hj
      exact r'.inj i j b (keyIn_iff.2 ⟨b1, hH _ h1⟩) (keyIn_iff.2 ⟨b2, hH _ h2⟩)
    · obtain ⟨b1, h1⟩ := keyIn_iff.1 hi
      exact r'.own i b (keyIn_iff.2 ⟨b1, hH _ h1⟩)
  rcases he with rfl | rfl
  · exact ⟨hd, v, hv, v, M', μ', rfl, hrel2⟩
  · exact ⟨hd, v, hv, v, M', μ', rfl, hrel2⟩

def St.killAll : List Nat → St → St
  | [], st => st
  | i :: l, st => St.killAll l (st.kill i)
theorem Rel.killAll {c : Ctx} {M : FMap} {μ : Mu} {tmps : Array Value} {w : World} : ∀ (l : List Nat) {st : St}, Rel c M μ st tmps w → Rel c M μ (st.killAll l) tmps w
  | [], _, r => r
  | i :: l, _, r => Rel.killAll l (r.kill i)

def dropKeys (ks : List Nat) : List (Nat × Box) → List (Nat × Box)
  | [] => []
  | (i, b) :: r => if ks.contains i then dropKeys ks r else (i, b) :: dropKeys ks r
theorem dropKeys_mem {ks : List Nat} {i : Nat} {b : Box} : ∀ {H : List (Nat × Box)}, (i, b) ∈ dropKeys ks H → i ∉ ks ∧ (i, b) ∈ H
  | (k, c) :: r, h => by
    simp only [dropKeys] at h
    split at h
    · exact ⟨(dropKeys_mem h).1, List.mem_cons.2 (.inr (dropKeys_mem h).2)⟩
    · rename_i hk
      rcases List.mem_cons.1 h with e | e
      · cases e; exact ⟨by simpa using hk, by simp⟩
      · exact ⟨(dropKeys_mem e).1, List.mem_cons.2 (.inr (dropKeys_mem e).2)⟩
theorem dropKeys_sub (ks : List Nat) : ∀ H : List (Nat × Box), (dropKeys ks H).Sublist H
  | [] => .slnil
  | (k, c) :: r => by
    simp only [dropKeys]; split
    · exact (dropKeys_sub ks r).cons _
    · exact (dropKeys_sub ks r).cons_cons _
theorem killH_key_mem {id i : Nat} {b : Box} {H : List (Nat × Box)} (h : (i, b) ∈ killH id H) : keyIn i H = true := by
  obtain ⟨_, b', h2, _⟩ := killH_mem h; exact keyIn_iff.2 ⟨b', h2⟩
theorem killAll_key : ∀ (l : List Nat) {st : St} {i : Nat}, keyIn i (st.killAll l).H = true → keyIn i st.H = true
  | [], _, _, h => h
  | _ :: l, _, _, h => (keyIn_killH (killAll_key l h)).2

/-- The caller's state without what it lends: what moves is dead. -/
def St.rest (st : St) (H : List (Nat × Box)) (ps : List Nat) : St :=
  let s := st.killAll ((H.map (·.1)).filter fun i => !ps.contains i)
  { s with H := dropKeys (H.map (·.1)) s.H }

/-- The function of a call, and what it is called with. -/
def calleeOf (x : V) (as : List V) : Option (FuncId × List V) :=
  match x with
  | .p (.fn f) => some (f, as)
  | .func (.func f) a b => some (f, a ++ as ++ b)
  | _ => none

/-- A call of a function that boxes are lent to. -/
theorem y_callX {o : Oper} {st : St} {x : Operand} {args : Array Operand} {tys : Array TypeId} {f : FuncId} {xs xs' : List V} {H : List (Nat × Box)} {r : V} {ps : List Nat} {H' : List (Nat × Box)}
    (ho : o.op = .call { callee := .value x, args := args, argTypes := tys }) (hp : (st.arg G x).1) (hc : AX P G f xs H r ps H')
    (hq : allP (args.toList.map fun y => (st.arg G y).1)) (hcal : calleeOf (st.arg G x).2 (args.toList.map fun y => (st.arg G y).2) = some (f, xs')) (hle : VLeL xs' xs)
    (hH : allP (H.map fun p => boxOf p.1 st.H = some p.2)) (hnd : (H.map (·.1)).Nodup) (hps : ∀ i ∈ ps, i ∈ H.map (·.1))
    (hids : ∀ i ∈ V.ids r ++ idsH H', i ∈ ps ∨ (st.rest H ps).fresh i = true) :
    Yields P G o st r { st.rest H ps with H := H' ++ (st.rest H ps).H } := by
  intro c M μ tmps w hg rel
  have hfx := arg_sound (x := x) (y := (st.arg G x).2) (p := (st.arg G x).1) hg rel rfl hp
  have has : RL M μ (args.map (Act.eval ⟨tmps, []⟩)) (args.toList.map fun y => (st.arg G y).2) := by
    refine ⟨by simp, fun i u y hu hy => ?_⟩
    rw [Array.getElem?_map] at hu
    obtain ⟨a, ha, rfl⟩ := Option.map_eq_some_iff.1 hu
    have ha' : args.toList[i]? = some a := by simpa using ha
    rw [List.getElem?_map, ha'] at hy
    cases hy
    refine arg_sound hg rel rfl (allP_mem hq _ ?_)
    exact List.mem_map.2 ⟨a, List.mem_of_getElem? ha', rfl⟩
  -- what is entered
  obtain ⟨vs, hrun, hvs⟩ : ∃ vs, (execOp (Act.eval ⟨tmps, []⟩) o).run P w = .ok (.enter f vs) w ∧ RL M μ vs xs := by
    generalize hu : Act.eval ⟨tmps, []⟩ x = u at hfx
    generalize hy : (st.arg G x).2 = y at hfx hcal
    unfold calleeOf at hcal
    split at hcal
    · cases hcal
      cases hfx with
      | p hfx =>
        cases hfx
        refine ⟨_, by simp [execOp, ho, resolve, Deferred.ofValue, hu, invoke, run_callFunc hc.1], has.weaken hle⟩
    · rename_i f' a b
      cases hcal
      cases hfx with
      | @func fn fa ca fs cs h1 h2 h3 h4 =>
        refine ⟨fa ++ args.map (Act.eval ⟨tmps, []⟩) ++ ca, by simp [execOp, ho, resolve, Deferred.ofValue, hu, invoke, run_callFunc hc.1], RL.weaken ?_ hle⟩
        refine ⟨by simp [h1, h2], fun i u y hu hy => ?_⟩
        rw [Array.getElem?_append] at hu
        rw [List.getElem?_append] at hy
        have hs1 : (fa ++ args.map (Act.eval ⟨tmps, []⟩)).size = (a ++ args.toList.map fun y => (st.arg G y).2).length := by simp [h1]
        rw [hs1] at hu
        split at hu
        · rename_i hlt
          rw [if_pos hlt] at hy
          rw [Array.getElem?_append] at hu
          rw [List.getElem?_append] at hy
          rw [h1] at hu
          split at hu
          · rename_i hlt2; rw [if_pos hlt2] at hy; exact h3 _ _ _ hu hy
          · rename_i hlt2; rw [if_neg hlt2] at hy; exact has.2 _ _ _ hu hy
        · rename_i hlt
          rw [if_neg hlt] at hy
          exact h4 _ _ _ hu hy
    · cases hcal
  rw [hrun]
  have hbox : ∀ id bx, (id, bx) ∈ H → (id, bx) ∈ st.H := fun id bx h => boxOf_mem (allP_mem hH _ (List.mem_map.2 ⟨_, h, rfl⟩))
  have hkey : ∀ id, keyIn id H = true → keyIn id st.H = true := fun id h => by
    obtain ⟨b, hb⟩ := keyIn_iff.1 h; exact keyIn_iff.2 ⟨b, hbox _ _ hb⟩
  have hlent : ∀ b, lentBy μ H b → c.mine b ∧ b < w.heap.size := fun b ⟨id, h1, h2⟩ => by
    have := rel.own id b (hkey id h1) h2; exact ⟨this.1, this.2.1⟩
  have hcallee : Rel ⟨w.heap.size, w, M, μ, lentBy μ H⟩ M μ ⟨xs, H.map (·.1), H, 0⟩ vs w :=
    ⟨rel.mem, fun _ _ _ h => h, fun _ _ _ => rfl, hvs, fun _ _ => rfl, fun id bx h => rel.box id bx (hbox id bx h), hnd, fun i j b hi hj => rel.inj i j b (hkey i hi) (hkey j hj),
      fun id b h hb => ⟨.inr ⟨id, h, hb⟩, (rel.own id b (hkey id h) hb).2⟩, Nat.le_refl _, Kept.refl _ _⟩
  refine (hc.2 M μ w vs (hg.mono rel.ext) hcallee).mono ?_
  rintro e w' ⟨v, M', μ', rfl, r'⟩
  refine ⟨v, rfl, M', ?_⟩
  -- the caller's rest
  generalize hR : st.rest H ps = R at hids ⊢
  have relR : Rel c M μ R tmps w := by
    rw [← hR]
    have r1 := rel.killAll ((H.map (·.1)).filter fun i => !ps.contains i)
    exact r1.weaken ⟨VLeL.refl _, rfl, fun p hp => (dropKeys_mem hp).2, (List.Sublist.map _ (dropKeys_sub _ _)).nodup r1.nodup⟩
  have hRkey : ∀ i, keyIn i R.H = true → keyIn i H = false ∧ keyIn i st.H = true := by
    intro i hi
    rw [← hR] at hi
    obtain ⟨b, hb⟩ := keyIn_iff.1 hi
    have h1 := dropKeys_mem hb
    refine ⟨?_, killAll_key _ (keyIn_iff.2 ⟨b, h1.2⟩)⟩
    cases hk : keyIn i H with
    | false => rfl
    | true => exact (h1.1 (keyIn_eq_mem.1 hk)).elim
  have hRblk : ∀ i b, keyIn i R.H = true → (μ i).blk = some b → b < w.heap.size ∧ ¬ (w.heap.size ≤ b ∨ lentBy μ H b) := by
    intro i b hi hb
    have h1 := hRkey i hi
    have h2 := (rel.own i b h1.2 hb).2.1
    refine ⟨h2, fun h => h.elim (fun h => by omega) fun ⟨j, hj, hjb⟩ => ?_⟩
    have := rel.inj i j b h1.2 (hkey j hj) hb hjb
    subst this
    rw [h1.1] at hj; cases hj
  let μ'' : Mu := fun i => if R.fresh i = true then μ' i else μ i
  have hold : ∀ i, R.fresh i = false → μ'' i = μ i := fun i h => by show (if R.fresh i = true then μ' i else μ i) = μ i; rw [h]; rfl
  have hnew : ∀ i, (i ∈ ps ∨ R.fresh i = true) → μ'' i = μ' i := by
    intro i h
    show (if R.fresh i = true then μ' i else μ i) = μ' i
    split
    · rfl
    · rename_i hf
      have h1 := r'.pins i (h.resolve_right hf)
      exact h1.symm
  have hnew2 : ∀ i, i ∈ V.ids r ++ idsH H' → μ'' i = μ' i := fun i h => hnew i (hids i h)
  have fr1 : ∀ i, V.noRefL i R.tmps = false → R.fresh i = false := fun i h => by simp only [St.fresh, h, Bool.false_and]
  have fr2 : ∀ i, noRefH i R.H = false → R.fresh i = false := fun i h => by simp only [St.fresh, h, Bool.false_and, Bool.and_false]
  have fr3 : ∀ i, keyIn i R.H = true → R.fresh i = false := fun i h => by simp only [St.fresh, h, Bool.not_true, Bool.and_false]
  have fr4 : ∀ i, i ∈ R.pins → R.fresh i = false := fun i h => by simp [St.fresh, h]
  have hkH' : ∀ i, keyIn i H' = true → μ'' i = μ' i := fun i h => hnew2 i (List.mem_append.2 (.inr (idsH_key h)))
  have hkR : ∀ i, keyIn i R.H = true → μ'' i = μ i := fun i h => hold i (fr3 i h)
  have hdis : ∀ i, keyIn i H' = true → keyIn i R.H = true → False := by
    intro i h1 h2
    rcases hids i (List.mem_append.2 (.inr (idsH_key h1))) with h | h
    · have := keyIn_eq_mem.2 (hps i h)
      rw [(hRkey i h2).1] at this; cases this
    · rw [fr3 i h2] at h; cases h
  have hH'blk : ∀ i b, keyIn i H' = true → (μ' i).blk = some b → (w.heap.size ≤ b ∨ lentBy μ H b) := fun i b hi hb => (r'.own i b hi hb).1
  have hkeyApp : ∀ i, keyIn i (H' ++ R.H) = true → keyIn i H' = true ∨ keyIn i R.H = true := by
    intro i h
    obtain ⟨b, hb⟩ := keyIn_iff.1 h
    rcases List.mem_append.1 hb with h | h
    · exact .inl (keyIn_iff.2 ⟨b, h⟩)
    · exact .inr (keyIn_iff.2 ⟨b, h⟩)
  have hrr : RV M' μ'' v r := by
    have h0 := r'.slots.2 0 v r (by simp) (by simp)
    exact h0.mono (fun _ _ _ h => h) fun i hi => hnew2 i (List.mem_append.2 (.inl (V.ids_of r hi)))
  refine ⟨μ'', ?_, hrr⟩
  refine ⟨r'.mem, fun b o v hv => r'.ext b o v (rel.ext b o v hv), fun b o hb => ?_, ?_, fun i hi => ?_, fun i bx hi => ?_, ?_, fun i j b hi hj hib hjb => ?_, fun i b hi hib => ?_, Nat.le_trans rel.size r'.size, ?_⟩
  · have h1 : ¬ (w.heap.size ≤ b ∨ lentBy μ H b) := fun h => h.elim (fun h => hb (.inl (Nat.le_trans rel.size h))) fun h => hb (hlent b h).1
    exact (r'.old b o h1).trans (rel.old b o hb)
  · exact relR.slots.mono r'.ext fun i hi => hold i (fr1 i hi)
  · exact (hold i (fr4 i hi)).trans (relR.pins i hi)
  · rcases List.mem_append.1 hi with h | h
    · exact (r'.box i bx h).mono (fun _ _ _ h => h) (hkH' i (keyIn_iff.2 ⟨bx, h⟩)) (fun j hj => hnew2 j (List.mem_append.2 (.inr (idsH_box h j (Box.ids_of hj))))) fun _ _ => rfl
    · have hk := keyIn_iff.2 ⟨bx, h⟩
      refine (relR.box i bx h).mono r'.ext (hkR i hk) (fun j hj => hold j (fr2 j ?_)) fun b hb => ?_
      · cases hn : noRefH j R.H with
        | false => rfl
        | true => rw [noRefH_mem hn h] at hj; cases hj
      · exact r'.below.block b (hRblk i b hk hb).2
  · rw [List.map_append, List.nodup_append]
    refine ⟨r'.nodup, relR.nodup, fun i h1 j h2 => ?_⟩
    rintro rfl
    exact hdis _ (keyIn_eq_mem.2 h1) (keyIn_eq_mem.2 h2)
  · rcases hkeyApp i hi with h1 | h1 <;> rcases hkeyApp j hj with h2 | h2
    · rw [hkH' i h1] at hib; rw [hkH' j h2] at hjb; exact r'.inj i j b h1 h2 hib hjb
    · rw [hkH' i h1] at hib; rw [hkR j h2] at hjb; exact ((hRblk j b h2 hjb).2 (hH'blk i b h1 hib)).elim
    · rw [hkR i h1] at hib; rw [hkH' j h2] at hjb; exact ((hRblk i b h1 hib).2 (hH'blk j b h2 hjb)).elim
    · rw [hkR i h1] at hib; rw [hkR j h2] at hjb; exact relR.inj i j b h1 h2 hib hjb
  · rcases hkeyApp i hi with h1 | h1
    · rw [hkH' i h1] at hib
      obtain ⟨h2, h3, h4⟩ := r'.own i b h1 hib
      exact ⟨h2.elim (fun h => .inl (Nat.le_trans rel.size h)) fun h => (hlent b h).1, h3, h4⟩
    · rw [hkR i h1] at hib
      obtain ⟨h2, h3, h4⟩ := relR.own i b h1 hib
      exact ⟨h2, Nat.lt_of_lt_of_le h3 r'.size, fun o => (r'.old b o (hRblk i b h1 hib).2).trans (h4 o)⟩
  · refine rel.below.trans ⟨r'.below.os, r'.below.tape, r'.below.output, r'.below.size, fun k hk => r'.below.block k ?_⟩
    exact fun h => h.elim (fun h => hk (.inl (Nat.le_trans rel.size h))) fun h => hk (hlent k h).1

variable {Q : Exit → St → Prop} {st st1 st2 st' : St}
/-- A region with such a call in it: what is ahead of it, the call, what is behind it. -/
theorem AW.runX (hT : TOK P T) (n : Nat) (orc1 orc2 : List PD) {id : Nat} {l : List Oper} {o : Oper} {r : V} {v1 v2 : Know → Prop} (ho : l[n]? = some o) (hgd : o.guard = none)
    (h1 : ∀ C, opsRun C T G l (l.take n) st orc1 = some (v1 C, st1)) (hv1 : v1 (AFn P G)) (y : Yields P G o st1 r st2)
    (h2 : ∀ C, opsRun C T G l (l.drop (n + 1)) (st2.put o.dst r) orc2 = some (v2 C, st')) (hv2 : v2 (AFn P G)) (k : Q .normal st') : AW P G (.region id l.toArray false) Q st := by
  refine AW.region ?_
  have hl : l = l.take n ++ (o :: l.drop (n + 1)) := by
    have := List.take_append_drop n l
    rw [← this]
    congr 1
    · rw [List.take_append_drop]
    · rw [List.take_append_drop, List.drop_eq_getElem_cons (List.getElem?_eq_some_iff.1 ho).1, (List.getElem?_eq_some_iff.1 ho).2]
  have hend := opsRun_sound (Q := Q) hT l (l.drop (n + 1)) [] _ orc2 _ st' (h2 (AFn P G)) hv2 (AOps.nil k)
  rw [List.append_nil] at hend
  have := opsRun_sound (Q := Q) hT l (l.take n) (o :: l.drop (n + 1)) st orc1 _ st1 (h1 (AFn P G)) hv1 (AOps.step hgd y hend)
  rw [← hl] at this
  exact this
theorem AW.seqRunX (hT : TOK P T) (n : Nat) (orc1 orc2 : List PD) {id : Nat} {l : List Oper} {o : Oper} {b : Code} {r : V} {v1 v2 : Know → Prop} (ho : l[n]? = some o) (hgd : o.guard = none)
    (h1 : ∀ C, opsRun C T G l (l.take n) st orc1 = some (v1 C, st1)) (hv1 : v1 (AFn P G)) (y : Yields P G o st1 r st2)
    (h2 : ∀ C, opsRun C T G l (l.drop (n + 1)) (st2.put o.dst r) orc2 = some (v2 C, st')) (hv2 : v2 (AFn P G)) (k : AW P G b Q st') : AW P G (.seq (.region id l.toArray false) b) Q st :=
  AW.seq (AW.runX hT n orc1 orc2 ho hgd h1 hv1 y h2 hv2 k)

/-- Rows that become plain data between two pieces of code. -/
theorem AW.freeze {c : Code} (id : Nat) (k : AW P G c Q (st.freeze id)) : AW P G c Q st := by
  intro x M μ tmps w hg r
  obtain ⟨M', r'⟩ := r.freeze id
  exact k x M' μ tmps w hg r'

attribute [simp] V.ids V.idsL Box.ids idsH calleeOf St.rest St.killAll dropKeys
end
end Go.Proofs.YtdploelkmlbhnaaDoor.Sy
