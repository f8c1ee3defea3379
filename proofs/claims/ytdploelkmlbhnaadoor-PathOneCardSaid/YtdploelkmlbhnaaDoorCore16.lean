/-
  OUR OWN LAYER, 16: regions that draw their order: operations that change nothing of the call's own, in any order; behind them those that wait for all of them.
-/
import Derived.Test.YtdploelkmlbhnaaDoorCore15
import Derived.Orders
namespace Go.Proofs.YtdploelkmlbhnaaDoor.Sy
open Go

/-- An operation that yields 'x', and changes nothing but that there may be more memory. -/
def Still (P : Program) (G : Glob) (o : Oper) (st : St) (x : V) : Prop :=
  ∀ (c : Ctx) (M : FMap) (μ : Mu) (tmps : Array Value) (w : World), GOK G c.M0 → Rel c M μ st tmps w →
    Ends P (fun u w' => Grows w w' ∧ ∃ M', (∀ b o v, M b o = some v → M' b o = some v) ∧ (∀ b o v, M' b o = some v → w'.cell? ⟨b, o, none⟩ = some v) ∧ (∀ b o, b < w.heap.size → M' b o = M b o) ∧ RV M' μ u x)
      ((execOp (Act.eval ⟨tmps, []⟩) o).run P w)

theorem Still.le {P : Program} {G : Glob} {o : Oper} {st st' : St} {x : V} (h : St.Le st st') (k : Still P G o st' x) : Still P G o st x :=
  fun c M μ tmps w hg r => k c M μ tmps w hg (r.weaken h)

theorem quiet_still {P : Program} {T : Tab} {G : Glob} (hT : TOK P T) {st : St} {o : Oper} {orc orc' : List PD} {v : Prop} {x : V} (h : quiet T G st o.op orc = some (v, x, orc')) (hv : v) : Still P G o st x := by
  intro c M μ tmps w hg r
  obtain ⟨u, e, hu⟩ := quiet_sound hT hg r h hv
  rw [e]
  exact ⟨.refl w, M, fun _ _ _ h => h, r.mem, fun _ _ _ => rfl, hu⟩

theorem arr_still {P : Program} {T : Tab} {G : Glob} (hT : TOK P T) {st : St} {o : Oper} {orc orc' : List PD} {v : Prop} {x : V} (h : arrStill T G st o.op orc = some (v, x, orc')) (hv : v) : Still P G o st x := by
  intro c M μ tmps w hg r
  obtain ⟨u, e, hu⟩ := arrStill_sound hT hg r h hv
  rw [e]
  exact ⟨.refl w, M, fun _ _ _ h => h, r.mem, fun _ _ _ => rfl, hu⟩

theorem call_still {P : Program} {G : Glob} {o : Oper} {st : St} {x : Operand} {args : Array Operand} {tys : Array TypeId} {f : FuncId} {as : List PD} {r : PD} {p : Prop}
    (ho : o.op = .call { callee := .value x, args := args, argTypes := tys }) (hf : st.arg G x = (p, .p (.fn f))) (hp : p) (hc : AFn P G f as r)
    {q : List Prop} {ys : List V} (hargs : args.toList.map (st.arg G) = q.zip ys) (hlen : q.length = ys.length) (hq : ∀ p ∈ q, p) (hfit : V.fitsL [] ys as) : Still P G o st (.p r) := by
  intro c M μ tmps w hg rel
  have h1 := (arg_sound hg rel hf hp).p_inv
  generalize hu : Act.eval ⟨tmps, []⟩ x = u at h1
  cases h1
  have hsize : args.size = ys.length := by
    have := congrArg List.length hargs
    simpa [List.length_zip, hlen] using this
  have e : (execOp (Act.eval ⟨tmps, []⟩) o).run P w = .ok (.enter f (args.map (Act.eval ⟨tmps, []⟩))) w := by
    simp [execOp, ho, resolve, Deferred.ofValue, hu, invoke, run_callFunc hc.1]
  rw [e]
  have hrd : ∀ (i : Nat) u d, (args.map (Act.eval ⟨tmps, []⟩))[i]? = some u → as[i]? = some d → Rd M u d := by
    intro i u d hu hd
    rw [Array.getElem?_map] at hu
    obtain ⟨y, hy, rfl⟩ := Option.map_eq_some_iff.1 hu
    have hi : i < args.size := (Array.getElem?_eq_some_iff.1 hy).1
    have h2 : (args.toList.map (st.arg G))[i]? = some (st.arg G y) := by simp [hy]
    rw [hargs] at h2
    have hiq : i < q.length := by omega
    have hiy : i < ys.length := by omega
    have h3 : (q.zip ys)[i]? = some (q[i], ys[i]) := by simp [List.getElem?_zip_eq_some, hiq, hiy]
    rw [h3] at h2
    cases h2e : st.arg G y with
    | mk a b =>
    rw [h2e] at h2
    cases h2
    have hv := arg_sound hg rel h2e (hq _ (List.getElem_mem hiq))
    exact fits_pure hv (V.fitsL_get hfit (by simp [hiy]) hd)
  have hfl := V.fitsL_len hfit
  refine (hc.2 M w _ (hg.mono rel.ext) rel.mem (by simp [hsize, hfl]) hrd).mono ?_
  rintro e w' ⟨v, M', rfl, hv, hmem, hM, hold, hbel⟩
  exact ⟨v, rfl, Grows.of_below hbel, M', hM, hmem, hold, .p hv⟩

theorem stillOf_still {P : Program} {T : Tab} {G : Glob} (hT : TOK P T) {st : St} {o : Oper} {orc orc' : List PD} {v : Prop} {x : V} (h : stillOf (AFn P G) T G st o.op orc = some (v, x, orc')) (hv : v) : Still P G o st x := by
  unfold stillOf at h
  split at h
  · rename_i r hr
    cases h
    exact quiet_still hT hr hv
  · split at h
    · rename_i r hr
      cases h
      exact arr_still hT hr hv
    obtain ⟨y, args, tys, p, f, as, r, ho, hf, hp, hall, hfit, hc, rfl⟩ := callOf_spec h hv
    exact call_still ho hf hp hc (q := args.toList.map fun y => (st.arg G y).1) (ys := args.toList.map fun y => (st.arg G y).2) (zip_fst_snd args.toList _ _) (by simp) (fun p hp => allP_mem hall p hp) hfit

/-- The state as one sees it through some slots. -/
def maskT (l : List V) (ts : List Nat) : List V := (List.range l.length).map fun i => if ts.contains i then l.getD i .dead else .dead
theorem maskT_len (l : List V) (ts : List Nat) : (maskT l ts).length = l.length := by simp [maskT]
theorem maskT_get (l : List V) (ts : List Nat) (t : Nat) : (maskT l ts)[t]? = if t < l.length then some (if ts.contains t then l.getD t .dead else .dead) else none := by
  simp only [maskT, List.getElem?_map]
  by_cases h : t < l.length
  · simp [h]
  · simp [h]
theorem maskT_getD (l : List V) (ts : List Nat) (t : Nat) : (maskT l ts).getD t .dead = if ts.contains t then l.getD t .dead else .dead := by
  rw [List.getD_eq_getElem?_getD, maskT_get]
  by_cases h : t < l.length
  · simp [h]
  · simp [h]
theorem maskT_opt (l : List V) (ts : List Nat) (t : Nat) : ((maskT l ts)[t]?).getD .dead = if ts.contains t then (l[t]?).getD .dead else .dead := by
  have := maskT_getD l ts t
  simpa [List.getD_eq_getElem?_getD] using this

def anyRun (C : Know) (T : Tab) (G : Glob) (ops : List Oper) : List Oper → List (List Nat) → St → List PD → Option (Prop × List V × St)
  | [], _, st, _ => some (True, [], st)
  | _ :: _, [], _, _ => none
  | o :: rest, ts :: tss, st, orc => match o.guard with
    | none => match stillOf C T G { st with tmps := maskT st.tmps ts } o.op orc with
      | some (v, x, orc') => match anyRun C T G ops rest tss (st.put o.dst x) orc' with
        | some (vs, xs, st2) => some (v ∧ vs, x :: xs, st2)
        | none => none
      | none => none
    | some (j, pol) => match (ops[j]?).bind (·.dst) with
      | none => none
      | some d => match V.guards pol (st.tmps.getD d .dead) with
        | none => none
        | some b => match stillOf C T G { st with tmps := maskT st.tmps ts } o.op orc with
          | some (v, x, orc') => match anyRun C T G ops rest tss (st.put o.dst (.when b x)) orc' with
            | some (vs, xs, st2) => some (d < st.tmps.length ∧ (b = true → v) ∧ vs, .when b x :: xs, st2)
            | none => none
          | none => none

def hasEdge (o : Oper) (j : Nat) : Bool := o.after.any fun e => Region.binds .any e && e.on == j
def dstAt (l : List Oper) (j : Nat) : Option Nat := (l[j]?).bind (·.dst)
/-- What must be so of the region's text. -/
def anyChk (l : List Oper) (m : Nat) (tss : List (List Nat)) : Bool :=
  decide (m ≤ l.length) &&
  (List.range m).all (fun i => match l[i]? with
    | some o => o.dst.isSome && decide (tss[i]? = some (o.looksAt l.toArray)) && (List.range m).all fun j => (j == i || dstAt l j != o.dst) && (match dstAt l j with
        | some d => !(o.looksAt l.toArray).contains d || (decide (j < i) && hasEdge o j)
        | none => true)
    | none => false) &&
  (List.range l.length).all (fun i => match l[i]? with
    | some o => (decide (i < m) || (List.range i).all fun j => hasEdge o j) && o.after.all fun e => !Region.binds .any e || decide (e.on < i)
    | none => false)

section
variable {P : Program} {T : Tab} {G : Glob} {Q : Exit → St → Prop} {l : List Oper} {m : Nat} {tss : List (List Nat)}

theorem anyChk_m (h : anyChk l m tss = true) : m ≤ l.length := by
  simp only [anyChk, Bool.and_eq_true, decide_eq_true_eq] at h; exact h.1.1
theorem anyChk_early (h : anyChk l m tss = true) {i : Nat} (hi : i < m) : ∃ o d, l[i]? = some o ∧ o.dst = some d ∧ tss[i]? = some (o.looksAt l.toArray) ∧
    ∀ j, j < m → (j ≠ i → dstAt l j ≠ some d) ∧ ∀ t, dstAt l j = some t → t ∈ o.looksAt l.toArray → j < i ∧ hasEdge o j = true := by
  simp only [anyChk, Bool.and_eq_true, List.all_eq_true, List.mem_range] at h
  have h1 := h.1.2 i hi
  split at h1
  · rename_i o ho
    simp only [Bool.and_eq_true, List.all_eq_true, List.mem_range, decide_eq_true_eq] at h1
    obtain ⟨⟨h2, h3⟩, h4⟩ := h1
    obtain ⟨d, hd⟩ := Option.isSome_iff_exists.1 h2
    refine ⟨o, d, ho, hd, h3, fun j hj => ⟨fun hne => ?_, fun t ht hm => ?_⟩⟩
    · have := (h4 j hj).1
      simp only [Bool.or_eq_true, beq_iff_eq, bne_iff_ne, ne_eq] at this
      rw [← hd]; exact this.resolve_left hne
    · have := (h4 j hj).2
      rw [ht] at this
      simp only [Bool.or_eq_true, Bool.not_eq_true', Bool.and_eq_true, decide_eq_true_eq] at this
      refine this.resolve_left fun h => ?_
      simp [hm] at h
  · cases h1
theorem anyChk_late (h : anyChk l m tss = true) {i : Nat} {o : Oper} (ho : l[i]? = some o) : (m ≤ i → ∀ j, j < i → hasEdge o j = true) ∧ ∀ e ∈ o.after, Region.binds .any e = true → e.on < i := by
  simp only [anyChk, Bool.and_eq_true, List.all_eq_true, List.mem_range] at h
  have hi : i < l.length := (List.getElem?_eq_some_iff.1 ho).1
  have h1 := h.2 i hi
  rw [ho] at h1
  simp only [Bool.and_eq_true, Bool.or_eq_true, decide_eq_true_eq, List.all_eq_true, List.mem_range, Array.all_eq_true_iff_forall_mem, Bool.not_eq_true'] at h1
  exact ⟨fun hm j hj => h1.1.resolve_left (by omega) j hj, fun e he hb => (h1.2 e he).resolve_left (by simp [hb])⟩
theorem hasEdge_spec {o : Oper} {j : Nat} (h : hasEdge o j = true) : ∃ e ∈ o.after, Region.binds .any e = true ∧ e.on = j := by
  obtain ⟨e, he, hb⟩ := Array.any_eq_true'.1 h
  simp only [Bool.and_eq_true, beq_iff_eq] at hb
  exact ⟨e, he, hb.1, hb.2⟩

/-- The slots once the operations of 'L' are done. -/
structure Done (l : List Oper) (m : Nat) (xs : List V) (t0 : List V) (L : Nat → Bool) (ys : List V) : Prop where
  len : ys.length = t0.length
  done : ∀ j d, j < m → dstAt l j = some d → L j = true → d < ys.length → ys[d]? = xs[j]?
  else' : ∀ t, (∀ j, j < m → dstAt l j = some t → L j = false) → ys[t]? = t0[t]?

theorem Done.put (hchk : anyChk l m tss = true) {xs t0 ys : List V} {L L' : Nat → Bool} (D : Done l m xs t0 L ys) {i d : Nat} {x : V} (hi : i < m) (hd : dstAt l i = some d) (hx : xs[i]? = some x)
    (hL : ∀ j, L' j = (L j || j == i)) : Done l m xs t0 L' (ys.set d x) := by
  obtain ⟨o, d', ho, hd', _, hsep⟩ := anyChk_early hchk hi
  have hdd : d' = d := by simp only [dstAt, ho, Option.bind_some, hd', Option.some.injEq] at hd; exact hd
  subst hdd
  refine ⟨by simp [D.len], fun j e hj he hLj hlt => ?_, fun t ht => ?_⟩
  · by_cases hji : j = i
    · subst hji
      rw [hd] at he; cases he
      rw [List.getElem?_set_self (by simpa using hlt), hx]
    · have hne : e ≠ d' := by rintro rfl; exact (hsep j hj).1 hji he
      rw [List.getElem?_set_ne (Ne.symm hne)]
      refine D.done j e hj he ?_ (by simpa using hlt)
      rw [hL] at hLj
      simpa [hji] using hLj
  · have hne : t ≠ d' := by
      rintro rfl
      have := ht i hi hd
      rw [hL] at this
      simp at this
    rw [List.getElem?_set_ne (Ne.symm hne)]
    refine D.else' t fun j hj hjt => ?_
    have := ht j hj hjt
    rw [hL] at this
    simp only [Bool.or_eq_false_iff] at this
    exact this.1

/-- How an operation goes wherever its needs are there. -/
def Goes (P : Program) (G : Glob) (l : List Oper) (o : Oper) (W : St) (x : V) : Prop :=
  match o.guard with
  | none => Still P G o W x
  | some (j, pol) => ∃ d b y, dstAt l j = some d ∧ d < W.tmps.length ∧ V.guards pol (W.tmps.getD d .dead) = some b ∧ x = .when b y ∧ (b = true → Still P G o W y)

theorem Goes.wp {o : Oper} {W st : St} {x : V} {i : Nat} (h : Goes P G l o W x) (hle : St.Le st W) (ho : l[i]? = some o) {c : Ctx} {M : FMap} {μ : Mu} {tmps : Array Value} {w : World} (hg : GOK G c.M0)
    (r : Rel c M μ st tmps w) {R : Exit → Act → World → Prop} {K : Act → World → Prop}
    (k : ∀ u w' M', Rel c M' μ st tmps w' → RV M' μ u x → K (Act.put ⟨tmps, []⟩ o.dst u) w') : wpOp P l.toArray R i K ⟨tmps, []⟩ w := by
  have fin : ∀ {y : V}, Still P G o W y → (∀ u w' M', Rel c M' μ st tmps w' → RV M' μ u y → K (Act.put ⟨tmps, []⟩ o.dst u) w') → o.wp P ⟨tmps, []⟩ w K R := by
    intro y hs hk
    refine wp_of_ends ((hs.le hle) c M μ tmps w hg r) ?_
    rintro u w' ⟨hgr, M', h1, h2, h3, hv⟩
    exact hk u w' M' (r.grows hgr h1 h2 h3) hv
  unfold wpOp
  rw [show l.toArray[i]? = some o by simpa using ho]
  show if Region.wanted o (yielded l.toArray tmps) = true then _ else _
  unfold Goes at h
  split at h
  · rename_i hgd
    rw [if_pos (by simp [Region.wanted, hgd])]
    exact .inl (fin h k)
  · rename_i j pol hgd
    obtain ⟨d, b, y, hd, hlt, hb, rfl, hs⟩ := h
    have hlt' : d < st.tmps.length := by rw [hle.tmps.len]; exact hlt
    have hget : ∃ u, tmps[d]? = some u := by
      have := r.slots.1
      exact ⟨tmps[d]'(by omega), by simp [show d < tmps.size by omega]⟩
    obtain ⟨u0, hu0⟩ := hget
    have hx0 : W.tmps[d]? = some (W.tmps.getD d .dead) := by simp [List.getD, hlt]
    obtain ⟨hb1, hb2⟩ := V.guards_sound ((r.weaken hle).slots.2 d u0 _ hu0 hx0) hb
    have hy : yielded l.toArray tmps j = boolOf u0 := by
      have e1 : ∀ o : Option Value, o = some u0 → (match o with | some (.bool b) => some b | _ => none) = boolOf u0 := by
        rintro _ rfl
        cases u0 <;> rfl
      unfold yielded
      rw [show (l.toArray[j]?).bind (·.dst) = some d by simpa [dstAt] using hd]
      exact e1 _ hu0
    cases hbv : b with
    | true =>
      have hu := hb1 hbv
      subst hu
      rw [if_pos (by simp [Region.wanted, hgd, hy, boolOf])]
      refine .inl (fin (hs hbv) fun u w' M' r' hv => k u w' M' r' ?_)
      exact .when (fun _ => hv) (fun e => by rw [hbv] at e; cases e)
    | false =>
      have hu := hb2 hbv
      rw [if_neg (by
        simp only [Region.wanted, hgd, hy]
        cases u0 with
        | bool t => simp only [boolOf, beq_iff_eq, Option.some.injEq]; rintro rfl; exact hu rfl
        | _ => simp [boolOf])]
      exact k undef w M r (.when (fun e => by rw [hbv] at e; cases e) fun _ => rfl)

/-- What the run in the text's order tells. -/
theorem anyRun_goes (hT : TOK P T) (hchk : anyChk l m tss = true) (st0 : St) (xs : List V) : ∀ (k : Nat) (rest : List Oper) (ts : List (List Nat)) (st st2 : St) (orc : List PD) (v : Prop) (zs : List V),
    rest = (l.take m).drop k → ts = tss.drop k → zs = xs.drop k → k ≤ m → xs.length = m → st = { st0 with tmps := st.tmps } → Done l m xs st0.tmps (fun j => decide (j < k)) st.tmps →
    anyRun (AFn P G) T G l rest ts st orc = some (v, zs, st2) → v →
    (∀ i, k ≤ i → i < m → ∃ o ys, l[i]? = some o ∧ xs[i]?.isSome ∧ Done l m xs st0.tmps (fun j => decide (j < i)) ys ∧ ∀ x, xs[i]? = some x → Goes P G l o { st0 with tmps := maskT ys (o.looksAt l.toArray) } x) ∧
      st2 = { st0 with tmps := st2.tmps } ∧ Done l m xs st0.tmps (fun j => decide (j < m)) st2.tmps := by
  intro k rest
  induction rest generalizing k with
  | nil =>
    intro ts st st2 orc v zs hr _ hz hk hxl hst D h _
    simp only [anyRun, Option.some.injEq, Prod.mk.injEq] at h
    obtain ⟨rfl, h2, rfl⟩ := h
    have hkm : k = m := by
      have h3 : (List.drop k (List.take m l)).length = 0 := by rw [← hr]; rfl
      have := anyChk_m hchk
      simp at h3
      omega
    subst hkm
    exact ⟨fun i h1 h2 => by omega, hst, D⟩
  | cons o rest ih =>
    intro ts st st2 orc v zs hr hts hz hk hxl hst D h hv
    have hkm : k < m := by
      have h3 : (List.drop k (List.take m l)).length = rest.length + 1 := by rw [← hr]; rfl
      simp at h3
      omega
    obtain ⟨o', d, ho', hd, htk, hsep⟩ := anyChk_early hchk hkm
    have hoo : o = o' := by
      have h3 : (List.drop k (List.take m l))[0]? = some o := by rw [← hr]; rfl
      rw [List.getElem?_drop, List.getElem?_take, Nat.add_zero, if_pos hkm, ho'] at h3
      cases h3; rfl
    subst hoo
    have hrest : rest = (l.take m).drop (k + 1) := by
      have := congrArg (List.drop 1) hr
      simpa [List.drop_drop, Nat.add_comm] using this
    obtain ⟨t1, tss1, hts'⟩ : ∃ t1 tss1, ts = t1 :: tss1 := by
      cases ts with
      | nil => have := congrArg List.length hts; simp at this; have := (List.getElem?_eq_some_iff.1 htk).1; omega
      | cons a b => exact ⟨a, b, rfl⟩
    subst hts'
    have ht1 : t1 = o.looksAt l.toArray := by
      have h3 : (List.drop k tss)[0]? = some t1 := by rw [← hts]; rfl
      rw [List.getElem?_drop, Nat.add_zero, htk] at h3
      cases h3; rfl
    have hts1 : tss1 = tss.drop (k + 1) := by
      have := congrArg (List.drop 1) hts
      simpa [List.drop_drop, Nat.add_comm] using this
    have hdk : dstAt l k = some d := by simp [dstAt, ho', hd]
    have next : ∀ (x : V) (zs' : List V) (vs : Prop) (orc' : List PD), zs = x :: zs' → anyRun (AFn P G) T G l rest tss1 (st.put o.dst x) orc' = some (vs, zs', st2) → vs → Goes P G l o { st0 with tmps := maskT st.tmps (o.looksAt l.toArray) } x →
        (∀ i, k ≤ i → i < m → ∃ o ys, l[i]? = some o ∧ xs[i]?.isSome ∧ Done l m xs st0.tmps (fun j => decide (j < i)) ys ∧ ∀ x, xs[i]? = some x → Goes P G l o { st0 with tmps := maskT ys (o.looksAt l.toArray) } x) ∧
        st2 = { st0 with tmps := st2.tmps } ∧ Done l m xs st0.tmps (fun j => decide (j < m)) st2.tmps := by
      intro x zs' vs orc' hzz hrun hvs hgo
      have hxk : xs[k]? = some x := by
        have h3 : (List.drop k xs)[0]? = some x := by rw [← hz, hzz]; rfl
        rw [List.getElem?_drop, Nat.add_zero] at h3; exact h3
      have hz' : zs' = xs.drop (k + 1) := by
        have := congrArg (List.drop 1) hz
        rw [hzz] at this
        simpa [List.drop_drop, Nat.add_comm] using this
      have hput : st.put o.dst x = { st with tmps := st.tmps.set d x } := by rw [hd]; rfl
      rw [hput] at hrun
      have D' := D.put hchk (L' := fun j => decide (j < k + 1)) hkm hdk hxk (fun j => by
        by_cases h1 : j < k
        · simp [h1, show j < k + 1 by omega]
        · by_cases h2 : j = k
          · simp [h2]
          · simp [h1, h2, show ¬ j < k + 1 by omega])
      obtain ⟨h1, h2, h3⟩ := ih (k + 1) tss1 _ st2 orc' vs zs' hrest hts1 hz' hkm hxl (by rw [hst]) D' hrun hvs
      refine ⟨fun i hi1 hi2 => ?_, h2, h3⟩
      rcases Nat.eq_or_lt_of_le hi1 with e | e
      · subst e
        exact ⟨o, st.tmps, ho', by simp [hxk], D, fun y hy => by rw [hxk] at hy; cases hy; exact hgo⟩
      · exact h1 i e hi2
    have hmask : ({ st with tmps := maskT st.tmps t1 } : St) = { st0 with tmps := maskT st.tmps (o.looksAt l.toArray) } := by rw [ht1]; rw [hst]
    simp only [anyRun] at h
    split at h
    · rename_i hgd
      split at h
      · rename_i v1 x orc1 hs
        split at h
        · rename_i vs xs1 st3 hrun
          simp only [Option.some.injEq, Prod.mk.injEq] at h
          obtain ⟨rfl, h5, rfl⟩ := h
          refine next x xs1 vs orc1 h5.symm hrun hv.2 ?_
          rw [hmask] at hs
          simp only [Goes, hgd]
          exact stillOf_still hT hs hv.1
        · cases h
      · cases h
    · rename_i j pol hgd
      split at h
      · cases h
      · rename_i e he
        split at h
        · cases h
        · rename_i b hb
          split at h
          · rename_i v1 x orc1 hs
            split at h
            · rename_i vs xs1 st3 hrun
              simp only [Option.some.injEq, Prod.mk.injEq] at h
              obtain ⟨rfl, h5, rfl⟩ := h
              refine next (.when b x) xs1 vs orc1 h5.symm hrun hv.2.2 ?_
              rw [hmask] at hs
              simp only [Goes, hgd]
              have hmem : (o.looksAt l.toArray).contains e = true := by
                simp only [Oper.looksAt, hgd, List.contains_eq_mem, decide_eq_true_eq, List.mem_append]
                right
                have : (l.toArray[j]?).bind (·.dst) = some e := by simpa using he
                rw [this]; simp
              refine ⟨e, b, x, by simpa [dstAt] using he, by rw [maskT_len]; exact hv.1, ?_, rfl, fun hbt => stillOf_still hT hs (hv.2.1 hbt)⟩
              rw [maskT_getD, if_pos hmem]; exact hb
            · cases h
          · cases h

theorem ready_late (hchk : anyChk l m tss = true) {k : Nat} (hk : m ≤ k) {listed : Array Bool} (hsz : listed.size = l.length) (hl : ∀ j, j < l.length → listed.getD j false = decide (j < k)) :
    ∀ i, i ∈ Region.ready .any l.toArray listed → i = k := by
  intro i hi
  obtain ⟨h0, o, ho, hall⟩ := mem_ready.1 hi
  have ho' : l[i]? = some o := by simpa using ho
  have hil : i < l.length := (List.getElem?_eq_some_iff.1 ho').1
  have h0' : listed.getD i false = false := by
    have e1 : i < listed.size := by omega
    simp [e1] at h0 ⊢
    exact h0
  rw [hl i hil] at h0'
  simp only [decide_eq_false_iff_not] at h0'
  rcases Nat.lt_or_ge k i with h | h
  · obtain ⟨e, he, hb, hj⟩ := hasEdge_spec ((anyChk_late hchk ho').1 (by omega) k h)
    have := hall e he hb
    rw [hj, hl k (by omega)] at this
    simp at this
  · omega

theorem any_late (hchk : anyChk l m tss = true) {R : Exit → Act → World → Prop} : ∀ (n k : Nat) (fuel : Nat) (listed : Array Bool) (a : Act) (w : World), n = l.length - k → m ≤ k → k ≤ l.length → listed.size = l.length →
    (∀ j, j < l.length → listed.getD j false = decide (j < k)) → n ≤ fuel → wpList P l.toArray R (l.drop k) a w → wpAny P .any l.toArray R fuel listed a w := by
  intro n
  induction n with
  | zero =>
    intro k fuel listed a w hn hmk hkl hsz hl _ h
    have hk : k = l.length := by omega
    subst hk
    refine wpAny_done ?_ (by simpa [wpList] using h) fuel
    cases hr : Region.ready .any l.toArray listed with
    | nil => rfl
    | cons i r =>
      have h1 : i ∈ Region.ready .any l.toArray listed := by rw [hr]; simp
      have h2 := ready_late hchk hmk hsz hl i h1
      obtain ⟨_, o, ho, _⟩ := mem_ready.1 h1
      have ho' : l[i]? = some o := by simpa using ho
      have := (List.getElem?_eq_some_iff.1 ho').1
      omega
  | succ n ih =>
    intro k fuel listed a w hn hmk hkl hsz hl hf h
    cases fuel with
    | zero => omega
    | succ fuel =>
      have hkl' : k < l.length := by omega
      obtain ⟨o, ho⟩ : ∃ o, l[k]? = some o := ⟨l[k], by simp [hkl']⟩
      have hready : k ∈ Region.ready .any l.toArray listed := by
        refine mem_ready.2 ⟨?_, o, by simpa using ho, fun e he hb => ?_⟩
        · have := hl k hkl'
          have e1 : k < listed.size := by omega
          simp [e1] at this ⊢
          exact this
        · have := (anyChk_late hchk ho).2 e he hb
          rw [hl _ (by omega)]; simpa using this
      refine ⟨fun hr => (by rw [hr] at hready; cases hready), fun i hi => ?_⟩
      have hik := ready_late hchk hmk hsz hl i hi
      subst hik
      rw [List.drop_eq_getElem_cons hkl', show l[i] = o from (List.getElem?_eq_some_iff.1 ho).2] at h
      unfold wpOp
      rw [show l.toArray[i]? = some o by simpa using ho]
      have hnext : ∀ a' w', wpList P l.toArray R (l.drop (i + 1)) a' w' → wpAny P .any l.toArray R fuel (listed.setIfInBounds i true) a' w' := fun a' w' h' =>
        ih (i + 1) fuel _ a' w' (by omega) (by omega) (by omega) (by simp [hsz]) (fun j hj => by
          by_cases hij : i = j
          · subst hij
            have : i < listed.size := by omega
            simp [this]
          · rw [getD_set_ne false hij, hl j hj]
            by_cases h1 : j < i
            · simp [h1, show j < i + 1 by omega]
            · simp [h1, show ¬ j < i + 1 by omega]) (by omega) h'
      simp only [wpList] at h
      show if Region.wanted o (yielded l.toArray a.tmps) = true then _ else _
      split
      · rename_i hw
        rw [if_pos hw] at h
        exact h.imp (Oper.wp_mono hnext) fun h => h
      · rename_i hw
        rw [if_neg hw] at h
        exact hnext _ _ h

theorem filter_le {p q : Nat → Bool} (h : ∀ j, q j = true → p j = true) : ∀ ks : List Nat, (ks.filter q).length ≤ (ks.filter p).length
  | [] => by simp
  | k :: ks => by
    have ih := filter_le h ks
    simp only [List.filter_cons]
    cases hq : q k with
    | true => rw [h k hq]; simp; exact ih
    | false => cases p k <;> simp <;> omega
theorem filter_lt {p q : Nat → Bool} {i : Nat} (h : ∀ j, q j = true → p j = true) (hp : p i = true) (hq : q i = false) : ∀ {ks : List Nat}, i ∈ ks → (ks.filter q).length < (ks.filter p).length
  | k :: ks, hm => by
    simp only [List.filter_cons]
    have hle := filter_le h ks
    rcases List.mem_cons.1 hm with rfl | hm
    · rw [hp, hq]; simp; omega
    · have ih := filter_lt h hp hq hm
      cases hqk : q k with
      | true => rw [h k hqk]; simp; exact ih
      | false => cases p k <;> simp <;> omega

set_option linter.unusedVariables false in
theorem any_early (hchk : anyChk l m tss = true) (st0 : St) (xs : List V) (hxl : xs.length = m)
    (hgo : ∀ i, i < m → ∃ o ys, l[i]? = some o ∧ xs[i]?.isSome ∧ Done l m xs st0.tmps (fun j => decide (j < i)) ys ∧ ∀ x, xs[i]? = some x → Goes P G l o { st0 with tmps := maskT ys (o.looksAt l.toArray) } x)
    (st2 : St) (hst2 : st2 = { st0 with tmps := st2.tmps }) (D2 : Done l m xs st0.tmps (fun j => decide (j < m)) st2.tmps) (late : AOps P G l.toArray Q (l.drop m) st2) {c : Ctx} (hg : GOK G c.M0) (μ : Mu) :
    ∀ (n : Nat) (fuel : Nat) (listed : Array Bool) (M : FMap) (ys : List V) (tmps : Array Value) (w : World), n = ((List.range l.length).filter fun j => !listed.getD j false).length → n ≤ fuel → listed.size = l.length →
      (∀ j, m ≤ j → j < l.length → listed.getD j false = false) → Done l m xs st0.tmps (fun j => listed.getD j false) ys → Rel c M μ { st0 with tmps := ys } tmps w →
      wpAny P .any l.toArray (Post c Q) fuel listed ⟨tmps, []⟩ w := by
  intro n
  induction n using Nat.strongRecOn with
  | _ n ih =>
  intro fuel listed M ys tmps w hn hf hsz hlate D r
  by_cases hall : ∀ j, j < m → listed.getD j false = true
  · -- all early ones are done
    have hys : ys = st2.tmps := by
      refine List.ext_getElem? fun t => ?_
      by_cases hex : ∃ j d, j < m ∧ dstAt l j = some d ∧ d = t
      · obtain ⟨j, d, hj, hd, rfl⟩ := hex
        by_cases hlt : d < ys.length
        · rw [D.done j d hj hd (hall j hj) hlt, D2.done j d hj hd (by simp [hj]) (by rw [D2.len, ← D.len]; exact hlt)]
        · rw [List.getElem?_eq_none (by omega), List.getElem?_eq_none (by rw [D2.len, ← D.len]; omega)]
      · have hno : ∀ j, j < m → dstAt l j = some t → False := fun j hj hd => hex ⟨j, t, hj, hd, rfl⟩
        rw [D.else' t fun j hj hd => (hno j hj hd).elim, D2.else' t fun j hj hd => (hno j hj hd).elim]
    have hl : ∀ j, j < l.length → listed.getD j false = decide (j < m) := fun j hj => by
      by_cases h : j < m
      · rw [hall j h]; simp [h]
      · rw [hlate j (by omega) hj]; simp [h]
    have hcount : l.length - m ≤ fuel := by
      have h1 : ∀ (p : Nat → Bool) k, (∀ j, j < k → p j = decide (m ≤ j)) → ((List.range k).filter p).length = k - m := by
        intro p k hp
        induction k with
        | zero => simp
        | succ k ihk =>
          rw [List.range_succ, List.filter_append, List.length_append, ihk fun j hj => hp j (by omega)]
          simp only [List.filter_cons, List.filter_nil, hp k (by omega)]
          by_cases h : m ≤ k
          · simp [h]; omega
          · simp [h]; omega
      have h2 := h1 (fun j => !listed.getD j false) l.length fun j hj => by
        show (!listed.getD j false) = _
        rw [hl j hj]
        by_cases h : j < m
        · simp [h]
        · simp [h, show m ≤ j by omega]
      omega
    refine any_late hchk (l.length - m) m fuel listed _ w rfl (Nat.le_refl _) (anyChk_m hchk) hsz hl hcount ?_
    refine late c M μ tmps w hg ?_
    rw [hst2, ← hys]; exact r
  · -- some early one is to do
    obtain ⟨j0, hj0, hmin⟩ : ∃ j0, (j0 < m ∧ listed.getD j0 false = false) ∧ ∀ j, j < j0 → listed.getD j false = true := by
      have hex : ∃ j, j < m ∧ listed.getD j false = false := by
        refine Classical.byContradiction fun h => hall fun j hj => ?_
        cases hv : listed.getD j false with
        | true => rfl
        | false => exact (h ⟨j, hj, hv⟩).elim
      obtain ⟨j, hj⟩ := hex
      induction j using Nat.strongRecOn with
      | _ j ihj =>
        by_cases h : ∃ k, k < j ∧ listed.getD k false = false
        · obtain ⟨k, hk, hkv⟩ := h
          exact ihj k hk ⟨by omega, hkv⟩
        · refine ⟨j, hj, fun k hk => ?_⟩
          cases hv : listed.getD k false with
          | true => rfl
          | false => exact (h ⟨k, hk, hv⟩).elim
    have hml := anyChk_m hchk
    obtain ⟨o0, ho0⟩ : ∃ o, l[j0]? = some o := ⟨l[j0]'(by omega), by simp [show j0 < l.length by omega]⟩
    have hr0 : j0 ∈ Region.ready .any l.toArray listed := by
      refine mem_ready.2 ⟨?_, o0, by simpa using ho0, fun e he hb => hmin _ ((anyChk_late hchk ho0).2 e he hb)⟩
      have e1 : j0 < listed.size := by omega
      have := hj0.2
      simp [e1] at this ⊢
      exact this
    cases fuel with
    | zero =>
      have hmem : j0 ∈ (List.range l.length).filter fun j => !listed.getD j false := by
        refine List.mem_filter.2 ⟨by simp; omega, ?_⟩
        show (!listed.getD j0 false) = true
        rw [hj0.2]; rfl
      have := List.length_pos_of_mem hmem
      omega
    | succ fuel =>
      refine ⟨fun hr => (by rw [hr] at hr0; cases hr0), fun i hi => ?_⟩
      obtain ⟨h0, o, ho, hdeps⟩ := mem_ready.1 hi
      have ho' : l[i]? = some o := by simpa using ho
      have hil : i < l.length := (List.getElem?_eq_some_iff.1 ho').1
      have hui : listed.getD i false = false := by
        have e1 : i < listed.size := by omega
        simp [e1] at h0 ⊢
        exact h0
      have him : i < m := by
        rcases Nat.lt_or_ge i m with h | h
        · exact h
        · obtain ⟨e, he, hb, hj⟩ := hasEdge_spec ((anyChk_late hchk ho').1 h j0 (by omega))
          have := hdeps e he hb
          rw [hj, hj0.2] at this; cases this
      obtain ⟨o1, zs, ho1, hxs, Di, hg1⟩ := hgo i him
      rw [ho'] at ho1; cases ho1
      obtain ⟨x, hx⟩ := Option.isSome_iff_exists.1 hxs
      obtain ⟨o2, d, ho2, hd, htk, hsep⟩ := anyChk_early hchk him
      rw [ho'] at ho2; cases ho2
      have hdi : dstAt l i = some d := by simp [dstAt, ho', hd]
      have hle : St.Le { st0 with tmps := ys } { st0 with tmps := maskT zs (o.looksAt l.toArray) } := by
        refine ⟨?_, rfl, fun _ h => h, r.nodup⟩
        have key : ∀ (as bs : List V), as.length = bs.length → (∀ t, VLe (as.getD t .dead) (bs.getD t .dead)) → VLeL as bs := by
          intro as
          induction as with
          | nil => intro bs h _; cases bs with
            | nil => trivial
            | cons => simp at h
          | cons a as iha => intro bs h h'; cases bs with
            | nil => simp at h
            | cons b bs =>
              refine ⟨by simpa using h' 0, iha bs (by simpa using h) fun t => ?_⟩
              have := h' (t + 1)
              simpa using this
        refine key _ _ (by rw [maskT_len, D.len, Di.len]) fun t => ?_
        rw [maskT_getD]
        split
        · rename_i hmem
          have hmem' : t ∈ o.looksAt l.toArray := by simpa using hmem
          have heq : ys[t]? = zs[t]? := by
            by_cases hex : ∃ j, j < m ∧ dstAt l j = some t
            · obtain ⟨j, hj, hdt⟩ := hex
              obtain ⟨hji, hedge⟩ := (hsep j hj).2 t hdt hmem'
              obtain ⟨e, he, hb, hon⟩ := hasEdge_spec hedge
              have hlj := hdeps e he hb
              rw [hon] at hlj
              by_cases hlt : t < ys.length
              · rw [D.done j t hj hdt hlj hlt, Di.done j t hj hdt (by simp [hji]) (by rw [Di.len, ← D.len]; exact hlt)]
              · rw [List.getElem?_eq_none (by omega), List.getElem?_eq_none (by rw [Di.len, ← D.len]; omega)]
            · have hno : ∀ j, j < m → dstAt l j = some t → False := fun j hj hd => hex ⟨j, hj, hd⟩
              rw [D.else' t fun j hj hd => (hno j hj hd).elim, Di.else' t fun j hj hd => (hno j hj hd).elim]
          rw [List.getD_eq_getElem?_getD, List.getD_eq_getElem?_getD, heq]
          exact VLe.refl _
        · exact VLe.dead _
      refine (hg1 x hx).wp hle ho' hg r ?_
      intro u w' M' r' hv
      rw [Act.put_tmps, hd]
      have r2 := r'.put hv (some d)
      have D' := D.put hchk (L' := fun j => (listed.setIfInBounds i true).getD j false) him hdi hx (fun j => by
        by_cases hij : i = j
        · subst hij
          have : i < listed.size := by omega
          simp [this]
        · show (listed.setIfInBounds i true).getD j false = _
          rw [getD_set_ne false hij]; simp [Ne.symm hij])
      have hcnt : ((List.range l.length).filter fun j => !(listed.setIfInBounds i true).getD j false).length < ((List.range l.length).filter fun j => !listed.getD j false).length := by
        refine filter_lt (fun j hj => ?_) ?_ ?_ (List.mem_range.2 hil)
        · by_cases hij : i = j
          · subst hij; rw [hui]; rfl
          · rw [getD_set_ne false hij] at hj; exact hj
        · rw [hui]; rfl
        · have e1 : i < listed.size := by omega
          simp [e1]
      refine ih _ ?_ fuel (listed.setIfInBounds i true) M' (ys.set d x) _ w' rfl ?_ (by simp [hsz]) (fun j hj hjl => ?_) D' r2
      · omega
      · omega
      · rw [getD_set_ne false (by omega)]; exact hlate j hj hjl

/-- A region that draws its order: 'm' operations that change nothing, then those that wait for all. -/
theorem AW.runAny (hT : TOK P T) (hmix : P.follows .mixedOrders = true) (m : Nat) (tss : List (List Nat)) (orc1 orc2 : List PD) {id : Nat} {st st1 st' : St} {xs : List V} {v1 v2 : Know → Prop} (hchk : anyChk l m tss = true) 
    (h1 : ∀ C, anyRun C T G l (l.take m) tss st orc1 = some (v1 C, xs, st1)) (hv1 : v1 (AFn P G)) (h2 : ∀ C, opsRun C T G l (l.drop m) st1 orc2 = some (v2 C, st')) (hv2 : v2 (AFn P G)) (k : Q .normal st') :
    AW P G (.region id l.toArray true) Q st := by
  intro c M μ tmps w hg r
  refine wp_region_any hmix ?_
  have hlate := opsRun_sound (Q := Q) hT l (l.drop m) [] _ orc2 _ st' (h2 (AFn P G)) hv2 (AOps.nil k)
  rw [List.append_nil] at hlate
  have hml := anyChk_m hchk
  have hxl : xs.length = m := by
    have key : ∀ (rest : List Oper) (ts : List (List Nat)) (s s2 : St) (orc : List PD) (v : Prop) (zs : List V), anyRun (AFn P G) T G l rest ts s orc = some (v, zs, s2) → zs.length = rest.length := by
      intro rest
      induction rest with
      | nil => intro ts s s2 orc v zs h; simp only [anyRun, Option.some.injEq, Prod.mk.injEq] at h; rw [← h.2.1]; rfl
      | cons o rest ih =>
        intro ts s s2 orc v zs h
        cases ts with
        | nil => simp [anyRun] at h
        | cons t ts =>
          simp only [anyRun] at h
          split at h
          · split at h
            · split at h
              · rename_i hr
                simp only [Option.some.injEq, Prod.mk.injEq] at h
                rw [← h.2.1]; simp [ih _ _ _ _ _ _ hr]
              · cases h
            · cases h
          · split at h
            · cases h
            · split at h
              · cases h
              · split at h
                · split at h
                  · rename_i hr
                    simp only [Option.some.injEq, Prod.mk.injEq] at h
                    rw [← h.2.1]; simp [ih _ _ _ _ _ _ hr]
                  · cases h
                · cases h
    have := key _ _ _ _ _ _ _ (h1 (AFn P G))
    rw [this]; simp; omega
  have D0 : Done l m xs st.tmps (fun j => decide (j < 0)) st.tmps := ⟨rfl, fun j d _ _ h => by simp at h, fun t _ => rfl⟩
  obtain ⟨hgo, hst2, D2⟩ := anyRun_goes hT hchk st xs 0 (l.take m) tss st st1 orc1 _ xs (by simp) (by simp) (by simp) (Nat.zero_le _) hxl rfl D0 (h1 (AFn P G)) hv1
  have hsize : l.toArray.size = l.length := by simp
  refine any_early hchk st xs hxl (fun i hi => hgo i (Nat.zero_le _) hi) st1 hst2 D2 hlate hg μ _ _ _ M st.tmps tmps _ rfl ?_ (by simp) (fun j _ hj => by simp [Array.getD]) ?_ (r.same ⟨rfl, rfl, rfl, Nat.le_refl _, fun _ _ => rfl⟩)
  · rw [hsize]
    exact Nat.le_trans (List.length_filter_le _ _) (by simp)
  · refine ⟨rfl, fun j d _ _ h => ?_, fun t _ => rfl⟩
    simp [Array.getD] at h
theorem AW.seqRunAny (hT : TOK P T) (hmix : P.follows .mixedOrders = true) (m : Nat) (tss : List (List Nat)) (orc1 orc2 : List PD) {id : Nat} {b : Code} {st st1 st' : St} {xs : List V} {v1 v2 : Know → Prop} (hchk : anyChk l m tss = true) 
    (h1 : ∀ C, anyRun C T G l (l.take m) tss st orc1 = some (v1 C, xs, st1)) (hv1 : v1 (AFn P G)) (h2 : ∀ C, opsRun C T G l (l.drop m) st1 orc2 = some (v2 C, st')) (hv2 : v2 (AFn P G)) (k : AW P G b Q st') :
    AW P G (.seq (.region id l.toArray true) b) Q st := AW.seq (AW.runAny hT hmix m tss orc1 orc2 hchk h1 hv1 h2 hv2 k)
attribute [simp] anyRun maskT_getD maskT_opt
end
end Go.Proofs.YtdploelkmlbhnaaDoor.Sy
