/-
  OUR OWN LAYER, 9: values that are pure after all; boxes forgotten, adopted; calls by contract; how a contract is proved.
-/
import Derived.Test.YtdploelkmlbhnaaDoorCore8
namespace Go.Proofs.YtdploelkmlbhnaaDoor.Sy
open Go

mutual
/-- The value 'x' reads as the pure 'd' (the rows that it refers to are told by 'H'). -/
def V.fits (H : List (Nat × Box)) : V → PD → Prop
  | .p d, d' => d = d'
  | .nilsl, .sl _ es => es = []
  | .ms id, .sl sz es => match boxOf id H with
    | some (.row _ sz' es') => sz' = sz ∧ es' = es
    | _ => False
  | .agg cs, .agg ds => V.fitsL H cs ds
  | .tuple cs, .tup ds => V.fitsL H cs ds
  | _, _ => False
def V.fitsL (H : List (Nat × Box)) : List V → List PD → Prop
  | [], [] => True
  | x :: xs, d :: ds => V.fits H x d ∧ V.fitsL H xs ds
  | _, _ => False
end

theorem V.fitsL_len {H : List (Nat × Box)} : ∀ {xs : List V} {ds : List PD}, V.fitsL H xs ds → xs.length = ds.length
  | [], [], _ => rfl
  | _ :: _, _ :: _, h => by simp only [V.fitsL] at h; simp [V.fitsL_len h.2]
  | [], _ :: _, h => by simp only [V.fitsL] at h
  | _ :: _, [], h => by simp only [V.fitsL] at h
theorem V.fitsL_get {H : List (Nat × Box)} : ∀ {xs : List V} {ds : List PD}, V.fitsL H xs ds → ∀ {i : Nat} {x : V} {d : PD}, xs[i]? = some x → ds[i]? = some d → V.fits H x d
  | [], [], _, i, x, d, hx, _ => by simp at hx
  | y :: ys, e :: es, h, i, x, d, hx, hd => by
    simp only [V.fitsL] at h
    cases i with
    | zero => simp at hx hd; subst hx; subst hd; exact h.1
    | succ i => simp at hx hd; exact V.fitsL_get h.2 hx hd
  | [], _ :: _, h, _, _, _, _, _ => by simp only [V.fitsL] at h
  | _ :: _, [], h, _, _, _, _, _ => by simp only [V.fitsL] at h

theorem fits_sound {M M' : FMap} {μ : Mu} {H : List (Nat × Box)} (hM : ∀ b o v, M b o = some v → M' b o = some v)
    (hH : ∀ id e sz es, boxOf id H = some (.row e sz es) → Rd M' (μ id).val (.sl sz es)) {u : Value} {x : V} (r : RV M μ u x) : ∀ {d : PD}, V.fits H x d → Rd M' u d := by
  induction r with
  | p r => intro d h; simp only [V.fits] at h; subst h; exact r.mono hM
  | @nilsl a =>
    intro d h
    cases d with
    | sl sz es =>
      simp only [V.fits] at h
      subst h
      exact .sl 0 0 rfl (Nat.le_refl _) (by simp [maxLen]) (fun h => (h rfl).elim) (fun i e h => by simp at h) (fun i e j h => by simp at h) (fun i e j d u h => by simp at h)
    | _ => simp only [V.fits] at h
  | @ms u id hu _ =>
    intro d h
    cases d with
    | sl sz es =>
      simp only [V.fits] at h
      split at h
      · rename_i e sz' es' hb
        obtain ⟨rfl, rfl⟩ := h
        rw [hu]
        exact hH id e _ _ hb
      · exact h.elim
    | _ => simp only [V.fits] at h
  | @agg arr cs h1 h2 h3 ih =>
    intro d h
    cases d with
    | agg ds =>
      simp only [V.fits] at h
      refine .agg (h1.trans (V.fitsL_len h)) h2 fun i u d hu hd => ?_
      have hi : i < cs.length := by rw [← h1]; exact (Array.getElem?_eq_some_iff.1 hu).1
      have hx : cs[i]? = some cs[i] := by simp [hi]
      exact ih i u _ hu hx (V.fitsL_get h hx hd)
    | _ => simp only [V.fits] at h
  | @tuple arr cs h1 h2 ih =>
    intro d h
    cases d with
    | tup ds =>
      simp only [V.fits] at h
      refine .tup (h1.trans (V.fitsL_len h)) fun i u d hu hd => ?_
      have hi : i < cs.length := by rw [← h1]; exact (Array.getElem?_eq_some_iff.1 hu).1
      have hx : cs[i]? = some cs[i] := by simp [hi]
      exact ih i u _ hu hx (V.fitsL_get h hx hd)
    | _ => simp only [V.fits] at h
  | _ => intro d h; simp only [V.fits] at h

theorem fits_pure {M : FMap} {μ : Mu} {u : Value} {x : V} {d : PD} (r : RV M μ u x) (h : V.fits [] x d) : Rd M u d :=
  fits_sound (fun _ _ _ h => h) (fun id e sz es hb => by simp [boxOf] at hb) r h

/-- What a row reads as, once its cells are known. -/
theorem row_reads {M M' : FMap} {μ : Mu} {w : World} {id : Nat} {e : TypeId} {sz : Nat} {es : List PD} (r : RBox M μ w id (.row e sz es)) (hM : ∀ b o v, M b o = some v → M' b o = some v)
    (hc : ∀ b, (μ id).blk = some b → ∀ o v, w.cell? ⟨b, o, none⟩ = some v → M' b o = some v) : Rd M' (μ id).val (.sl sz es) := by
  cases r with
  | rowN h0 hv =>
    rw [hv]
    exact .sl 0 0 rfl (Nat.le_refl _) (by simp [maxLen]) (fun h => (h rfl).elim) (fun i e h => by simp at h) (fun i e j h => by simp at h) (fun i e j d u h => by simp at h)
  | @row _ _ _ b cap arr h0 hv hh hs hlc hm ho hz hcc =>
    rw [hv]
    have hcell : ∀ j, w.cell? ⟨b, j, none⟩ = arr[j]? := fun j => cell_of_block hh
    refine .sl b 0 rfl hlc hm (fun _ => rfl) hz (fun i e' j he hj => ?_) (fun i e' j d u he hd hu => ?_)
    · have hi := (List.getElem?_eq_some_iff.1 he).1
      have hlt : i * sz + j < arr.size := by
        rw [hs]
        calc i * sz + j < i * sz + sz := by omega
          _ = (i + 1) * sz := by rw [Nat.add_mul, Nat.one_mul]
          _ ≤ cap * sz := Nat.mul_le_mul_right _ (by omega)
      refine ⟨arr[i * sz + j], ?_, ho (i * sz + j) _ (by simp [hlt])⟩
      rw [Nat.zero_add]
      exact hc b h0 _ _ (by rw [hcell]; simp [hlt])
    · rw [Nat.zero_add] at hu
      have hi := (List.getElem?_eq_some_iff.1 he).1
      have hj : j < sz := by rw [← hz i e' he]; exact (List.getElem?_eq_some_iff.1 hd).1
      have hlt : i * sz + j < arr.size := by
        rw [hs]
        calc i * sz + j < i * sz + sz := by omega
          _ = (i + 1) * sz := by rw [Nat.add_mul, Nat.one_mul]
          _ ≤ cap * sz := Nat.mul_le_mul_right _ (by omega)
      have := hc b h0 (i * sz + j) arr[i * sz + j] (by rw [hcell]; simp [hlt])
      rw [this] at hu; cases hu
      exact (hcc i e' j d _ he hd (by simp [hlt])).mono hM

/-- A function that can be called by name. -/
def Callable (P : Program) (f : FuncId) : Prop := ∃ fn c, P.funcs[f]? = some fn ∧ (fn.name == "runtime.NumGoroutine") = false ∧ fn.body = some c

/-- The contract, with the function's being there. -/
def AFn (P : Program) (G : Glob) (f : FuncId) (args : List PD) (r : PD) : Prop := Callable P f ∧ AF P G f args r

theorem run_callFunc {P : Program} {f : FuncId} (h : Callable P f) (vs : Array Value) (w : World) : (callFunc f vs).run P w = .ok (.enter f vs) w := by
  obtain ⟨fn, c, hf, hn, hb⟩ := h
  have hn' : ¬ fn.name = "runtime.NumGoroutine" := by simpa using hn
  simp [callFunc, hf, hn', hb, Sem.run, program]

section
variable {P : Program} {T : Tab} {G : Glob}

/-- A call of a function by its contract. -/
theorem y_call {o : Oper} {st : St} {x : Operand} {args : Array Operand} {tys : Array TypeId} {f : FuncId} {as : List PD} {r : PD} {p : Prop}
    (ho : o.op = .call { callee := .value x, args := args, argTypes := tys }) (hf : st.arg G x = (p, .p (.fn f))) (hp : p) (hc : AFn P G f as r)
    {q : List Prop} {ys : List V} (hargs : args.toList.map (st.arg G) = q.zip ys) (hlen : q.length = ys.length) (hq : ∀ p ∈ q, p) (hfit : V.fitsL [] ys as) : Yields P G o st (.p r) st := by
  intro c M μ tmps w hg rel
  have h1 := (arg_sound hg rel hf hp).p_inv
  generalize hu : Act.eval ⟨tmps, []⟩ x = u at h1
  cases h1
  have hsize : args.size = ys.length := by
    have := congrArg List.length hargs
    simpa [List.length_zip, hlen] using this
  have e : (execOp (Act.eval ⟨tmps, []⟩) o).run P w = .ok (.enter f (args.map (Act.eval ⟨tmps, []⟩))) w := by
    simp [execOp, ho, resolve, Deferred.ofValue, hu, invoke, run_callFunc hc.1]
  rw [e]
  have hrd : ∀ (i : Nat) u d, (args.map (Act.eval ⟨tmps, []⟩))[i]? = some u → as[i]? = some d → Rd M u d := by
    intro i u d hu hd
    rw [Array.getElem?_map] at hu
    obtain ⟨y, hy, rfl⟩ := Option.map_eq_some_iff.1 hu
    have hi : i < args.size := (Array.getElem?_eq_some_iff.1 hy).1
    have h2 : (args.toList.map (st.arg G))[i]? = some (st.arg G y) := by simp [hy]
    rw [hargs] at h2
    have hiq : i < q.length := by omega
    have hiy : i < ys.length := by omega
    have h3 : (q.zip ys)[i]? = some (q[i], ys[i]) := by simp [List.getElem?_zip_eq_some, hiq, hiy]
    rw [h3] at h2
    cases h2e : st.arg G y with
    | mk a b =>
    rw [h2e] at h2
    cases h2
    have hv := arg_sound hg rel h2e (hq _ (List.getElem_mem hiq))
    exact fits_pure hv (V.fitsL_get hfit (by simp [hiy]) hd)
  have hfl := V.fitsL_len hfit
  refine (hc.2 M w _ (hg.mono rel.ext) rel.mem (by simp [hsize, hfl]) hrd).mono ?_
  rintro e w' ⟨v, M', rfl, hv, hmem, hM, hold, hbel⟩
  exact ⟨v, rfl, M', μ, rel.grows (Grows.of_below hbel) hM hmem hold, .p hv⟩

/-- The values of the results. -/
def resV (T : Tab) (st : St) : List ResultVar → Option (Prop × List V)
  | [] => some (True, [])
  | .tmp t :: r => match resV T st r with
    | some (p, l) => some (p, st.tmps.getD t .dead :: l)
    | none => none
  | .cell a t :: r => match loadV T st t (st.tmps.getD a .dead) [], resV T st r with
    | some (q, x, _), some (p, l) => some (q ∧ p, x :: l)
    | _, _ => none

def resOne (tmps : Array Value) : ResultVar → Sem Value
  | .tmp t => pure (tmps.getD t undef)
  | .cell a t => do loadVar t (← asAddr (tmps.getD a undef))
theorem res_run (hT : TOK P T) {c : Ctx} {M : FMap} {μ : Mu} {st : St} {tmps : Array Value} {w : World} (r : Rel c M μ st tmps w) : ∀ (rs : List ResultVar) (p : Prop) (l : List V),
    resV T st rs = some (p, l) → p → ∃ us : List Value, (rs.mapM (resOne tmps)).run P w = .ok us w ∧ us.length = l.length ∧ ∀ (i : Nat) u x, us[i]? = some u → l[i]? = some x → RV M μ u x
  | [], p, l, h, hp => by
    simp only [resV, Option.some.injEq, Prod.mk.injEq] at h
    obtain ⟨rfl, rfl⟩ := h
    exact ⟨[], by simp, rfl, fun i u x hu => by simp at hu⟩
  | .tmp t :: rs, p, l, h, hp => by
    simp only [resV] at h
    split at h
    · rename_i p' l' h'
      simp only [Option.some.injEq, Prod.mk.injEq] at h
      obtain ⟨rfl, rfl⟩ := h
      obtain ⟨us, e, hl, hr⟩ := res_run hT r rs _ _ h' hp
      refine ⟨tmps.getD t undef :: us, ?_, by simp [hl], fun i u x hu hx => ?_⟩
      · simp only [List.mapM_cons, resOne, Sem.run_bind, Sem.run_pure, Result.andThen_ok]
        rw [e]
        rfl
      · cases i with
        | zero =>
          simp at hu hx
          subst hu; subst hx
          have := ev_sound (G := fun _ => none) (fun g cs h => by cases h) r (.tmp t)
          simpa [Act.eval, St.ev] using this
        | succ i => simp at hu hx; exact hr i u x hu hx
    · cases h
  | .cell a t :: rs, p, l, h, hp => by
    simp only [resV] at h
    split at h
    · rename_i q x o' p' l' hld h'
      simp only [Option.some.injEq, Prod.mk.injEq] at h
      obtain ⟨rfl, rfl⟩ := h
      obtain ⟨us, e, hl, hr⟩ := res_run hT r rs _ _ h' hp.2
      have ha : RV M μ (tmps.getD a undef) (st.tmps.getD a .dead) := by
        have := ev_sound (G := fun _ => none) (fun g cs h => by cases h) r (.tmp a)
        simpa [Act.eval, St.ev] using this
      obtain ⟨v, ev, hv⟩ := load_run hT r hld hp.1 ha
      have hadr : ∃ ad, tmps.getD a undef = .pointer (some ad) := by
        generalize tmps.getD a undef = u at *
        generalize st.tmps.getD a V.dead = y at *
        unfold loadV at hld
        split at hld
        · cases hld
        · split at hld
          · cases ha; exact ⟨_, rfl⟩
          · cases ha; exact ⟨_, rfl⟩
          · cases ha; exact ⟨_, rfl⟩
          · cases hld
      obtain ⟨ad, had⟩ := hadr
      have e2 : (do loadVar t (← asAddr (tmps.getD a undef)) : Sem Value).run P w = .ok v w := by
        rw [had] at ev ⊢
        have : (Instr.loadAt t (.pointer (some ad))) = loadVar t ad := rfl
        rw [this] at ev
        simp [asAddr, ev]
      refine ⟨v :: us, ?_, by simp [hl], fun i u y hu hy => ?_⟩
      · simp only [List.mapM_cons, resOne]
        rw [Sem.run_bind, e2]
        simp only [Result.andThen_ok, Sem.run_bind]
        rw [e]
        rfl
      · cases i with
        | zero => simp at hu hy; subst hu; subst hy; exact hv
        | succ i => simp at hu hy; exact hr i u y hu hy
    · cases h

def tupV : List V → V
  | [x] => x
  | l => .tuple l

/-- What a contract asks of the function's end. -/
def Fin (T : Tab) (rs : List ResultVar) (r : PD) (e : Exit) (st : St) : Prop :=
  (e = .normal ∨ e = .ret) ∧ ∃ p l, resV T st rs = some (p, l) ∧ p ∧ V.fits st.H (tupV l) r

def St.start (n : Nat) (args : List PD) : St := ⟨args.map .p ++ List.replicate (n - args.length) .dead, [], [], 0⟩

theorem results_run (hT : TOK P T) {c : Ctx} {M : FMap} {μ : Mu} {st : St} {tmps : Array Value} {w : World} (r : Rel c M μ st tmps w) {fn : Func} {p : Prop} {l : List V}
    (h : resV T st fn.results.toList = some (p, l)) (hp : p) : ∃ v, (results fn tmps).run P w = .ok v w ∧ RV M μ v (tupV l) := by
  obtain ⟨us, e, hl, hr⟩ := res_run hT r _ _ _ h hp
  have e0 : results fn tmps = (do let vs ← fn.results.mapM (resOne tmps); pure (if h : vs.size = 1 then vs[0] else .tuple vs)) := by
    unfold results
    congr 1
  have e2 : (fn.results.mapM (resOne tmps)).run P w = .ok us.toArray w := by
    rw [Array.mapM_eq_mapM_toList]
    show (Functor.map List.toArray _ : Sem _).run P w = _
    rw [map_eq_pure_bind, Sem.run_bind, e]
    rfl
  have e3 : (results fn tmps).run P w = .ok (if h : us.toArray.size = 1 then us.toArray[0] else .tuple us.toArray) w := by
    rw [e0, Sem.run_bind, e2]
    rfl
  refine ⟨_, e3, ?_⟩
  match l, us, hl, hr with
  | [], [], _, hr => exact .tuple rfl fun i u x hu => by simp at hu
  | [x], [u], _, hr => simpa [tupV] using hr 0 u x rfl rfl
  | x :: y :: l, u :: v :: us, hl, hr =>
    simp only [List.size_toArray, List.length_cons, tupV]
    rw [dif_neg (by omega)]
    exact .tuple (by simpa using hl) fun i a b ha hb => hr i a b (by simpa using ha) hb

/-- HOW A CONTRACT IS PROVED: through the body, from the arguments on. -/
theorem AFn.intro (hT : TOK P T) {f : FuncId} {fn : Func} {c : Code} {args : List PD} {r : PD} (hf : P.funcs[f]? = some fn) (hn : (fn.name == "runtime.NumGoroutine") = false) (hb : fn.body = some c)
    (h : AW P G c (Fin T fn.results.toList r) (St.start fn.ntmps args)) : AFn P G f args r := by
  refine ⟨⟨fn, c, hf, hn, hb⟩, fun M w vs hg hmem hsz hrd => ?_⟩
  refine calls_of_wp hf hb ?_
  have hrel : Rel ⟨w.heap.size, w, M, fun _ => ⟨none, undef⟩, fun _ => False⟩ M (fun _ => ⟨none, undef⟩) (St.start fn.ntmps args) (vs ++ Array.replicate (fn.ntmps - vs.size) undef) w := by
    refine ⟨hmem, fun _ _ _ h => h, fun _ _ _ => rfl, ⟨by simp [St.start, hsz], fun i u x hu hx => ?_⟩, fun i hi => (by cases hi), fun id bx h => by simp [St.start] at h, by simp [St.start], fun i j b h => by simp [St.start, keyIn] at h,
      fun i b h => by simp [St.start, keyIn] at h, Nat.le_refl _, Kept.refl _ _⟩
    simp only [St.start] at hx
    rw [List.getElem?_append] at hx
    split at hx
    · rename_i hi
      rw [List.getElem?_map] at hx
      obtain ⟨d, hd, rfl⟩ := Option.map_eq_some_iff.1 hx
      have hi' : i < vs.size := by rw [hsz]; simpa using hi
      rw [Array.getElem?_append_left hi'] at hu
      exact .p (hrd i u d hu hd)
    · have : x = .dead := by
        have := List.mem_of_getElem? hx
        exact (List.mem_replicate.1 this).2
      subst this
      exact .dead
  refine wp_mono (h _ M _ _ w hg hrel) ?_
  rintro e a w' ⟨st, M', μ', r', hd, hfin⟩
  obtain ⟨he, p, l, hres, hp, hfit⟩ := hfin
  obtain ⟨v, hv, hrv⟩ := results_run hT r' hres hp
  -- all that is the call's own is read as it now is
  let M2 : FMap := fun b o => if b < w.heap.size then M' b o else w'.cell? ⟨b, o, none⟩
  have hM2 : ∀ b o v, M' b o = some v → M2 b o = some v := by
    intro b o v hv
    show (if b < w.heap.size then M' b o else w'.cell? ⟨b, o, none⟩) = some v
    split
    · exact hv
    · exact r'.mem b o v hv
  have hfin2 : ∃ u M'', Ending.returned v = .returned u ∧ Rd M'' u r ∧ (∀ b o v, M'' b o = some v → w'.cell? ⟨b, o, none⟩ = some v) ∧ (∀ b o v, M b o = some v → M'' b o = some v) ∧
      (∀ b o, b < w.heap.size → M'' b o = M b o) ∧ RowKit.Below w.heap.size w w' := by
    refine ⟨v, M2, rfl, fits_sound hM2 (fun id e sz es hb => ?_) hrv hfit, fun b o v hv => ?_, fun b o v hv => hM2 b o v (r'.ext b o v hv), fun b o hb => ?_, ⟨r'.below.os, r'.below.tape, r'.below.output, r'.below.size, fun k hk => r'.below.block k fun h => h.elim (fun h => Nat.not_lt.2 h hk) fun h => h⟩⟩
    · have hm := boxOf_mem hb
      refine row_reads (r'.box id _ hm) hM2 fun b hbk o v hv => ?_
      have := (r'.own id b (keyIn_iff.2 ⟨_, hm⟩) hbk).1.resolve_right fun h => h
      show (if b < w.heap.size then M' b o else w'.cell? ⟨b, o, none⟩) = some v
      rw [if_neg (by exact Nat.not_lt.2 this)]
      exact hv
    · have hv' : (if b < w.heap.size then M' b o else w'.cell? ⟨b, o, none⟩) = some v := hv
      split at hv'
      · exact r'.mem b o v hv'
      · exact hv'
    · show (if b < w.heap.size then M' b o else w'.cell? ⟨b, o, none⟩) = M b o
      rw [if_pos hb]
      exact r'.old b o fun h => h.elim (fun h => Nat.not_lt.2 h hb) fun h => h
  rcases he with rfl | rfl
  · exact ⟨hd, v, hv, hfin2⟩
  · exact ⟨hd, v, hv, hfin2⟩
end
end Go.Proofs.YtdploelkmlbhnaaDoor.Sy
