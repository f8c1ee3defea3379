/-
  OUR OWN LAYER, 8: 'quiet' is sound.
-/
import Derived.Test.YtdploelkmlbhnaaDoorCore7
namespace Go.Proofs.YtdploelkmlbhnaaDoor.Sy
open Go

theorem foldSet (off : Nat) : ∀ (l : List Value) (s : Nat) (arr : Array Value),
    ((l.zipIdx s).foldl (fun cs (x : Value × Nat) => cs.setIfInBounds (off + x.2) x.1) arr).size = arr.size ∧
      ∀ k, ((l.zipIdx s).foldl (fun cs (x : Value × Nat) => cs.setIfInBounds (off + x.2) x.1) arr)[k]? = if off + s ≤ k ∧ k < off + s + l.length ∧ k < arr.size then l[k - (off + s)]? else arr[k]?
  | [], s, arr => by
    refine ⟨rfl, fun k => ?_⟩
    rw [if_neg (by simp; omega)]
    rfl
  | v :: l, s, arr => by
    obtain ⟨h1, h2⟩ := foldSet off l (s + 1) (arr.setIfInBounds (off + s) v)
    refine ⟨by simpa using h1, fun k => ?_⟩
    simp only [List.zipIdx_cons, List.foldl_cons]
    rw [h2 k]
    simp only [Array.size_setIfInBounds, List.length_cons]
    by_cases hk : k = off + s
    · subst hk
      rw [if_neg (by omega), Array.getElem?_setIfInBounds_self]
      by_cases hlt : off + s < arr.size
      · rw [if_pos hlt, if_pos ⟨by omega, by omega, hlt⟩]
        simp
      · rw [if_neg hlt, if_neg (by omega)]
        simp [Array.getElem?_eq_none (Nat.le_of_not_lt hlt)]
    · rw [Array.getElem?_setIfInBounds_ne (by omega)]
      by_cases hc : off + (s + 1) ≤ k ∧ k < off + (s + 1) + l.length ∧ k < arr.size
      · rw [if_pos hc, if_pos ⟨by omega, by omega, hc.2.2⟩]
        rw [show k - (off + s) = (k - (off + (s + 1))) + 1 from by omega]
        simp
      · rw [if_neg hc, if_neg (by omega)]

/-- Cells in hand: as many, each one cell, each as told. -/
structure Cells (M : FMap) (μ : Mu) (arr : Array Value) (cs : List V) : Prop where
  size : arr.size = cs.length
  one : ∀ (i : Nat) u, arr[i]? = some u → u.oneCell' = true
  get : ∀ (i : Nat) u x, arr[i]? = some u → cs[i]? = some x → RV M μ u x

theorem getElem?_splice (l xs : List V) (o k : Nat) (h : o + xs.length ≤ l.length) : (splice l o xs)[k]? = if o ≤ k ∧ k < o + xs.length then xs[k - o]? else l[k]? := by
  unfold splice
  have hto : (l.take o).length = o := by simp; omega
  rw [List.append_assoc, List.getElem?_append, hto]
  by_cases h1 : k < o
  · rw [if_pos h1, if_neg (by omega), List.getElem?_take, if_pos h1]
  · rw [if_neg h1, List.getElem?_append]
    by_cases h2 : k - o < xs.length
    · rw [if_pos h2, if_pos ⟨by omega, by omega⟩]
    · rw [if_neg h2, if_neg (by omega), List.getElem?_drop]
      congr 1; omega

theorem Cells.splice {M : FMap} {μ : Mu} {arr : Array Value} {cs : List V} (h : Cells M μ arr cs) {us : Array Value} {xs : List V} (hu : Cells M μ us xs) {o : Nat} (ho : o + xs.length ≤ cs.length) :
    Cells M μ (us.zipIdx.foldl (fun (cs : Array Value) (x : Value × Nat) => match x with | (c, j) => cs.setIfInBounds (o + j) c) arr) (Sy.splice cs o xs) := by
  have e : (us.zipIdx.foldl (fun (cs : Array Value) (x : Value × Nat) => match x with | (c, j) => cs.setIfInBounds (o + j) c) arr) =
      ((us.toList.zipIdx 0).foldl (fun cs (x : Value × Nat) => cs.setIfInBounds (o + x.2) x.1) arr) := by
    rw [← Array.foldl_toList]
    simp
  rw [e]
  obtain ⟨h1, h2⟩ := foldSet o us.toList 0 arr
  have hsz := h.size
  have hus := hu.size
  refine ⟨?_, fun i u hi => ?_, fun i u x hi hx => ?_⟩
  · rw [h1, hsz]; simp [Sy.splice]; omega
  · rw [h2 i] at hi
    split at hi
    · exact hu.one _ u (by simpa using hi)
    · exact h.one i u hi
  · rw [h2 i] at hi
    rw [getElem?_splice cs xs o i ho] at hx
    simp only [Nat.add_zero, Array.length_toList, hus, hsz] at hi
    split at hi
    · rename_i hc
      rw [if_pos ⟨hc.1, hc.2.1⟩] at hx
      exact hu.get _ u x (by simpa using hi) hx
    · rename_i hc
      by_cases hc2 : o ≤ i ∧ i < o + xs.length
      · omega
      · rw [if_neg hc2] at hx
        exact h.get i u x hi hx

section
variable {P : Program} {T : Tab} {G : Glob} {c : Ctx} {M : FMap} {μ : Mu} {st : St} {tmps : Array Value} {w : World}

theorem Cells.of {u : Value} {x : V} {xs : List V} (hu : RV M μ u x) (h : x.cells = some xs) : Cells M μ u.cells xs :=
  let ⟨h1, h2, h3⟩ := cells_sound hu h; ⟨h1, h2, h3⟩

theorem build_run (hT : TOK P T) (hg : GOK G c.M0) (r : Rel c M μ st tmps w) {fs : List (Nat × TypeId)} {places : Array (Nat × Nat)}
    (hp : ∀ (i o : Nat) t ti, fs[i]? = some (o, t) → T t = some ti → places[i]? = some (o, ti.size)) :
    ∀ (parts : List (Nat × Operand)) (p : Prop) (cs : List V) (arr : Array Value) (q : Prop) (cs' : List V), Cells M μ arr cs → buildV T st G fs parts p cs = some (q, cs') → q →
      p ∧ ∃ arr', Instr.fill (places[·]?) arr (parts.map fun x => (x.1, Act.eval ⟨tmps, []⟩ x.2)) = some arr' ∧ Cells M μ arr' cs'
  | [], p, cs, arr, q, cs', hc, h, hq => by
    simp only [buildV, Option.some.injEq, Prod.mk.injEq] at h
    obtain ⟨rfl, rfl⟩ := h
    exact ⟨hq, arr, rfl, hc⟩
  | (i, x) :: rest, p, cs, arr, q, cs', hc, h, hq => by
    simp only [buildV] at h
    split at h
    · cases h
    · rename_i o t hf
      have harg : st.arg G x = ((st.arg G x).1, (st.arg G x).2) := rfl
      generalize (st.arg G x).1 = pq at *
      generalize (st.arg G x).2 = v at *
      split at h
      · rename_i xs ti hxs hti
        -- the rest first: it tells that the condition holds
        have key : ∀ (arr2 : Array Value), Cells M μ arr2 (Sy.splice cs o xs) → (p ∧ pq ∧ xs.length = ti.size ∧ o + xs.length ≤ cs.length) ∧
            ∃ arr', Instr.fill (places[·]?) arr2 (rest.map fun x => (x.1, Act.eval ⟨tmps, []⟩ x.2)) = some arr' ∧ Cells M μ arr' cs' := fun arr2 h2 => build_run hT hg r hp rest _ _ arr2 q cs' h2 h hq
        have hcond : p ∧ pq ∧ xs.length = ti.size ∧ o + xs.length ≤ cs.length := by
          have : ∀ (rest : List (Nat × Operand)) (p : Prop) (cs : List V), buildV T st G fs rest p cs = some (q, cs') → p := by
            intro rest
            induction rest with
            | nil => intro p cs h; simp only [buildV, Option.some.injEq, Prod.mk.injEq] at h; obtain ⟨rfl, _⟩ := h; exact hq
            | cons y ys ih =>
              obtain ⟨i, x⟩ := y
              intro p cs h
              simp only [buildV] at h
              split at h
              · cases h
              · split at h
                · exact (ih _ _ h).1
                · cases h
          exact this _ _ _ h
        have hv := arg_sound hg r harg hcond.2.1
        have hcu := Cells.of hv hxs
        have h2 := key _ (hc.splice hcu hcond.2.2.2)
        refine ⟨hcond.1, ?_⟩
        obtain ⟨_, arr', h3, h4⟩ := h2
        refine ⟨arr', ?_, h4⟩
        simp only [List.map_cons, Instr.fill]
        rw [hp i o t ti hf hti]
        simp only
        have e1 : (Act.eval ⟨tmps, []⟩ x).cells.size = ti.size := by rw [hcu.size, hcond.2.2.1]
        rw [if_neg (by simp [e1]; rw [hc.size, ← hcond.2.2.1]; exact hcond.2.2.2)]
        exact h3
      · cases h

theorem arr_of {α : Type} {arr : Array α} {l : List α} (h : arr.toList = l) : arr = l.toArray := by subst h; simp
theorem places_of (hT : TOK P T) : ∀ (l : List Field), (l.map (fun f => (f.offset, f.type))).all (fun f => (T f.2).isSome) = true →
    ∃ places, l.mapM (fun f => (P.info? f.type).map fun i => (f.offset, i.size)) = some places ∧
      ∀ (i o : Nat) t ti, (l.map fun f => (f.offset, f.type))[i]? = some (o, t) → T t = some ti → places[i]? = some (o, ti.size)
  | [], _ => ⟨[], by simp, fun i o t ti h => by simp at h⟩
  | f :: l, h => by
    simp only [List.map_cons, List.all_cons, Bool.and_eq_true] at h
    obtain ⟨pl, h1, h2⟩ := places_of hT l h.2
    obtain ⟨ti, hti⟩ := Option.isSome_iff_exists.1 h.1
    obtain ⟨i, d, hi, _, _, hsz, _⟩ := hT.get hti
    refine ⟨(f.offset, ti.size) :: pl, ?_, fun j o t ti' hj ht => ?_⟩
    · simp [List.mapM_cons, hi, h1, hsz]
    · cases j with
      | zero =>
        simp only [List.map_cons, List.getElem?_cons_zero, Option.some.injEq, Prod.mk.injEq] at hj
        obtain ⟨rfl, rfl⟩ := hj
        rw [hti] at ht; cases ht
        simp
      | succ j => simpa using h2 j o t ti' (by simpa using hj) ht

theorem quiet_sound (hT : TOK P T) (hg : GOK G c.M0) (r : Rel c M μ st tmps w) {o : Oper} {orc orc' : List PD} {v : Prop} {x : V} (h : quiet T G st o.op orc = some (v, x, orc')) (hv : v) :
    ∃ u, (execOp (Act.eval ⟨tmps, []⟩) o).run P w = .ok (.value u) w ∧ RV M μ u x := by
  obtain ⟨dst, op, ty, pos, after, guard⟩ := o
  simp only at h
  unfold quiet at h
  split at h
  · cases h; exact ⟨_, rfl, ev_sound hg r _⟩
  · cases h; exact ⟨_, rfl, ev_sound hg r _⟩
  · rename_i cc a b
    split at h
    · rename_i p t pa da pb db h1 h2 h3
      simp only [Option.some.injEq, Prod.mk.injEq] at h
      obtain ⟨rfl, rfl, rfl⟩ := h
      obtain ⟨hp, hpa, hpb⟩ := hv
      have e1 := (arg_sound hg r h1 hp).p_inv
      generalize hu1 : Act.eval ⟨tmps, []⟩ cc = u1 at e1
      cases e1
      cases t with
      | true =>
        refine ⟨Act.eval ⟨tmps, []⟩ a, by simp [execOp, hu1, asBool], .p (Rd.ite (fun _ => (arg_sound hg r h2 (hpa rfl)).p_inv) (fun e => by cases e))⟩
      | false =>
        refine ⟨Act.eval ⟨tmps, []⟩ b, by simp [execOp, hu1, asBool], .p (Rd.ite (fun e => by cases e) (fun _ => (arg_sound hg r h3 (hpb rfl)).p_inv))⟩
    · cases h
  · rename_i u t y
    split at h
    · rename_i p b h1
      simp only [Option.some.injEq, Prod.mk.injEq] at h
      obtain ⟨rfl, rfl, rfl⟩ := h
      have e1 := (arg_sound hg r h1 hv).p_inv
      generalize hu1 : Act.eval ⟨tmps, []⟩ y = u1 at e1
      cases e1
      exact ⟨_, by simp [execOp, hu1, Op.unary], .p (.bool _)⟩
    · rename_i p k n h1
      simp only [Option.some.injEq, Prod.mk.injEq] at h
      obtain ⟨rfl, rfl, rfl⟩ := h
      have e1 := (arg_sound hg r h1 hv).p_inv
      generalize hu1 : Act.eval ⟨tmps, []⟩ y = u1 at e1
      cases e1
      exact ⟨_, by simp only [execOp, hu1, Op.unary, Op.intArith]; rfl, .p (Rd.wrap M k _)⟩
    · cases h
  · rename_i bo t a b ty2
    split at h
    · rename_i p da q db h1 h2
      split at h
      · rename_i vv d hb
        simp only [Option.some.injEq, Prod.mk.injEq] at h
        obtain ⟨rfl, rfl, rfl⟩ := h
        obtain ⟨hp, hq, hvv⟩ := hv
        obtain ⟨y, e, hy⟩ := bin_run hT hb hvv (arg_sound hg r h1 hp).p_inv (arg_sound hg r h2 hq).p_inv a b w
        refine ⟨y, ?_, .p hy⟩
        simp only [execOp]
        rw [Sem.run_bind, e]
        rfl
      · cases h
    · cases h
  · rename_i s d a
    split at h
    · rename_i p da h1
      split at h
      · rename_i vv rr hc
        simp only [Option.some.injEq, Prod.mk.injEq] at h
        obtain ⟨rfl, rfl, rfl⟩ := h
        obtain ⟨y, e, hy⟩ := conv_run hT hc (arg_sound hg r h1 hv.1).p_inv w
        exact ⟨y, by simp [execOp, e], .p hy⟩
      · cases h
    · cases h
  · rename_i a i
    split at h
    · rename_i p ds h1
      split at h
      · rename_i d hd
        simp only [Option.some.injEq, Prod.mk.injEq] at h
        obtain ⟨rfl, rfl, rfl⟩ := h
        have e1 := (arg_sound hg r h1 hv).p_inv
        generalize hu1 : Act.eval ⟨tmps, []⟩ a = u1 at e1
        cases e1 with
        | @tup arr _ hs hr =>
        have hi : i < arr.size := by rw [hs]; exact (List.getElem?_eq_some_iff.1 hd).1
        exact ⟨arr[i], by simp [execOp, hu1, Instr.extract, hi], .p (hr i _ _ (by simp [hi]) hd)⟩
      · cases h
    · rename_i p vs h1
      split at h
      · rename_i y hd
        simp only [Option.some.injEq, Prod.mk.injEq] at h
        obtain ⟨rfl, rfl, rfl⟩ := h
        have e1 := arg_sound hg r h1 hv
        generalize hu1 : Act.eval ⟨tmps, []⟩ a = u1 at e1
        cases e1 with
        | @tuple arr _ hs hr =>
        have hi : i < arr.size := by rw [hs]; exact (List.getElem?_eq_some_iff.1 hd).1
        exact ⟨arr[i], by simp [execOp, hu1, Instr.extract, hi], hr i _ _ (by simp [hi]) hd⟩
      · cases h
    · cases h
  · rename_i t a i
    split at h
    · rename_i p s q k n cc orc2 hk h1 h2
      simp only [Option.some.injEq, Prod.mk.injEq] at h
      obtain ⟨rfl, rfl, rfl⟩ := h
      obtain ⟨hp, hq, hn, hc⟩ := hv
      have hd := hT.str hk
      have e1 := (arg_sound hg r h1 hp).p_inv
      have e2 := (arg_sound hg r h2 hq).p_inv
      generalize hu1 : Act.eval ⟨tmps, []⟩ a = u1 at e1
      generalize hu2 : Act.eval ⟨tmps, []⟩ i = u2 at e2
      cases e1 with
      | @str ba _ hs hm =>
      cases e2
      obtain ⟨bb, hbb, rfl⟩ := Option.map_eq_some_iff.1 hc
      have hlt : n.toNat < ba.size := by rw [str_size hs]; exact (List.getElem?_eq_some_iff.1 hbb).1
      have hget : ba[n.toNat]? = some bb := by
        have : ba.data.toList[n.toNat]? = some bb := by rw [hs]; exact hbb
        rw [Array.getElem?_toList] at this
        have e : ba[n.toNat]? = some ba[n.toNat] := by simp [hlt]
        rw [e]
        have hlt' : n.toNat < ba.data.size := hlt
        rw [Array.getElem?_eq_getElem hlt'] at this
        exact this
      refine ⟨.int .u8 bb.toNat, ?_, .p (Rd.intOf ?_ ?_)⟩
      · simp [execOp, hu1, hu2, Instr.index, asIntOf, run_underlying hd, hn, hget]
      · simp [kmin]
      · have := bb.toNat_lt; simp only [kmax]; omega
    · cases h
  · rename_i t a i
    split at h
    · rename_i el p sz es q k n hk h1 h2
      split at h
      · rename_i e orc2
        simp only [Option.some.injEq, Prod.mk.injEq] at h
        obtain ⟨rfl, rfl, rfl⟩ := h
        obtain ⟨hp, hq, hn, he, hsz⟩ := hv
        have hd := hT.sl hk
        obtain ⟨ti, hti, rfl⟩ := Option.map_eq_some_iff.1 hsz
        obtain ⟨ie, de, hi', _, _, hsz', _⟩ := hT.get hti
        have e1 := (arg_sound hg r h1 hp).p_inv
        have e2 := (arg_sound hg r h2 hq).p_inv
        generalize hu1 : Act.eval ⟨tmps, []⟩ a = u1 at e1
        generalize hu2 : Act.eval ⟨tmps, []⟩ i = u2 at e2
        cases e1 with
        | @sl ad nn cp _ _ b off hn' hnc hcm ha hz hex hrd =>
        cases e2
        have hlt := (List.getElem?_eq_some_iff.1 he).1
        have had := ha (by omega)
        subst had
        have hso : (sizeOf el).run P w = .ok ti.size w := by simp [sizeOf, typeInfo, hi', hsz']
        have hlen : e.cells.length = ti.size := hz _ e he
        refine ⟨.pointer (some ⟨b, off + n.toNat * ti.size, none⟩), ?_, .cptr (fun j d hd' => ?_) (fun j d u hd' hu' => ?_)⟩
        · have hb : n < nn := by omega
          simp [execOp, hu1, hu2, Instr.indexAt, asIntOf, run_underlying hd, hn, hb, hso, add_eq]
        · obtain ⟨u, hu, hone⟩ := hex n.toNat e j he (by rw [← hlen]; exact (List.getElem?_eq_some_iff.1 hd').1)
          exact ⟨u, hu, hone⟩
        · exact hrd n.toNat e j d u he hd' hu'
      · cases h
    · rename_i el p id q k n hk h1 h2
      split at h
      · rename_i e sz es ti hb hti
        simp only [Option.some.injEq, Prod.mk.injEq] at h
        obtain ⟨rfl, rfl, rfl⟩ := h
        obtain ⟨hp, hq, hn, he, rfl⟩ := hv
        have hd := hT.sl hk
        obtain ⟨ie, de, hi', _, _, hsz', _⟩ := hT.get hti
        have e1 := arg_sound hg r h1 hp
        have e2 := (arg_sound hg r h2 hq).p_inv
        generalize hu1 : Act.eval ⟨tmps, []⟩ a = u1 at e1
        generalize hu2 : Act.eval ⟨tmps, []⟩ i = u2 at e2
        cases e1 with
        | ms hval _ =>
        cases e2
        have hbx := r.box id _ (boxOf_mem hb)
        cases hbx with
        | rowN h0 hv0 => simp at he
        | @row _ _ _ bk cap arr h0 hv0 hh hs hlc hm ho hz hc =>
        rw [hv0] at hval
        subst hval
        have hso : (sizeOf el).run P w = .ok ti.size w := by simp [sizeOf, typeInfo, hi', hsz']
        refine ⟨.pointer (some ⟨bk, n.toNat * ti.size + 0, none⟩), ?_, .rptr h0⟩
        have hb : n < es.length := by omega
        simp [execOp, hu1, hu2, Instr.indexAt, asIntOf, run_underlying hd, hn, hb, hso, add_eq]
      · cases h
    · cases h
  · rename_i t a f
    split at h
    · rename_i fs _ _ _ _ p vv hti h1
      split at h
      · cases h
      · rename_i off ft hf
        split at h
        · cases h
        · rename_i ti hft
          split at h
          · cases h
          · rename_i m hm
            obtain ⟨i0, d0, _, hd, hd2, _⟩ := hT.get hti
            obtain ⟨l, rfl, hl⟩ := TK.of_st hd2
            subst hl
            obtain ⟨ie, de, hi', _, _, hsz', _⟩ := hT.get hft
            rw [List.getElem?_map] at hf
            obtain ⟨fd, hfd, hfe⟩ := Option.map_eq_some_iff.1 hf
            cases hfe
            rw [Array.getElem?_toList] at hfd
            have hso : (sizeOf fd.type).run P w = .ok ti.size w := by simp [sizeOf, typeInfo, hi', hsz']
            have go : ∀ (b o : Nat), Act.eval ⟨tmps, []⟩ a = .pointer (some ⟨b, o, none⟩) →
                (execOp (Act.eval ⟨tmps, []⟩) ⟨dst, .fieldAddr t a f, ty, pos, after, guard⟩).run P w = .ok (.value (.pointer (some ⟨b, o + fd.offset, none⟩))) w := by
              intro b o hu
              simp [execOp, hu, Instr.fieldAt, run_underlying hd, hfd, Instr.sureAddr, fieldPlace, hso, hm, add_eq]
            split at h
            · rename_i cs
              simp only [Option.some.injEq, Prod.mk.injEq] at h
              obtain ⟨rfl, rfl, rfl⟩ := h
              have e1 := arg_sound hg r h1 hv
              generalize hu1 : Act.eval ⟨tmps, []⟩ a = u1 at e1
              cases e1 with
              | @cptr b o _ k1 k2 =>
              refine ⟨_, go b o hu1, .cptr (fun j d hd' => ?_) (fun j d u hd' hu' => ?_)⟩
              · rw [List.getElem?_drop] at hd'
                have := k1 _ d hd'
                rw [← Nat.add_assoc] at this
                exact this
              · rw [List.getElem?_drop] at hd'
                exact k2 _ d u hd' (by rw [← Nat.add_assoc]; exact hu')
            · rename_i id o
              simp only [Option.some.injEq, Prod.mk.injEq] at h
              obtain ⟨rfl, rfl, rfl⟩ := h
              have e1 := arg_sound hg r h1 hv
              generalize hu1 : Act.eval ⟨tmps, []⟩ a = u1 at e1
              cases e1 with
              | ptr hb => exact ⟨_, go _ o hu1, .ptr hb⟩
            · rename_i id j sz o
              simp only [Option.some.injEq, Prod.mk.injEq] at h
              obtain ⟨rfl, rfl, rfl⟩ := h
              have e1 := arg_sound hg r h1 hv
              generalize hu1 : Act.eval ⟨tmps, []⟩ a = u1 at e1
              cases e1 with
              | rptr hb =>
              refine ⟨_, go _ _ hu1, ?_⟩
              rw [Nat.add_assoc]
              exact .rptr hb
            · cases h
    · cases h
  · rename_i t a
    split at h
    rename_i p vv h1
    split at h
    · rename_i q y orc2 hl
      simp only [Option.some.injEq, Prod.mk.injEq] at h
      obtain ⟨rfl, rfl, rfl⟩ := h
      obtain ⟨y', e, hy⟩ := load_run hT r hl hv.2 (arg_sound hg r h1 hv.1)
      exact ⟨y', by simp [execOp, e], hy⟩
    · cases h
  · rename_i a
    split at h
    · rename_i p cs h1
      simp only [Option.some.injEq, Prod.mk.injEq] at h
      obtain ⟨rfl, rfl, rfl⟩ := h
      have e1 := arg_sound hg r h1 hv
      generalize hu1 : Act.eval ⟨tmps, []⟩ a = u1 at e1
      cases e1 with
      | cptr k1 k2 => exact ⟨_, by simp [execOp, hu1], .cptr k1 k2⟩
    · rename_i p id o h1
      simp only [Option.some.injEq, Prod.mk.injEq] at h
      obtain ⟨rfl, rfl, rfl⟩ := h
      have e1 := arg_sound hg r h1 hv
      generalize hu1 : Act.eval ⟨tmps, []⟩ a = u1 at e1
      cases e1 with
      | ptr hb => exact ⟨_, by simp [execOp, hu1], .ptr hb⟩
    · rename_i p id j sz o h1
      simp only [Option.some.injEq, Prod.mk.injEq] at h
      obtain ⟨rfl, rfl, rfl⟩ := h
      have e1 := arg_sound hg r h1 hv
      generalize hu1 : Act.eval ⟨tmps, []⟩ a = u1 at e1
      cases e1 with
      | rptr hb => exact ⟨_, by simp [execOp, hu1], .rptr hb⟩
    · cases h
  · rename_i t a lo hi
    split at h
    · rename_i p vv q l s hh h1 h2 h3
      split at h
      · rename_i cnd y hs
        simp only [Option.some.injEq, Prod.mk.injEq] at h
        obtain ⟨rfl, rfl, rfl⟩ := h
        obtain ⟨hp, hq, hs', hc⟩ := hv
        have b1 := bound_run hg r h2 hq
        have b2 := bound_run hg r h3 hs'
        have b1' : (l = none ∧ lo.map (Act.eval ⟨tmps, []⟩) = none) ∨ ∃ k i, l = some i ∧ lo.map (Act.eval ⟨tmps, []⟩) = some (.int k i) := b1.imp (fun ⟨a, b⟩ => ⟨a, by rw [b]; rfl⟩) id
        have b2' : (hh = none ∧ hi.map (Act.eval ⟨tmps, []⟩) = none) ∨ ∃ k i, hh = some i ∧ hi.map (Act.eval ⟨tmps, []⟩) = some (.int k i) := b2.imp (fun ⟨a, b⟩ => ⟨a, by rw [b]; rfl⟩) id
        obtain ⟨y', e, hy⟩ := slice_run hT hs hc (arg_sound hg r h1 hp) b1' b2' w
        exact ⟨y', by simp [execOp, e], hy⟩
      · cases h
    · cases h
  · rename_i b args argTypes
    split at h
    · rename_i a t ha ht
      have ea : args = #[a] := arr_of ha
      have et : argTypes = #[t] := arr_of ht
      subst ea; subst et
      split at h
      rename_i p vv h1
      split at h
      · rename_i d hl
        simp only [Option.some.injEq, Prod.mk.injEq] at h
        obtain ⟨rfl, rfl, rfl⟩ := h
        obtain ⟨y, e, hy⟩ := len_run hT r hl (arg_sound hg r h1 hv) ty
        refine ⟨y, ?_, .p hy⟩
        simp [execOp, resolve, invoke, builtin, e]
      · cases h
    · rename_i _ a a' ha
      have ea : args = #[a, a'] := arr_of ha
      subst ea
      split at h
      · rename_i p k x1 q k' x2 h1 h2
        split at h
        · rename_i hk
          subst hk
          simp only [Option.some.injEq, Prod.mk.injEq] at h
          obtain ⟨rfl, rfl, rfl⟩ := h
          have e1 := (arg_sound hg r h1 hv.1).p_inv
          have e2 := (arg_sound hg r h2 hv.2).p_inv
          generalize hu1 : Act.eval ⟨tmps, []⟩ a = u1 at e1
          generalize hu2 : Act.eval ⟨tmps, []⟩ a' = u2 at e2
          cases e1 with
          | int k1 k2 =>
          cases e2 with
          | int k3 k4 =>
          refine ⟨.int k (if x2 > x1 then x2 else x1), by simp [execOp, resolve, invoke, builtin, hu1, hu2, Builtin.max_, Builtin.max2], .p (.int ?_ ?_)⟩ <;> split <;> assumption
        · cases h
      · cases h
    · rename_i _ a a' ha
      have ea : args = #[a, a'] := arr_of ha
      subst ea
      split at h
      · rename_i p k x1 q k' x2 h1 h2
        split at h
        · rename_i hk
          subst hk
          simp only [Option.some.injEq, Prod.mk.injEq] at h
          obtain ⟨rfl, rfl, rfl⟩ := h
          have e1 := (arg_sound hg r h1 hv.1).p_inv
          have e2 := (arg_sound hg r h2 hv.2).p_inv
          generalize hu1 : Act.eval ⟨tmps, []⟩ a = u1 at e1
          generalize hu2 : Act.eval ⟨tmps, []⟩ a' = u2 at e2
          cases e1 with
          | int k1 k2 =>
          cases e2 with
          | int k3 k4 =>
          refine ⟨.int k (if x2 < x1 then x2 else x1), by simp [execOp, resolve, invoke, builtin, hu1, hu2, Builtin.min_, Builtin.min2], .p (.int ?_ ?_)⟩ <;> split <;> assumption
        · cases h
      · cases h
    · cases h
  · rename_i fn first cap
    split at h
    · rename_i f hf hc
      simp only [Option.some.injEq, Prod.mk.injEq] at h
      obtain ⟨rfl, rfl, rfl⟩ := h
      have ea : first = #[] := arr_of hf
      have et : cap = #[] := arr_of hc
      subst ea; subst et
      exact ⟨_, by simp [execOp, Instr.makeFunc], .p (.fn f)⟩
    · simp only [Option.some.injEq, Prod.mk.injEq] at h
      obtain ⟨rfl, rfl, rfl⟩ := h
      obtain ⟨f1, f2⟩ := RL.ofArr hg r first
      obtain ⟨c1, c2⟩ := RL.ofArr hg r cap
      exact ⟨_, by simp only [execOp, Instr.makeFunc]; rfl, .func f1 c1 f2 c2⟩
  · rename_i t parts
    split at h
    · rename_i fs _ _ z _ hti
      split at h
      · rename_i zs hz hall
        split at h
        · rename_i p cs hb
          simp only [Option.some.injEq, Prod.mk.injEq] at h
          obtain ⟨rfl, rfl, rfl⟩ := h
          obtain ⟨i0, d0, hi0, hd, hd2, _, _, hzero, _⟩ := hT.get hti
          obtain ⟨l, rfl, hl⟩ := TK.of_st hd2
          subst hl
          obtain ⟨pl, hpl, hpl2⟩ := places_of hT l.toList hall
          cases hzz : i0.zero with
          | none => rw [hzz] at hzero; simp at hzero; subst hzero; simp [V.cells] at hz
          | some z0 =>
            rw [hzz] at hzero
            simp only [Option.map_some, Option.getD_some] at hzero
            subst hzero
            have hc0 := Cells.of (ofConst_sound M μ z0) hz
            obtain ⟨_, arr', hfill, hcells⟩ := build_run hT hg r (places := pl.toArray) (fun i o t ti hi ht => by simpa using hpl2 i o t ti hi ht) parts.toList True zs z0.cells p cs hc0 hb hv
            have hbuilt : P.built t (parts.map fun x => (x.1, Act.eval ⟨tmps, []⟩ x.2)).toList = some arr' := by
              simp only [Program.built, hi0, hd, hzz, hpl]
              rw [Array.toList_map]
              exact hfill
            have := run_build (P := P) w t _ _ hbuilt
            refine ⟨.agg arr', ?_, .agg hcells.size hcells.one hcells.get⟩
            simp only [execOp]
            rw [Sem.run_bind]
            simp only [this]
            rfl
        · cases h
      · cases h
    · cases h
  · cases h
end
end Go.Proofs.YtdploelkmlbhnaaDoor.Sy
