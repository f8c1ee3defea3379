/-
  OUR OWN LAYER, 20: slots told sparsely; what is not looked at any more is forgotten.
-/
import Derived.Test.YtdploelkmlbhnaaDoorCore19
namespace Go.Proofs.YtdploelkmlbhnaaDoor.Sy
open Go

def lookA (i : Nat) : List (Nat × V) → V
  | [] => .dead
  | (j, x) :: r => if j = i then x else lookA i r
def insA (i : Nat) (v : V) : List (Nat × V) → List (Nat × V)
  | [] => [(i, v)]
  | (j, x) :: r => if j = i then (j, v) :: r else (j, x) :: insA i v r
def mapA (f : V → V) : List (Nat × V) → List (Nat × V)
  | [] => []
  | (j, x) :: r => (j, f x) :: mapA f r
def keepA (ks : List Nat) : List (Nat × V) → List (Nat × V)
  | [] => []
  | (j, x) :: r => if ks.contains j then (j, x) :: keepA ks r else keepA ks r
def noRefA (id : Nat) : List (Nat × V) → Bool
  | [] => true
  | (_, x) :: r => V.noRef id x && noRefA id r
def leA (as : List (Nat × V)) : List (Nat × V) → Prop
  | [] => True
  | (j, x) :: r => VLe (lookA j as) x ∧ leA as r
/-- 'n' slots, of which these are known. -/
def upds (n : Nat) (as : List (Nat × V)) : List V := (List.range n).map fun i => lookA i as

@[simp] theorem upds_len (n : Nat) (as : List (Nat × V)) : (upds n as).length = n := by simp [upds]
@[simp] theorem upds_get (n : Nat) (as : List (Nat × V)) (i : Nat) : (upds n as)[i]? = if i < n then some (lookA i as) else none := by
  simp only [upds, List.getElem?_map]
  by_cases h : i < n <;> simp [h]
theorem upds_getD (n : Nat) (as : List (Nat × V)) (i : Nat) : (upds n as).getD i .dead = if i < n then lookA i as else .dead := by
  rw [List.getD_eq_getElem?_getD, upds_get]
  split <;> rfl
@[simp] theorem upds_getElem {n i : Nat} {as : List (Nat × V)} (h : i < (upds n as).length) : (upds n as)[i] = lookA i as := by simp [upds]
theorem lookA_ins (i j : Nat) (v : V) : ∀ as, lookA j (insA i v as) = if i = j then v else lookA j as
  | [] => by simp [insA, lookA]
  | (k, x) :: r => by
    simp only [insA]
    split
    · rename_i h
      subst h
      simp only [lookA]
      by_cases h2 : k = j <;> simp [h2]
    · rename_i h
      simp only [lookA, lookA_ins i j v r]
      by_cases h2 : k = j
      · subst h2; simp [Ne.symm h]
      · simp [h2]
@[simp] theorem upds_set (n : Nat) (as : List (Nat × V)) (i : Nat) (v : V) : (upds n as).set i v = upds n (insA i v as) := by
  apply List.ext_getElem?
  intro k
  rw [List.getElem?_set, upds_get, upds_get, upds_len, lookA_ins]
  by_cases h : i = k
  · subst h; simp
  · simp [h]
theorem lookA_map {f : V → V} (hf : f .dead = .dead) (i : Nat) : ∀ as, lookA i (mapA f as) = f (lookA i as)
  | [] => by simp [mapA, lookA, hf]
  | (k, x) :: r => by
    simp only [mapA, lookA, lookA_map hf i r]
    split <;> rfl
theorem upds_map {f : V → V} (hf : f .dead = .dead) (n : Nat) (as : List (Nat × V)) : (upds n as).map f = upds n (mapA f as) := by
  simp only [upds, List.map_map]
  exact List.map_congr_left fun i _ => (lookA_map hf i as).symm
def killV (id : Nat) (x : V) : V := match V.noRef id x with
  | true => x
  | false => .dead
theorem killL_map (id : Nat) : ∀ l, killL id l = l.map (killV id)
  | [] => rfl
  | x :: xs => by
    simp only [killL, List.map_cons, killL_map id xs]
    congr 1
@[simp] theorem upds_kill (id n : Nat) (as : List (Nat × V)) : killL id (upds n as) = upds n (mapA (killV id) as) := by
  rw [killL_map, upds_map (by simp [killV, V.noRef])]
@[simp] theorem upds_frz (id : Nat) (d : PD) (n : Nat) (as : List (Nat × V)) : V.frzL id d (upds n as) = upds n (mapA (V.frz id d) as) := by
  rw [V.frzL_eq, upds_map (by simp only [V.frz])]
@[simp] theorem upds_ren (i j n : Nat) (as : List (Nat × V)) : V.renL i j (upds n as) = upds n (mapA (V.ren i j) as) := by
  rw [V.renL_eq, upds_map (by simp only [V.ren])]
theorem lookA_noRef {id : Nat} (i : Nat) : ∀ {as : List (Nat × V)}, noRefA id as = true → V.noRef id (lookA i as) = true
  | [], _ => by simp [lookA, V.noRef]
  | (k, x) :: r, h => by
    simp only [noRefA, Bool.and_eq_true] at h
    simp only [lookA]
    split
    · exact h.1
    · exact lookA_noRef i h.2
@[simp] theorem upds_noRef {id n : Nat} {as : List (Nat × V)} (h : noRefA id as = true) : V.noRefL id (upds n as) = true := by
  have key : ∀ (as : List V), (∀ x ∈ as, V.noRef id x = true) → V.noRefL id as = true := by
    intro as
    induction as with
    | nil => intro _; simp only [V.noRefL]
    | cons a as ih =>
      intro h
      simp only [V.noRefL, Bool.and_eq_true]
      exact ⟨h a (by simp), ih fun x hx => h x (by simp [hx])⟩
  refine key _ fun x hx => ?_
  obtain ⟨i, _, rfl⟩ := List.mem_map.1 hx
  exact lookA_noRef i h
@[simp] theorem upds_noRef_nil {id n : Nat} : V.noRefL id (upds n []) = true := upds_noRef rfl
theorem lookA_keep (ks : List Nat) (i : Nat) : ∀ as, lookA i (keepA ks as) = if ks.contains i then lookA i as else .dead
  | [] => by simp [keepA, lookA]
  | (k, x) :: r => by
    simp only [keepA]
    split
    · rename_i h
      simp only [lookA, lookA_keep ks i r]
      by_cases h2 : k = i
      · subst h2; rw [if_pos rfl, if_pos rfl, if_pos h]
      · rw [if_neg h2, if_neg h2]
    · rename_i h
      rw [lookA_keep ks i r]
      simp only [lookA]
      by_cases h2 : k = i
      · subst h2; rw [if_neg h, if_neg h]
      · rw [if_neg h2]
@[simp] theorem upds_mask (n : Nat) (as : List (Nat × V)) (ks : List Nat) : maskT (upds n as) ks = upds n (keepA ks as) := by
  apply List.ext_getElem?
  intro i
  rw [maskT_get, upds_get, upds_len, lookA_keep, upds_getD]
  by_cases h : i < n <;> simp [h]
theorem VLeL_of : ∀ {as bs : List V}, as.length = bs.length → (∀ t, VLe (as.getD t .dead) (bs.getD t .dead)) → VLeL as bs
  | [], [], _, _ => trivial
  | [], _ :: _, h, _ => by simp at h
  | _ :: _, [], h, _ => by simp at h
  | a :: as, b :: bs, h, h' => ⟨by simpa using h' 0, VLeL_of (by simpa using h) fun t => by have := h' (t + 1); simpa using this⟩
theorem leA_look {as : List (Nat × V)} (i : Nat) : ∀ {bs : List (Nat × V)}, leA as bs → VLe (lookA i as) (lookA i bs)
  | [], _ => by simp only [lookA]; exact .dead _
  | (k, x) :: r, h => by
    simp only [lookA]
    split
    · rename_i e; subst e; exact h.1
    · exact leA_look i h.2
theorem upds_le {n : Nat} {as bs : List (Nat × V)} (h : leA as bs) : VLeL (upds n as) (upds n bs) := by
  refine VLeL_of (by simp) fun t => ?_
  rw [upds_getD, upds_getD]
  split
  · exact leA_look t h
  · exact VLe.refl _

/-- Only some slots are kept, and the boxes that these speak of. -/
def St.keep (ks : List Nat) (st : St) : St := ⟨maskT st.tmps ks, st.pins, footOf ((ks.flatMap fun t => V.ids (st.tmps.getD t .dead)) ++ st.pins) st.H, st.base⟩
theorem mask_le (l : List V) (ks : List Nat) : VLeL l (maskT l ks) := by
  refine VLeL_of (by rw [maskT_len]) fun t => ?_
  rw [maskT_getD]
  split
  · exact VLe.refl _
  · exact VLe.dead _
theorem Rel.keep {c : Ctx} {M : FMap} {μ : Mu} {st : St} {tmps : Array Value} {w : World} (r : Rel c M μ st tmps w) (ks : List Nat) : Rel c M μ (st.keep ks) tmps w :=
  r.weaken ⟨mask_le _ _, rfl, fun _ hp => pickKeys_mem hp, (List.Sublist.map _ (pickKeys_sub _ _)).nodup r.nodup⟩

def keepR (ks : List Nat) : Option (Prop × St) → Option (Prop × St)
  | some (v, st) => some (v, st.keep ks)
  | none => none
def keepD (ks : List Nat) : Option (Prop × List Sm × St) → Option (Prop × List Sm × St)
  | some (v, l, st) => some (v, l, st.keep ks)
  | none => none

section
variable {P : Program} {T : Tab} {G : Glob} {Q : Exit → St → Prop} {st st1 st2 st' : St}
theorem AW.keep {c : Code} (ks : List Nat) (k : AW P G c Q (st.keep ks)) : AW P G c Q st := fun x M μ tmps w hg r => k x M μ tmps w hg (r.keep ks)
theorem AOps.keep {ops : Array Oper} {l : List Oper} (ks : List Nat) (k : AOps P G ops Q l (st.keep ks)) : AOps P G ops Q l st := fun x M μ tmps w hg r => k x M μ tmps w hg (r.keep ks)
theorem keepR_some {ks : List Nat} {o : Option (Prop × St)} {v : Prop} (h : keepR ks o = some (v, st')) : ∃ s, o = some (v, s) ∧ st' = s.keep ks := by
  unfold keepR at h
  split at h
  · rename_i v0 s
    simp only [Option.some.injEq, Prod.mk.injEq] at h
    obtain ⟨rfl, rfl⟩ := h
    exact ⟨s, rfl, rfl⟩
  · cases h
theorem keepD_some {ks : List Nat} {o : Option (Prop × List Sm × St)} {v : Prop} {l : List Sm} (h : keepD ks o = some (v, l, st')) : ∃ s, o = some (v, l, s) ∧ st' = s.keep ks := by
  unfold keepD at h
  split at h
  · rename_i v0 l0 s
    simp only [Option.some.injEq, Prod.mk.injEq] at h
    obtain ⟨rfl, rfl, rfl⟩ := h
    exact ⟨s, rfl, rfl⟩
  · cases h

/-- One operation. -/
def step1 (C : Know) (T : Tab) (G : Glob) (ks : List Nat) (o : Oper) (st : St) (orc : List PD) : Option (Prop × St × List PD) :=
  match preCall G st o.op with
  | none => none
  | some st => match stillOf C T G st o.op orc with
    | some (v, x, orc') => some (v, (st.put o.dst x).keep ks, orc')
    | none => match effOf T G st o orc with
      | some (v, x, st', orc') => some (v, (st'.put o.dst x).keep ks, orc')
      | none => none
/-- One operation under a guard, that stands in slot 'd'. -/
def stepG (C : Know) (T : Tab) (G : Glob) (ks : List Nat) (o : Oper) (d : Nat) (pol : Bool) (st : St) (orc : List PD) : Option (Prop × St × List PD) :=
  match preCall G st o.op with
  | none => none
  | some st => match V.guards pol (st.tmps.getD d .dead) with
    | none => none
    | some b => match stillOf C T G st o.op orc with
      | some (v, x, orc') => some (d < st.tmps.length ∧ (b = true → v), (st.put o.dst (.when b x)).keep ks, orc')
      | none => match b with
        | true => match effOf T G st o orc with
          | some (v, x, st', orc') => some (d < st.tmps.length ∧ v, (st'.put o.dst (.when true x)).keep ks, orc')
          | none => none
        | false => some (d < st.tmps.length, (st.put o.dst (.when false (.p (.bool false)))).keep ks, orc)
theorem AOps.one (hT : TOK P T) (ks : List Nat) (orc : List PD) {ops : Array Oper} {o : Oper} {rest : List Oper} {v : Know → Prop} {orc' : List PD} (h : ∀ C, step1 C T G ks o st orc = some (v C, st', orc')) (hv : v (AFn P G)) (hgd : o.guard = none)
    (k : AOps P G ops Q rest st') : AOps P G ops Q (o :: rest) st := by
  have h := h (AFn P G)
  unfold step1 at h
  split at h
  · cases h
  rename_i st0 hpre
  refine AOps.pre hpre ?_
  split at h
  · rename_i hs
    simp only [Option.some.injEq, Prod.mk.injEq] at h
    obtain ⟨rfl, rfl, rfl⟩ := h
    exact AOps.step hgd (stillOf_sound hT hs hv) (AOps.keep ks k)
  · split at h
    · rename_i hs
      simp only [Option.some.injEq, Prod.mk.injEq] at h
      obtain ⟨rfl, rfl, rfl⟩ := h
      exact AOps.step hgd (effOf_sound hT hs hv) (AOps.keep ks k)
    · cases h
theorem AOps.oneIf (hT : TOK P T) (ks : List Nat) (orc : List PD) (d : Nat) {ops : Array Oper} {o : Oper} {rest : List Oper} {j : Nat} {pol : Bool} {v : Know → Prop} {orc' : List PD} (h : ∀ C, stepG C T G ks o d pol st orc = some (v C, st', orc')) (hv : v (AFn P G))
    (hgd : o.guard = some (j, pol)) (hd : (ops[j]?).bind (·.dst) = some d) (k : AOps P G ops Q rest st') : AOps P G ops Q (o :: rest) st := by
  have h := h (AFn P G)
  unfold stepG at h
  split at h
  · cases h
  rename_i st0 hpre
  refine AOps.pre hpre ?_
  split at h
  · cases h
  · rename_i b hb
    split at h
    · rename_i hs
      simp only [Option.some.injEq, Prod.mk.injEq] at h
      obtain ⟨h1, rfl, rfl⟩ := h
      have hv' := h1.symm ▸ hv
      exact AOps.stepIf hgd hd hv'.1 hb (fun hbt => stillOf_sound hT hs (hv'.2 hbt)) (AOps.keep ks k)
    · split at h
      · split at h
        · rename_i hs
          simp only [Option.some.injEq, Prod.mk.injEq] at h
          obtain ⟨h1, rfl, rfl⟩ := h
          have hv' := h1.symm ▸ hv
          exact AOps.stepIfT hgd hd hv'.1 hb (effOf_sound hT hs hv'.2) (AOps.keep ks k)
        · cases h
      · simp only [Option.some.injEq, Prod.mk.injEq] at h
        obtain ⟨h1, rfl, rfl⟩ := h
        have hv' := h1.symm ▸ hv
        exact AOps.stepIfF hgd hd hv' hb (AOps.keep ks k)
/-- An operation whose effect is told apart. -/
theorem AOps.stepK (ks : List Nat) {ops : Array Oper} {o : Oper} {rest : List Oper} {x : V} (hgd : o.guard = none) (h : Yields P G o st x st1) (hk : (st1.put o.dst x).keep ks = st') (k : AOps P G ops Q rest st') : AOps P G ops Q (o :: rest) st :=
  AOps.step hgd h (AOps.keep ks (hk ▸ k))
theorem AOps.keepEnd {ops : Array Oper} (ks : List Nat) (k : Q .normal (st.keep ks)) : AOps P G ops Q [] st := AOps.keep ks (AOps.nil k)
/-- The operations that are left, and the oracles that are left. -/
def AOpsO (P : Program) (G : Glob) (ops : Array Oper) (Q : Exit → St → Prop) (l : List Oper) (st : St) (_ : List PD) : Prop := AOps P G ops Q l st
theorem AOpsO.nil {ops : Array Oper} {orc : List PD} (h : Q .normal st) : AOpsO P G ops Q [] st orc := AOps.nil h
theorem AOpsO.one (hT : TOK P T) (ks : List Nat) {orc : List PD} {ops : Array Oper} {o : Oper} {rest : List Oper} {v : Know → Prop} {orc' : List PD} (h : ∀ C, step1 C T G ks o st orc = some (v C, st', orc')) (hv : v (AFn P G)) (hgd : o.guard = none)
    (k : AOpsO P G ops Q rest st' orc') : AOpsO P G ops Q (o :: rest) st orc := AOps.one hT ks orc h hv hgd k
theorem AOpsO.oneIf (hT : TOK P T) (ks : List Nat) {orc : List PD} (d : Nat) {ops : Array Oper} {o : Oper} {rest : List Oper} {j : Nat} {pol : Bool} {v : Know → Prop} {orc' : List PD} (h : ∀ C, stepG C T G ks o d pol st orc = some (v C, st', orc')) (hv : v (AFn P G))
    (hgd : o.guard = some (j, pol)) (hd : (ops[j]?).bind (·.dst) = some d) (k : AOpsO P G ops Q rest st' orc') : AOpsO P G ops Q (o :: rest) st orc := AOps.oneIf hT ks orc d h hv hgd hd k
theorem AOpsO.stepK (ks : List Nat) {orc : List PD} {ops : Array Oper} {o : Oper} {rest : List Oper} {x : V} (h : Yields P G o st x st1) (hk : (st1.put o.dst x).keep ks = st') (hgd : o.guard = none) (k : AOpsO P G ops Q rest st' orc) : AOpsO P G ops Q (o :: rest) st orc :=
  AOps.stepK ks hgd h hk k
theorem AW.regionO (orc : List PD) {id : Nat} {l : List Oper} (h : AOpsO P G l.toArray Q l st orc) : AW P G (.region id l.toArray false) Q st := AW.region h
theorem AW.seqRegionO (orc : List PD) {id : Nat} {l : List Oper} {b : Code} (h : AOpsO P G l.toArray (andThen (AW P G b Q) Q) l st orc) : AW P G (.seq (.region id l.toArray false) b) Q st := AW.seq (AW.region h)
theorem AW.runK (hT : TOK P T) (ks : List Nat) (orc : List PD) {id : Nat} {l : List Oper} {v : Know → Prop} (h : ∀ C, keepR ks (opsRun C T G l l st orc) = some (v C, st')) (hv : v (AFn P G)) (k : Q .normal st') : AW P G (.region id l.toArray false) Q st := by
  obtain ⟨s, hs, rfl⟩ := keepR_some (h (AFn P G))
  refine AW.region ?_
  have := opsRun_sound (Q := Q) hT l l [] st orc _ s hs hv (AOps.keepEnd ks k)
  simpa using this
theorem AW.seqRunK (hT : TOK P T) (ks : List Nat) (orc : List PD) {id : Nat} {l : List Oper} {b : Code} {v : Know → Prop} (h : ∀ C, keepR ks (opsRun C T G l l st orc) = some (v C, st')) (hv : v (AFn P G)) (k : AW P G b Q st') :
    AW P G (.seq (.region id l.toArray false) b) Q st := AW.seq (AW.runK hT ks orc h hv k)
/-- A region with a call of a function that boxes are lent to. -/
theorem AW.runXK (hT : TOK P T) (ks : List Nat) (n : Nat) (orc1 orc2 : List PD) {id : Nat} {l : List Oper} {o : Oper} {r : V} {v1 v2 : Know → Prop} (ho : l[n]? = some o) (hgd : o.guard = none)
    (h1 : ∀ C, opsRun C T G l (l.take n) st orc1 = some (v1 C, st1)) (hv1 : v1 (AFn P G)) (y : Yields P G o st1 r st2)
    (h2 : ∀ C, keepR ks (opsRun C T G l (l.drop (n + 1)) (st2.put o.dst r) orc2) = some (v2 C, st')) (hv2 : v2 (AFn P G)) (k : Q .normal st') : AW P G (.region id l.toArray false) Q st := by
  obtain ⟨s, hs, rfl⟩ := keepR_some (h2 (AFn P G))
  refine AW.region ?_
  have hl : l = l.take n ++ (o :: l.drop (n + 1)) := by
    have := List.take_append_drop n l
    rw [← this]
    congr 1
    · rw [List.take_append_drop]
    · rw [List.take_append_drop, List.drop_eq_getElem_cons (List.getElem?_eq_some_iff.1 ho).1, (List.getElem?_eq_some_iff.1 ho).2]
  have hend := opsRun_sound (Q := Q) hT l (l.drop (n + 1)) [] _ orc2 _ s hs hv2 (AOps.keepEnd ks k)
  rw [List.append_nil] at hend
  have := opsRun_sound (Q := Q) hT l (l.take n) (o :: l.drop (n + 1)) st orc1 _ st1 (h1 (AFn P G)) hv1 (AOps.step hgd y hend)
  rw [← hl] at this
  exact this
theorem AW.seqRunXK (hT : TOK P T) (ks : List Nat) (n : Nat) (orc1 orc2 : List PD) {id : Nat} {l : List Oper} {o : Oper} {b : Code} {r : V} {v1 v2 : Know → Prop} (ho : l[n]? = some o) (hgd : o.guard = none)
    (h1 : ∀ C, opsRun C T G l (l.take n) st orc1 = some (v1 C, st1)) (hv1 : v1 (AFn P G)) (y : Yields P G o st1 r st2)
    (h2 : ∀ C, keepR ks (opsRun C T G l (l.drop (n + 1)) (st2.put o.dst r) orc2) = some (v2 C, st')) (hv2 : v2 (AFn P G)) (k : AW P G b Q st') : AW P G (.seq (.region id l.toArray false) b) Q st :=
  AW.seq (AW.runXK hT ks n orc1 orc2 ho hgd h1 hv1 y h2 hv2 k)
/-- A region that draws its order. -/
theorem AW.runDrawK (hT : TOK P T) (hmix : P.follows .mixedOrders = true) (ks : List Nat) (m : Nat) (tss : List (List Nat)) (orc1 orc2 : List PD) {id : Nat} {l : List Oper} {sms : List Sm} {v1 v2 : Know → Prop} (hchk : anyChk l m tss = true)
    (h1 : ∀ C, drawRun C T G l st (l.take m) tss st orc1 = some (v1 C, sms, st1)) (hv1 : v1 (AFn P G)) (hconf : confB l m (sms.map Sm.sum) = true) (h2 : ∀ C, keepR ks (opsRun C T G l (l.drop m) st1 orc2) = some (v2 C, st')) (hv2 : v2 (AFn P G)) (k : Q .normal st') :
    AW P G (.region id l.toArray true) Q st := by
  obtain ⟨s, hs, rfl⟩ := keepR_some (h2 (AFn P G))
  have hlate := opsRun_sound (Q := Q) hT l (l.drop m) [] _ orc2 _ s hs hv2 (AOps.keepEnd ks k)
  rw [List.append_nil] at hlate
  exact AW.runDraw0 hT hmix m tss orc1 hchk h1 hv1 hconf hlate
theorem AW.seqRunDrawK (hT : TOK P T) (hmix : P.follows .mixedOrders = true) (ks : List Nat) (m : Nat) (tss : List (List Nat)) (orc1 orc2 : List PD) {id : Nat} {l : List Oper} {b : Code} {sms : List Sm} {v1 v2 : Know → Prop} (hchk : anyChk l m tss = true)
    (h1 : ∀ C, drawRun C T G l st (l.take m) tss st orc1 = some (v1 C, sms, st1)) (hv1 : v1 (AFn P G)) (hconf : confB l m (sms.map Sm.sum) = true) (h2 : ∀ C, keepR ks (opsRun C T G l (l.drop m) st1 orc2) = some (v2 C, st')) (hv2 : v2 (AFn P G)) (k : AW P G b Q st') :
    AW P G (.seq (.region id l.toArray true) b) Q st := AW.seq (AW.runDrawK hT hmix ks m tss orc1 orc2 hchk h1 hv1 hconf h2 hv2 k)

/-- The slots when a function begins. -/
def enumA (i : Nat) : List V → List (Nat × V)
  | [] => []
  | x :: xs => (i, x) :: enumA (i + 1) xs
theorem lookA_enum : ∀ (xs : List V) (i j : Nat), lookA j (enumA i xs) = if i ≤ j then xs.getD (j - i) .dead else .dead
  | [], i, j => by simp [enumA, lookA]
  | x :: xs, i, j => by
    simp only [enumA, lookA, lookA_enum xs]
    by_cases h : i = j
    · subst h; simp
    · rw [if_neg h]
      by_cases h2 : i + 1 ≤ j
      · rw [if_pos h2, if_pos (by omega), show j - i = (j - (i + 1)) + 1 by omega]; simp
      · rw [if_neg h2, if_neg (by omega)]
theorem start_upds (xs : List V) (n : Nat) (h : xs.length ≤ n) : xs ++ List.replicate (n - xs.length) .dead = upds n (enumA 0 xs) := by
  apply List.ext_getElem?
  intro i
  rw [upds_get, lookA_enum, List.getElem?_append]
  simp only [Nat.zero_le, if_true, Nat.sub_zero]
  by_cases h1 : i < xs.length
  · rw [if_pos h1, if_pos (by omega)]; simp [h1]
  · rw [if_neg h1]
    by_cases h2 : i < n
    · rw [if_pos h2]; simp [show i - xs.length < n - xs.length by omega, List.getD_eq_getElem?_getD, List.getElem?_eq_none (show xs.length ≤ i by omega)]
    · rw [if_neg h2]; simp [show ¬ i - xs.length < n - xs.length by omega]
theorem AFn.introU (hT : TOK P T) {f : FuncId} {fn : Func} {c : Code} {args : List PD} {r : PD} (hf : P.funcs[f]? = some fn) (hn : (fn.name == "runtime.NumGoroutine") = false) (hb : fn.body = some c) (hl : args.length.ble fn.ntmps = true)
    (h : AW P G c (Fin T fn.results.toList r) ⟨upds fn.ntmps (enumA 0 (args.map .p)), [], [], 0⟩) : AFn P G f args r := by
  refine AFn.intro hT hf hn hb ?_
  have := start_upds (args.map V.p) fn.ntmps (by simpa using Nat.le_of_ble_eq_true hl)
  simp only [List.length_map] at this
  rw [St.start, this]; exact h
theorem AX.introU (hT : TOK P T) {f : FuncId} {fn : Func} {c : Code} {xs : List V} {H : List (Nat × Box)} {r : V} {ps : List Nat} {H' : List (Nat × Box)} (base : Nat) (hf : P.funcs[f]? = some fn)
    (hn : (fn.name == "runtime.NumGoroutine") = false) (hb : fn.body = some c) (hl : xs.length.ble fn.ntmps = true) (h : AW P G c (FinX T fn.results.toList r ps H') ⟨upds fn.ntmps (enumA 0 xs), H.map (·.1), H, base⟩) : AX P G f xs H r ps H' := by
  refine AX.intro hT base hf hn hb ?_
  rw [St.startX, start_upds xs fn.ntmps (Nat.le_of_ble_eq_true hl)]; exact h
theorem upds_at {n i : Nat} {as : List (Nat × V)} {x : V} (h : lookA i as = x) (hi : i < n) : (upds n as)[i]? = some x := by rw [upds_get, if_pos hi, h]
theorem AW.slFactU {c : Code} {n i sz b : Nat} {es : List PD} {as : List (Nat × V)} {p : List Nat} {H : List (Nat × Box)} (h : lookA i as = .p (.sl sz es)) (hi : i < n) (k : es.length ≤ 9223372036854775807 → AW P G c Q ⟨upds n as, p, H, b⟩) : AW P G c Q ⟨upds n as, p, H, b⟩ :=
  AW.slFact (i := i) (upds_at h hi) k
theorem AW.strFactU {c : Code} {n i b : Nat} {s : List UInt8} {as : List (Nat × V)} {p : List Nat} {H : List (Nat × Box)} (h : lookA i as = .p (.str s)) (hi : i < n) (k : s.length ≤ 9223372036854775807 → AW P G c Q ⟨upds n as, p, H, b⟩) : AW P G c Q ⟨upds n as, p, H, b⟩ :=
  AW.strFact (i := i) (upds_at h hi) k
theorem AW.intFactU {c : Code} {n i b : Nat} {kd : IntKind} {z : Int} {as : List (Nat × V)} {p : List Nat} {H : List (Nat × Box)} (h : lookA i as = .p (.int kd z)) (hi : i < n) (k : kmin kd ≤ z ∧ z ≤ kmax kd → AW P G c Q ⟨upds n as, p, H, b⟩) : AW P G c Q ⟨upds n as, p, H, b⟩ :=
  AW.intFact (i := i) (upds_at h hi) k
attribute [simp] step1 stepG lookA insA mapA keepA noRefA leA killV St.keep keepR enumA
end
end Go.Proofs.YtdploelkmlbhnaaDoor.Sy
