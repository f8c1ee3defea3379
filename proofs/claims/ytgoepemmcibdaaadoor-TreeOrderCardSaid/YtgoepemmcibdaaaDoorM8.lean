import Derived.Test.YtgoepemmcibdaaaDoorM7
namespace Go.Proofs.YtgoepemmcibdaaaDoor
open Sy Go
set_option maxRecDepth 100000
set_option maxHeartbeats 4000000
set_option linter.unusedSimpArgs false
set_option linter.unusedVariables false
variable {G : Glob}

def oneV : Val := .mk 4 0 ⟨false, [49], 0⟩ [] [] [] 0
def twoV : Val := .mk 4 0 ⟨false, [50], 0⟩ [] [] [] 0
def falseV : Val := .mk 2 0 ⟨false, [], 0⟩ [] [] [] 0
def textV : Val := .mk 5 0 ⟨false, [], 0⟩ [49] [] [] 0
def listV (l : List Val) : Val := .mk 6 0 ⟨false, [], 0⟩ [] [] l 0
theorem may_null : mayT nullV = true := by decide +kernel
theorem may_false : mayT falseV = true := by decide +kernel
theorem may_one : mayT oneV = true := by decide +kernel
theorem may_two : mayT twoV = true := by decide +kernel
theorem valid_one : Lib.validD [49] = true := by rw [valid_eq]; decide +kernel
theorem may_text : mayT textV = true := by rw [mayT_eq]; simp [boundsT, partsT, codeT, numT, textT, namedT, kidsT, textV, Val.kind, Val.num, Val.text, Val.keys, Val.kids, Val.code, wordT, valid_one]
theorem may_l1 : mayT (listV [oneV]) = true := by decide +kernel
theorem may_l2 : mayT (listV [oneV, nullV]) = true := by decide +kernel
theorem cmp_1 : cmpT nullV falseV = -1 := by decide +kernel
theorem cmp_2 : cmpT twoV textV = -1 := by decide +kernel
theorem cmp_3 : cmpT (listV [oneV]) (listV [oneV, nullV]) = -1 := by decide +kernel
attribute [local simp] nullV dc0 oneV twoV falseV textV listV
theorem null4_ev  : AFn Tryd.prog G 7 [] (nullV.enc) := by
  refine AFn.introU tok Tryd.func7 (by kernel_rfl) rfl rfl ?_
  simp only [Tryd.f7, enumA, List.map_cons, List.map_nil]
  refine AW.seqRegionO [] ?_
  refine AOpsO.one tok [0] (by intro C; conv => lhs; simp) (by first | with_reducible exact True.intro | omega | simp | (simp; omega) | (simp +contextual; omega)) rfl ?_
  refine AOpsO.nil ?_
  refine AW.seqRegionO [] ?_
  refine AOpsO.one tok [0, 1] (by intro C; conv => lhs; simp) (by first | with_reducible exact True.intro | omega | simp | (simp; omega) | (simp +contextual; omega)) rfl ?_
  refine AOpsO.one tok [0] (by intro C; conv => lhs; simp) (by first | with_reducible exact True.intro | omega | simp | (simp; omega) | (simp +contextual; omega)) rfl ?_
  refine AOpsO.nil ?_
  exact AW.ret ⟨.inr rfl, _, _, by (conv => lhs; simp), trivial, by simp [nullV, dc0, Val.kind, Val.mask, Val.num, Val.text, Val.keys, Val.kids, Val.code]⟩
theorem one4_ev  : AFn Tryd.prog G 13 [] (oneV.enc) := by
  refine AFn.introU tok Tryd.func13 (by kernel_rfl) rfl rfl ?_
  simp only [Tryd.f13, enumA, List.map_cons, List.map_nil]
  refine AW.seqRegionO [] ?_
  refine AOpsO.one tok [0] (by intro C; conv => lhs; simp) (by first | with_reducible exact True.intro | omega | simp | (simp; omega) | (simp +contextual; omega)) rfl ?_
  refine AOpsO.nil ?_
  refine AW.seqRegionO [] ?_
  refine AOpsO.one tok [0, 1] (by intro C; conv => lhs; simp) (by first | with_reducible exact True.intro | omega | simp | (simp; omega) | (simp +contextual; omega)) rfl ?_
  refine AOpsO.one tok [0, 2] (by intro C; conv => lhs; simp) (by first | with_reducible exact True.intro | omega | simp | (simp; omega) | (simp +contextual; omega)) rfl ?_
  refine AOpsO.one tok [0] (by intro C; conv => lhs; simp) (by first | with_reducible exact True.intro | omega | simp | (simp; omega) | (simp +contextual; omega)) rfl ?_
  refine AOpsO.nil ?_
  exact AW.ret ⟨.inr rfl, _, _, by (conv => lhs; simp), trivial, by simp⟩
theorem shown4_ev (hG : U8 G) : AFn Tryd.prog G 5 [] (.bool true) := by
  refine AFn.introU tok Tryd.func5 (by kernel_rfl) rfl rfl ?_
  simp only [Tryd.f5, enumA, List.map_cons, List.map_nil]
  have hn := null4_ev (G := G)
  have ho := one4_ev (G := G)
  have h1 := cmpT_ev (G := G) nullV falseV may_null may_false
  have h2 := cmpT_ev (G := G) twoV textV may_two may_text
  have h3 := cmpT_ev (G := G) (listV [oneV]) (listV [oneV, nullV]) may_l1 may_l2
  have hm := mayT_ev hG nullV
  rw [may_null] at hm
  rw [cmp_1] at h1
  rw [cmp_2] at h2
  rw [cmp_3] at h3
  simp at hn ho h1 h2 h3 hm
  refine AW.seqRegionO [] ?_
  refine AOpsO.one tok [] (by intro C; conv => lhs; simp) (by first | with_reducible exact True.intro | omega | simp | (simp; omega) | (simp +contextual; omega)) rfl ?_
  refine AOpsO.nil ?_
  refine AW.seqRegionO [.nilp, nullV.enc, .nilp, .int .i64 (-1)] ?_
  refine AOpsO.one tok [4] (by intro C; conv => lhs; simp) (by first | with_reducible exact True.intro | (first | exact hn | exact h1; done) | omega | simp | (simp; omega) | (simp +contextual; omega)) rfl ?_
  refine AOpsO.one tok [4, 5] (by intro C; conv => lhs; simp) (by first | with_reducible exact True.intro | (first | exact hn | exact h1; done) | omega | simp | (simp; omega) | (simp +contextual; omega)) rfl ?_
  refine AOpsO.one tok [6] (by intro C; conv => lhs; simp) (by first | with_reducible exact True.intro | (first | exact hn | exact h1; done) | omega | simp | (simp; omega) | (simp +contextual; omega)) rfl ?_
  refine AOpsO.one tok [1] (by intro C; conv => lhs; simp) (by first | with_reducible exact True.intro | (first | exact hn | exact h1; done) | omega | simp | (simp; omega) | (simp +contextual; omega)) rfl ?_
  refine AOpsO.nil ?_
  refine AW.seqRegionO [.nilp, .int .i64 (-1)] ?_
  refine AOpsO.one tok [1, 7] (by intro C; conv => lhs; simp) (by first | with_reducible exact True.intro | (exact h2; done) | omega | simp | (simp; omega) | (simp +contextual; omega)) rfl ?_
  refine AOpsO.one tok [1, 8] (by intro C; conv => lhs; simp) (by first | with_reducible exact True.intro | (exact h2; done) | omega | simp | (simp; omega) | (simp +contextual; omega)) rfl ?_
  refine AOpsO.one tok [1, 8, 9] (by intro C; conv => lhs; simp) (by first | with_reducible exact True.intro | (exact h2; done) | omega | simp | (simp; omega) | (simp +contextual; omega)) rfl ?_
  refine AOpsO.one tok [1, 10] (by intro C; conv => lhs; simp) (by first | with_reducible exact True.intro | (exact h2; done) | omega | simp | (simp; omega) | (simp +contextual; omega)) rfl ?_
  refine AOpsO.one tok [1, 2] (by intro C; conv => lhs; simp) (by first | with_reducible exact True.intro | (exact h2; done) | omega | simp | (simp; omega) | (simp +contextual; omega)) rfl ?_
  refine AOpsO.nil ?_
  refine AW.seqRegionO [.nilp, oneV.enc, oneV.enc, .nilp, oneV.enc, .nilp, nullV.enc, oneV.enc, nullV.enc, .nilp, .int .i64 (-1)] ?_
  refine AOpsO.one tok [1, 2, 11] (by intro C; conv => lhs; simp) (by first | with_reducible exact True.intro | (first | exact ho | exact hn | exact h3; done) | omega | simp | (simp; omega) | (simp +contextual; omega)) rfl ?_
  refine AOpsO.one tok [1, 2, 12] (by intro C; conv => lhs; simp) (by first | with_reducible exact True.intro | (first | exact ho | exact hn | exact h3; done) | omega | simp | (simp; omega) | (simp +contextual; omega)) rfl ?_
  refine AOpsO.one tok [1, 2, 13] (by intro C; conv => lhs; simp) (by first | with_reducible exact True.intro | (first | exact ho | exact hn | exact h3; done) | omega | simp | (simp; omega) | (simp +contextual; omega)) rfl ?_
  refine AOpsO.one tok [1, 2, 13, 14] (by intro C; conv => lhs; simp) (by first | with_reducible exact True.intro | (first | exact ho | exact hn | exact h3; done) | omega | simp | (simp; omega) | (simp +contextual; omega)) rfl ?_
  refine AOpsO.one tok [1, 2, 13, 14, 15] (by intro C; conv => lhs; simp) (by first | with_reducible exact True.intro | (first | exact ho | exact hn | exact h3; done) | omega | simp | (simp; omega) | (simp +contextual; omega)) rfl ?_
  refine AOpsO.one tok [1, 2, 13, 16] (by intro C; conv => lhs; simp) (by first | with_reducible exact True.intro | (first | exact ho | exact hn | exact h3; done) | omega | simp | (simp; omega) | (simp +contextual; omega)) rfl ?_
  refine AOpsO.one tok [1, 2, 13, 17] (by intro C; conv => lhs; simp) (by first | with_reducible exact True.intro | (first | exact ho | exact hn | exact h3; done) | omega | simp | (simp; omega) | (simp +contextual; omega)) rfl ?_
  refine AOpsO.freeze 12 (by conv => lhs; simp) ?_
  refine AOpsO.freeze 16 (by conv => lhs; simp) ?_
  refine AOpsO.one tok [1, 2, 18] (by intro C; conv => lhs; simp) (by first | with_reducible exact True.intro | (first | exact ho | exact hn | exact h3; done) | omega | simp | (simp; omega) | (simp +contextual; omega)) rfl ?_
  refine AOpsO.one tok [1, 2, 3] (by intro C; conv => lhs; simp) (by first | with_reducible exact True.intro | (first | exact ho | exact hn | exact h3; done) | omega | simp | (simp; omega) | (simp +contextual; omega)) rfl ?_
  refine AOpsO.nil ?_
  refine AW.seqRegionO [.nilp, nullV.enc, .nilp, .bool true] ?_
  refine AOpsO.one tok [2, 3, 19] (by intro C; conv => lhs; simp) (by first | with_reducible exact True.intro | (((repeat' (first | with_reducible apply And.intro | intro _)) <;> first | exact (hn) | exact (hm) | assumption | omega | contradiction | simp_all); done) | omega | simp | (simp; omega) | (simp +contextual; omega)) rfl ?_
  refine AOpsO.one tok [2, 3, 20] (by intro C; conv => lhs; simp) (by first | with_reducible exact True.intro | (((repeat' (first | with_reducible apply And.intro | intro _)) <;> first | exact (hn) | exact (hm) | assumption | omega | contradiction | simp_all); done) | omega | simp | (simp; omega) | (simp +contextual; omega)) rfl ?_
  refine AOpsO.one tok [2, 3, 21] (by intro C; conv => lhs; simp) (by first | with_reducible exact True.intro | (((repeat' (first | with_reducible apply And.intro | intro _)) <;> first | exact (hn) | exact (hm) | assumption | omega | contradiction | simp_all); done) | omega | simp | (simp; omega) | (simp +contextual; omega)) rfl ?_
  refine AOpsO.oneIf tok [3, 21, 22] 21 (by intro C; conv => lhs; simp) (by first | with_reducible exact True.intro | (((repeat' (first | with_reducible apply And.intro | intro _)) <;> first | exact (hn) | exact (hm) | assumption | omega | contradiction | simp_all); done) | omega | simp | (simp; omega) | (simp +contextual; omega)) rfl rfl ?_
  refine AOpsO.oneIf tok [3, 21, 23] 21 (by intro C; conv => lhs; simp) (by first | with_reducible exact True.intro | (((repeat' (first | with_reducible apply And.intro | intro _)) <;> first | exact (hn) | exact (hm) | assumption | omega | contradiction | simp_all); done) | omega | simp | (simp; omega) | (simp +contextual; omega)) rfl rfl ?_
  refine AOpsO.one tok [3, 24] (by intro C; conv => lhs; simp) (by first | with_reducible exact True.intro | (((repeat' (first | with_reducible apply And.intro | intro _)) <;> first | exact (hn) | exact (hm) | assumption | omega | contradiction | simp_all); done) | omega | simp | (simp; omega) | (simp +contextual; omega)) rfl ?_
  refine AOpsO.one tok [3, 25] (by intro C; conv => lhs; simp) (by first | with_reducible exact True.intro | (((repeat' (first | with_reducible apply And.intro | intro _)) <;> first | exact (hn) | exact (hm) | assumption | omega | contradiction | simp_all); done) | omega | simp | (simp; omega) | (simp +contextual; omega)) rfl ?_
  refine AOpsO.oneIf tok [25, 26] 25 (by intro C; conv => lhs; simp) (by first | with_reducible exact True.intro | (((repeat' (first | with_reducible apply And.intro | intro _)) <;> first | exact (hn) | exact (hm) | assumption | omega | contradiction | simp_all); done) | omega | simp | (simp; omega) | (simp +contextual; omega)) rfl rfl ?_
  refine AOpsO.oneIf tok [25, 27] 25 (by intro C; conv => lhs; simp) (by first | with_reducible exact True.intro | (((repeat' (first | with_reducible apply And.intro | intro _)) <;> first | exact (hn) | exact (hm) | assumption | omega | contradiction | simp_all); done) | omega | simp | (simp; omega) | (simp +contextual; omega)) rfl rfl ?_
  refine AOpsO.one tok [28] (by intro C; conv => lhs; simp) (by first | with_reducible exact True.intro | (((repeat' (first | with_reducible apply And.intro | intro _)) <;> first | exact (hn) | exact (hm) | assumption | omega | contradiction | simp_all); done) | omega | simp | (simp; omega) | (simp +contextual; omega)) rfl ?_
  refine AOpsO.one tok [29] (by intro C; conv => lhs; simp) (by first | with_reducible exact True.intro | (((repeat' (first | with_reducible apply And.intro | intro _)) <;> first | exact (hn) | exact (hm) | assumption | omega | contradiction | simp_all); done) | omega | simp | (simp; omega) | (simp +contextual; omega)) rfl ?_
  refine AOpsO.oneIf tok [29, 30] 29 (by intro C; conv => lhs; simp) (by first | with_reducible exact True.intro | (((repeat' (first | with_reducible apply And.intro | intro _)) <;> first | exact (hn) | exact (hm) | assumption | omega | contradiction | simp_all); done) | omega | simp | (simp; omega) | (simp +contextual; omega)) rfl rfl ?_
  refine AOpsO.oneIf tok [29, 31] 29 (by intro C; conv => lhs; simp) (by first | with_reducible exact True.intro | (((repeat' (first | with_reducible apply And.intro | intro _)) <;> first | exact (hn) | exact (hm) | assumption | omega | contradiction | simp_all); done) | omega | simp | (simp; omega) | (simp +contextual; omega)) rfl rfl ?_
  refine AOpsO.one tok [32] (by intro C; conv => lhs; simp) (by first | with_reducible exact True.intro | (((repeat' (first | with_reducible apply And.intro | intro _)) <;> first | exact (hn) | exact (hm) | assumption | omega | contradiction | simp_all); done) | omega | simp | (simp; omega) | (simp +contextual; omega)) rfl ?_
  refine AOpsO.one tok [0] (by intro C; conv => lhs; simp) (by first | with_reducible exact True.intro | (((repeat' (first | with_reducible apply And.intro | intro _)) <;> first | exact (hn) | exact (hm) | assumption | omega | contradiction | simp_all); done) | omega | simp | (simp; omega) | (simp +contextual; omega)) rfl ?_
  refine AOpsO.nil ?_
  exact AW.ret ⟨.inr rfl, _, _, by (conv => lhs; simp), trivial, by simp⟩
end Go.Proofs.YtgoepemmcibdaaaDoor
/-
  OUR OWN LAYER, 23: drawn regions, operation by operation.
-/
namespace Go.Proofs.YtgoepemmcibdaaaDoor.Sy
open Go
abbrev SumT := List Nat × List Nat × List Nat × List Nat
def ndB : List (Nat × Box) → Bool
  | [] => true
  | (i, _) :: r => !keyIn i r && ndB r
theorem ndB_nodup : ∀ {H : List (Nat × Box)}, ndB H = true → (H.map (·.1)).Nodup
  | [], _ => List.nodup_nil
  | (i, b) :: r, h => by
    simp only [ndB, Bool.and_eq_true, Bool.not_eq_true'] at h
    simp only [List.map_cons, List.nodup_cons]
    exact ⟨fun hm => by rw [keyIn_eq_mem.2 hm] at h; exact absurd h.1 (by simp), ndB_nodup h.2⟩
section
variable {P : Program} {T : Tab} {G : Glob} {Q : Exit → St → Prop} {st st' st0 : St} {ops rest : List Oper} {tss : List (List Nat)} {ts : List Nat} {orc orc' : List PD} {acc : Sums} {o : Oper} {sm : SumT} {v : Know → Prop}
/-- The early operations that are left, with what those done have told. -/
def DGo (P : Program) (T : Tab) (G : Glob) (ops : List Oper) (st0 : St) (l : List Oper) (tss : List (List Nat)) (st : St) (orc : List PD) (acc : Sums) (K : Sums → St → Prop) : Prop :=
  ∃ v sms st1, drawRun (kn P G) T G ops st0 l tss st orc = some (v, sms, st1) ∧ v ∧ K (acc ++ sms.map Sm.sum) st1
variable {K : Sums → St → Prop}
theorem DGo.nil (hn : ndB st.H = true) (k : K acc st) : DGo P T G ops st0 [] tss st orc acc K := ⟨_, _, _, rfl, ndB_nodup hn, by simpa using k⟩
def draw1 (C : Know) (T : Tab) (G : Glob) (st0 : St) (ts : List Nat) (o : Oper) (st : St) (orc : List PD) : Option (Prop × St × SumT × List PD) :=
  match drawOne C T G st0 (st.small ts) o orc with
  | some (v, s, orc') => some (v, st.after o.dst s, s.sum, orc')
  | none => none
theorem DGo.one (h : ∀ C, draw1 C T G st0 ts o st orc = some (v C, st', sm, orc')) (hv : v (kn P G)) (hgd : o.guard = none) (hn : ndB st.H = true) (k : DGo P T G ops st0 rest tss st' orc' (acc ++ [sm]) K) :
    DGo P T G ops st0 (o :: rest) (ts :: tss) st orc acc K := by
  have h1 := h (kn P G)
  unfold draw1 at h1
  split at h1
  · rename_i v1 s orc1 h2
    simp only [Option.some.injEq, Prod.mk.injEq] at h1
    obtain ⟨h3, rfl, rfl, rfl⟩ := h1
    obtain ⟨w, sms, st1, e, hw, hk⟩ := k
    exact ⟨(st.H.map (·.1)).Nodup ∧ v1 ∧ w, s :: sms, st1, by simp only [drawRun, hgd, h2, e], ⟨ndB_nodup hn, h3 ▸ hv, hw⟩, by simpa using hk⟩
  · cases h1
def draw1G (C : Know) (T : Tab) (G : Glob) (st0 : St) (ts : List Nat) (o : Oper) (d : Nat) (pol : Bool) (st : St) (orc : List PD) : Option (Prop × St × SumT × List PD) :=
  match V.guards pol (st.tmps.getD d .dead) with
  | none => none
  | some b => match quietOne C T G (st.small ts) o.op orc with
    | some (v, x, orc') =>
      let s : Sm := ⟨.when b x, (st.small ts).H, (st.small ts).H, (st.small ts).H.map (·.1), [], true⟩
      some (d < st.tmps.length ∧ (b = true → v) ∧ s.good, st.after o.dst s, s.sum, orc')
    | none => match b with
      | true => match drawOne C T G st0 (st.small ts) o orc with
        | some (v, s, orc') => some (d < st.tmps.length ∧ v, st.after o.dst { s with x := .when true s.x }, ({ s with x := .when true s.x } : Sm).sum, orc')
        | none => none
      | false =>
        let s : Sm := ⟨.when false (.p (.bool false)), [], [], [], [], true⟩
        some (d < st.tmps.length, st.after o.dst s, s.sum, orc)
theorem DGo.oneIf (d : Nat) {j : Nat} {pol : Bool} (h : ∀ C, draw1G C T G st0 ts o d pol st orc = some (v C, st', sm, orc')) (hv : v (kn P G)) (hgd : o.guard = some (j, pol)) (hd : (ops[j]?).bind (·.dst) = some d) (hn : ndB st.H = true)
    (k : DGo P T G ops st0 rest tss st' orc' (acc ++ [sm]) K) : DGo P T G ops st0 (o :: rest) (ts :: tss) st orc acc K := by
  have h1 := h (kn P G)
  have hn' := ndB_nodup hn
  unfold draw1G at h1
  obtain ⟨w, sms, st1, e, hw, hk⟩ := k
  split at h1
  · cases h1
  rename_i b hb
  split at h1
  · rename_i v1 x orc1 h2
    simp only [Option.some.injEq, Prod.mk.injEq] at h1
    obtain ⟨h3, rfl, rfl, rfl⟩ := h1
    have hv' := h3.symm ▸ hv
    exact ⟨(st.H.map (·.1)).Nodup ∧ d < st.tmps.length ∧ (b = true → v1) ∧ Sm.good ⟨.when b x, (st.small ts).H, (st.small ts).H, (st.small ts).H.map (·.1), [], true⟩ ∧ w, (⟨.when b x, (st.small ts).H, (st.small ts).H, (st.small ts).H.map (·.1), [], true⟩ : Sm) :: sms, st1, by simp only [drawRun, hgd, hd, hb, h2, e], ⟨hn', hv'.1, hv'.2.1, hv'.2.2, hw⟩, by simpa using hk⟩
  · rename_i h2
    split at h1
    · split at h1
      · rename_i v1 s orc1 h4
        simp only [Option.some.injEq, Prod.mk.injEq] at h1
        obtain ⟨h3, rfl, rfl, rfl⟩ := h1
        have hv' := h3.symm ▸ hv
        exact ⟨(st.H.map (·.1)).Nodup ∧ d < st.tmps.length ∧ v1 ∧ w, ({ s with x := .when true s.x } : Sm) :: sms, st1, by simp only [drawRun, hgd, hd, hb, h2, h4, e], ⟨hn', hv'.1, hv'.2, hw⟩, by simpa using hk⟩
      · cases h1
    · simp only [Option.some.injEq, Prod.mk.injEq] at h1
      obtain ⟨h3, rfl, rfl, rfl⟩ := h1
      have hv' := h3.symm ▸ hv
      exact ⟨(st.H.map (·.1)).Nodup ∧ d < st.tmps.length ∧ w, (⟨.when false (.p (.bool false)), [], [], [], [], true⟩ : Sm) :: sms, st1, by simp only [drawRun, hgd, hd, hb, h2, e], ⟨hn', hv', hw⟩, by simpa using hk⟩
theorem AW.drawS (hT : TOK P T) (hmix : P.follows .mixedOrders = true) (m : Nat) (tss : List (List Nat)) (orc orc2 : List PD) {id : Nat} {l : List Oper} (hchk : anyChk l m tss = true)
    (h : DGo P T G l st (l.take m) tss st orc [] fun sums st1 => confB l m sums = true ∧ AOpsO P G l.toArray Q (l.drop m) st1 orc2) : AW P G (.region id l.toArray true) Q st := by
  obtain ⟨v, sms, st1, e, hv, hc, hl⟩ := h
  exact AW.runDraw0 hT hmix m tss orc hchk e hv (by simpa using hc) hl
theorem AW.seqDrawS (hT : TOK P T) (hmix : P.follows .mixedOrders = true) (m : Nat) (tss : List (List Nat)) (orc orc2 : List PD) {id : Nat} {l : List Oper} {b : Code} (hchk : anyChk l m tss = true)
    (h : DGo P T G l st (l.take m) tss st orc [] fun sums st1 => confB l m sums = true ∧ AOpsO P G l.toArray (andThen (AW P G b Q) Q) (l.drop m) st1 orc2) : AW P G (.seq (.region id l.toArray true) b) Q st :=
  AW.seq (AW.drawS hT hmix m tss orc orc2 hchk h)
attribute [simp] draw1 draw1G Sm.sum Sm.foot Sm.tch Sm.refs
end
end Go.Proofs.YtgoepemmcibdaaaDoor.Sy
namespace Go.Proofs.YtgoepemmcibdaaaDoor
open Sy Go
set_option maxRecDepth 100000
set_option maxHeartbeats 4000000
set_option linter.unusedSimpArgs false
set_option linter.unusedVariables false
variable {G : Glob}
theorem cmpT_bare {a b : Val} (ha : mayT a = true) (hb : mayT b = true) : cmpT (bareV a) b = cmpT a b := by
  have h1 := cmpT_fuel (n := Val.sz a + 1) (a := bareV a) (b := b) (by rw [bare_may]; exact ha) hb (by rw [bare_sz]; omega)
  have h2 := cmpT_fuel (n := Val.sz a + 1) ha hb (by omega)
  rw [h1, h2, cmpF_bare1]
theorem cmpT_same {a b : Val} (ha : mayT a = true) (hb : mayT b = true) (h : bareV a = bareV b) : cmpT a b = 0 := by
  have ha' : mayT (bareV a) = true := by rw [bare_may]; exact ha
  rw [← cmpT_bare ha hb, h, cmpT_bare hb hb]
  exact cmpT_ord.refl hb
def in1 (n : Int) : Prop := -1 ≤ n ∧ n ≤ 1
theorem cmpI_in (a b : Int) : in1 (cmpI a b) := by unfold cmpI in1; (repeat' split) <;> omega
theorem cmpL_in {α : Type} {p : α → α → Int} : ∀ {l m : List α}, (∀ x ∈ l, ∀ y ∈ m, in1 (p x y)) → in1 (cmpL p l m)
  | [], [], _ => by unfold in1; simp [cmpL]
  | [], _ :: _, _ => by unfold in1; simp [cmpL]
  | _ :: _, [], _ => by unfold in1; simp [cmpL]
  | x :: l, y :: m, h => by
    simp only [cmpL]; split
    · exact h x (by simp) y (by simp)
    · exact cmpL_in fun a ha b hb => h a (by simp [ha]) b (by simp [hb])
theorem cmpS_in (a b : List UInt8) : in1 (cmpS a b) := by rw [cmpS_eq]; exact cmpL_in fun _ _ _ _ => cmpI_in _ _
theorem cmpF_in : ∀ (f : Nat) (a b : Val), mayT a = true → mayT b = true → in1 (cmpF f a b)
  | 0, _, _, _, _ => by unfold in1; simp [cmpF]
  | f + 1, a, b, ha, hb => by
    have key : ∀ l m : List Val, (∀ x ∈ l, x ∈ a.kids) → (∀ y ∈ m, y ∈ b.kids) → in1 (cmpL (cmpF f) l m) := fun l m hl hm => cmpL_in fun x hx y hy => cmpF_in f x y (may_kid ha (hl x hx)) (may_kid hb (hm y hy))
    rw [cmpF_succ]
    split
    · exact cmpI_in _ _
    · rename_i hk
      have hkk := cmpI_zero (a := a.kind) (b := b.kind) (by omega)
      unfold bodyF
      split
      · rename_i h4; rw [cmpD_spec (may_num ha h4) (may_num hb (by omega))]; unfold sgn in1; (repeat' split) <;> omega
      · split
        · rw [compareBytes_eq]; exact cmpL_in fun _ _ _ _ => cmpI_in _ _
        · split
          · exact key _ _ (fun _ h => h) fun _ h => h
          · split
            · exact cmpI_in _ _
            · split
              · rename_i h7
                split
                · exact cmpL_in fun _ _ _ _ => cmpS_in _ _
                · exact key _ _ (fun x hx => kidsS_mem (by have := may_obj ha h7; omega) hx) fun y hy => kidsS_mem (by have := may_obj hb (by omega); omega) hy
              · unfold in1; omega
/-- What the law asks of three values. -/
theorem order_law {a b c : Val} (ha : mayT a = true) (hb : mayT b = true) (hc : mayT c = true) : (bareV a = bareV b → cmpT a b = 0) ∧ cmpT b a = - cmpT a b ∧ cmpT a a = 0 ∧ (cmpT a b ≤ 0 → cmpT b c ≤ 0 → cmpT a c ≤ 0) ∧
    cmpT (bareV a) b = cmpT a b ∧ (cmpT a b = 0 → cmpT b c = 0 → cmpT a c = 0) ∧ in1 (cmpT a b) := by
  refine ⟨cmpT_same ha hb, cmpT_ord.anti b a hb ha, cmpT_ord.refl ha, cmpT_ord.tr a b c ha hb hc, cmpT_bare ha hb, fun h1 h2 => ?_, cmpF_in _ a b ha hb⟩
  have h3 := cmpT_ord.tr a b c ha hb hc (by omega) (by omega)
  have h4 := cmpT_ord.anti a b ha hb
  have h5 := cmpT_ord.anti b c hb hc
  have h6 := cmpT_ord.anti a c ha hc
  have h7 := cmpT_ord.tr c b a hc hb ha (by omega) (by omega)
  omega
theorem TreeOrder_ev (hG : U8 G) (l m n : List Item) (hl : ∀ x ∈ l, x.keys.length ≤ 140737488351232) (hm : ∀ x ∈ m, x.keys.length ≤ 140737488351232) (hn : ∀ x ∈ n, x.keys.length ≤ 140737488351232) : AFn Tryd.prog G 4 [.sl 6 (l.map Item.enc), .sl 6 (m.map Item.enc), .sl 6 (n.map Item.enc)] (.bool true) := by
  refine AFn.introU tok Tryd.func4 (by kernel_rfl) rfl rfl ?_
  simp only [Tryd.f4, enumA, List.map_cons, List.map_nil]
  have hsh := shown4_ev hG
  have hbl := Built_ev (G := G) l hl
  have hbm := Built_ev (G := G) m hm
  have hbn := Built_ev (G := G) n hn
  have ma := built_may l
  have mb := built_may m
  have mc := built_may n
  generalize builtM l = a at hbl ma
  generalize builtM m = b at hbm mb
  generalize builtM n = c at hbn mc
  obtain ⟨l1, l2, l3, l4, l5, l6, l7⟩ := order_law ma mb mc
  have h12 := cmpT_ev (G := G) a b ma mb
  have h23 := cmpT_ev (G := G) b c mb mc
  have h13 := cmpT_ev (G := G) a c ma mc
  have h21 := cmpT_ev (G := G) b a mb ma
  have h11 := cmpT_ev (G := G) a a ma ma
  have h42 := cmpT_ev (G := G) (bareV a) b (by rw [bare_may]; exact ma) mb
  have ba := bare_ev (G := G) a ma
  have bb := bare_ev (G := G) b mb
  have hs := sameT_ev (G := G) (bareV a) (bareV b)
  have l1' : sameT (bareV a) (bareV b) = true → cmpT a b = 0 := fun h => l1 ((sameT_iff _ _).1 h)
  rw [l2] at h21
  rw [l3] at h11
  rw [l5] at h42
  unfold in1 at l7
  generalize sameT (bareV a) (bareV b) = s at *
  generalize bareV a = a' at *
  generalize bareV b = b' at *
  generalize cmpT a b = x at *
  generalize cmpT b c = y at *
  generalize cmpT a c = z at *
  have f1 : IntKind.i64.wrap x = x := by simp [IntKind.wrap, IntKind.bits, IntKind.signed]; omega
  have f2 : (0 < x ∨ 0 < y ∨ z ≤ 0) = True := eq_true (by omega)
  have f2' : ((0 < x ∨ 0 < y) ∨ z ≤ 0) = True := eq_true (by omega)
  have f3 : (s = false ∨ x = 0) = True := eq_true (by cases s <;> simp_all)
  have f4 : (¬x = 0 ∨ ¬y = 0 ∨ z = 0) = True := eq_true (by omega)
  have f4' : ((¬x = 0 ∨ ¬y = 0) ∨ z = 0) = True := eq_true (by omega)
  simp only [Val.enc_def, Item.enc] at hbl hbm hbn h12 h23 h13 h21 h11 h42 ba bb hs
  refine AW.seqRegionO [] ?_
  refine AOpsO.one tok [0, 1, 2] (by intro C; conv => lhs; simp) (by first | with_reducible exact True.intro | omega | simp | (simp; omega) | (simp +contextual; omega)) rfl ?_
  refine AOpsO.nil ?_
  refine AW.seqRegionO [.nilp, .bool true] ?_
  refine AOpsO.one tok [0, 1, 2, 15] (by intro C; conv => lhs; simp) (by first | with_reducible exact True.intro | (exact hsh; done) | omega | simp | (simp; omega) | (simp +contextual; omega)) rfl ?_
  refine AOpsO.one tok [0, 1, 2, 7] (by intro C; conv => lhs; simp) (by first | with_reducible exact True.intro | (exact hsh; done) | omega | simp | (simp; omega) | (simp +contextual; omega)) rfl ?_
  refine AOpsO.nil ?_
  refine AW.seqRegionO [.nilp, a.enc] ?_
  refine AOpsO.one tok [1, 2, 7, 16] (by intro C; conv => lhs; simp) (by first | with_reducible exact True.intro | ((simp at hbl ⊢; exact hbl); done) | omega | simp | (simp; omega) | (simp +contextual; omega)) rfl ?_
  refine AOpsO.one tok [1, 2, 7, 17] (by intro C; conv => lhs; simp) (by first | with_reducible exact True.intro | ((simp at hbl ⊢; exact hbl); done) | omega | simp | (simp; omega) | (simp +contextual; omega)) rfl ?_
  refine AOpsO.one tok [1, 2, 7, 8, 17] (by intro C; conv => lhs; simp) (by first | with_reducible exact True.intro | ((simp at hbl ⊢; exact hbl); done) | omega | simp | (simp; omega) | (simp +contextual; omega)) rfl ?_
  refine AOpsO.one tok [1, 2, 7, 8] (by intro C; conv => lhs; simp) (by first | with_reducible exact True.intro | ((simp at hbl ⊢; exact hbl); done) | omega | simp | (simp; omega) | (simp +contextual; omega)) rfl ?_
  refine AOpsO.nil ?_
  refine AW.seqRegionO [.nilp, b.enc] ?_
  refine AOpsO.one tok [2, 7, 8, 18] (by intro C; conv => lhs; simp) (by first | with_reducible exact True.intro | ((simp at hbm ⊢; exact hbm); done) | omega | simp | (simp; omega) | (simp +contextual; omega)) rfl ?_
  refine AOpsO.one tok [2, 7, 8, 19] (by intro C; conv => lhs; simp) (by first | with_reducible exact True.intro | ((simp at hbm ⊢; exact hbm); done) | omega | simp | (simp; omega) | (simp +contextual; omega)) rfl ?_
  refine AOpsO.one tok [2, 7, 8, 9, 19] (by intro C; conv => lhs; simp) (by first | with_reducible exact True.intro | ((simp at hbm ⊢; exact hbm); done) | omega | simp | (simp; omega) | (simp +contextual; omega)) rfl ?_
  refine AOpsO.one tok [2, 7, 8, 9] (by intro C; conv => lhs; simp) (by first | with_reducible exact True.intro | ((simp at hbm ⊢; exact hbm); done) | omega | simp | (simp; omega) | (simp +contextual; omega)) rfl ?_
  refine AOpsO.nil ?_
  refine AW.seqRegionO [.nilp, c.enc] ?_
  refine AOpsO.one tok [7, 8, 9, 20] (by intro C; conv => lhs; simp) (by first | with_reducible exact True.intro | ((simp at hbn ⊢; exact hbn); done) | omega | simp | (simp; omega) | (simp +contextual; omega)) rfl ?_
  refine AOpsO.one tok [7, 8, 9, 21] (by intro C; conv => lhs; simp) (by first | with_reducible exact True.intro | ((simp at hbn ⊢; exact hbn); done) | omega | simp | (simp; omega) | (simp +contextual; omega)) rfl ?_
  refine AOpsO.one tok [7, 8, 9, 10, 21] (by intro C; conv => lhs; simp) (by first | with_reducible exact True.intro | ((simp at hbn ⊢; exact hbn); done) | omega | simp | (simp; omega) | (simp +contextual; omega)) rfl ?_
  refine AOpsO.one tok [7, 8, 9, 10] (by intro C; conv => lhs; simp) (by first | with_reducible exact True.intro | ((simp at hbn ⊢; exact hbn); done) | omega | simp | (simp; omega) | (simp +contextual; omega)) rfl ?_
  refine AOpsO.nil ?_
  refine AW.seqRegionO [.nilp, .int .i64 x] ?_
  refine AOpsO.one tok [7, 8, 9, 10, 22] (by intro C; conv => lhs; simp) (by first | with_reducible exact True.intro | (exact h12; done) | omega | simp | (simp; omega) | (simp +contextual; omega)) rfl ?_
  refine AOpsO.one tok [7, 8, 9, 10, 22, 23] (by intro C; conv => lhs; simp) (by first | with_reducible exact True.intro | (exact h12; done) | omega | simp | (simp; omega) | (simp +contextual; omega)) rfl ?_
  refine AOpsO.one tok [7, 8, 9, 10, 24] (by intro C; conv => lhs; simp) (by first | with_reducible exact True.intro | (exact h12; done) | omega | simp | (simp; omega) | (simp +contextual; omega)) rfl ?_
  refine AOpsO.one tok [7, 8, 9, 10, 11] (by intro C; conv => lhs; simp) (by first | with_reducible exact True.intro | (exact h12; done) | omega | simp | (simp; omega) | (simp +contextual; omega)) rfl ?_
  refine AOpsO.nil ?_
  refine AW.seqRegionO [.nilp, .int .i64 y] ?_
  refine AOpsO.one tok [7, 8, 9, 10, 11, 25] (by intro C; conv => lhs; simp) (by first | with_reducible exact True.intro | (exact h23; done) | omega | simp | (simp; omega) | (simp +contextual; omega)) rfl ?_
  refine AOpsO.one tok [7, 8, 9, 10, 11, 25, 26] (by intro C; conv => lhs; simp) (by first | with_reducible exact True.intro | (exact h23; done) | omega | simp | (simp; omega) | (simp +contextual; omega)) rfl ?_
  refine AOpsO.one tok [7, 8, 9, 10, 11, 27] (by intro C; conv => lhs; simp) (by first | with_reducible exact True.intro | (exact h23; done) | omega | simp | (simp; omega) | (simp +contextual; omega)) rfl ?_
  refine AOpsO.one tok [7, 8, 9, 10, 11, 12] (by intro C; conv => lhs; simp) (by first | with_reducible exact True.intro | (exact h23; done) | omega | simp | (simp; omega) | (simp +contextual; omega)) rfl ?_
  refine AOpsO.nil ?_
  refine AW.seqRegionO [.nilp, .int .i64 z] ?_
  refine AOpsO.one tok [7, 8, 9, 10, 11, 12, 28] (by intro C; conv => lhs; simp) (by first | with_reducible exact True.intro | (exact h13; done) | omega | simp | (simp; omega) | (simp +contextual; omega)) rfl ?_
  refine AOpsO.one tok [7, 8, 9, 11, 12, 28, 29] (by intro C; conv => lhs; simp) (by first | with_reducible exact True.intro | (exact h13; done) | omega | simp | (simp; omega) | (simp +contextual; omega)) rfl ?_
  refine AOpsO.one tok [7, 8, 9, 11, 12, 30] (by intro C; conv => lhs; simp) (by first | with_reducible exact True.intro | (exact h13; done) | omega | simp | (simp; omega) | (simp +contextual; omega)) rfl ?_
  refine AOpsO.one tok [7, 8, 9, 11, 12, 13] (by intro C; conv => lhs; simp) (by first | with_reducible exact True.intro | (exact h13; done) | omega | simp | (simp; omega) | (simp +contextual; omega)) rfl ?_
  refine AOpsO.nil ?_
  refine AW.seqDrawS tok mixed 10 [[8], [31], [9], [33], [32, 34], [35], [36], [11, 37], [38, 37], [37, 39]] [.nilp, a'.enc, .nilp, b'.enc, .nilp, .bool s] [] (by kernel_rfl) ?_
  refine DGo.one (by intro C; conv => lhs; simp [f3]) (by first | with_reducible exact True.intro | (first | exact ba | exact bb | exact hs; done) | omega | simp | (simp; omega) | (simp +contextual; omega)) rfl (by kernel_rfl) ?_
  refine DGo.one (by intro C; conv => lhs; simp [f3]) (by first | with_reducible exact True.intro | (first | exact ba | exact bb | exact hs; done) | omega | simp | (simp; omega) | (simp +contextual; omega)) rfl (by kernel_rfl) ?_
  refine DGo.one (by intro C; conv => lhs; simp [f3]) (by first | with_reducible exact True.intro | (first | exact ba | exact bb | exact hs; done) | omega | simp | (simp; omega) | (simp +contextual; omega)) rfl (by kernel_rfl) ?_
  refine DGo.one (by intro C; conv => lhs; simp [f3]) (by first | with_reducible exact True.intro | (first | exact ba | exact bb | exact hs; done) | omega | simp | (simp; omega) | (simp +contextual; omega)) rfl (by kernel_rfl) ?_
  refine DGo.one (by intro C; conv => lhs; simp [f3]) (by first | with_reducible exact True.intro | (first | exact ba | exact bb | exact hs; done) | omega | simp | (simp; omega) | (simp +contextual; omega)) rfl (by kernel_rfl) ?_
  refine DGo.one (by intro C; conv => lhs; simp [f3]) (by first | with_reducible exact True.intro | (first | exact ba | exact bb | exact hs; done) | omega | simp | (simp; omega) | (simp +contextual; omega)) rfl (by kernel_rfl) ?_
  refine DGo.one (by intro C; conv => lhs; simp [f3]) (by first | with_reducible exact True.intro | (first | exact ba | exact bb | exact hs; done) | omega | simp | (simp; omega) | (simp +contextual; omega)) rfl (by kernel_rfl) ?_
  refine DGo.oneIf 37 (by intro C; conv => lhs; simp [f3]) (by first | with_reducible exact True.intro | (first | exact ba | exact bb | exact hs; done) | omega | simp | (simp; omega) | (simp +contextual; omega)) rfl rfl (by kernel_rfl) ?_
  refine DGo.oneIf 37 (by intro C; conv => lhs; simp [f3]) (by first | with_reducible exact True.intro | (first | exact ba | exact bb | exact hs; done) | omega | simp | (simp; omega) | (simp +contextual; omega)) rfl rfl (by kernel_rfl) ?_
  refine DGo.one (by intro C; conv => lhs; simp [f3]) (by first | with_reducible exact True.intro | (first | exact ba | exact bb | exact hs; done) | omega | simp | (simp; omega) | (simp +contextual; omega)) rfl (by kernel_rfl) ?_
  refine DGo.nil (by kernel_rfl) ⟨by kernel_rfl, ?_⟩
  refine AOpsO.one tok [7, 8, 9, 11, 12, 13, 14] (by intro C; conv => lhs; simp [f3]) (by first | with_reducible exact True.intro | omega | simp | (simp; omega) | (simp +contextual; omega)) rfl ?_
  refine AOpsO.nil ?_
  refine AW.seqDrawS tok mixed 50 [[7], [41], [11, 42], [9, 42], [8, 42], [44, 45, 42], [46, 42], [43, 47, 42], [42, 48], [49], [8, 50], [8, 50], [51, 52, 50], [53, 50], [50, 54], [55], [11, 56], [57, 56], [58, 56], [12, 59], [60, 59], [59, 61, 56], [62, 56], [13, 63], [64, 63], [63, 65, 56], [56, 66], [67], [8, 68], [69, 68], [9, 68], [70, 71, 68], [11, 68], [72, 73, 68], [68, 74], [75], [14, 76], [76, 77], [78], [11, 79], [80, 79], [81, 79], [12, 82], [83, 82], [82, 84, 79], [85, 79], [13, 86], [87, 86], [86, 88, 79], [79, 89]] [.nilp, .int .i64 (-x), .nilp, .int .i64 0, .nilp, a'.enc, .nilp, .int .i64 x] [] (by kernel_rfl) ?_
  refine DGo.one (by intro C; conv => lhs; simp [f1, f2, f2', f3, f4, f4']) (by first | with_reducible exact True.intro | (first | exact fun _ => h21 | exact h21 | exact h11 | exact ba | exact h42; done) | omega | simp | (simp; omega) | (simp +contextual; omega)) rfl (by kernel_rfl) ?_
  refine DGo.one (by intro C; conv => lhs; simp [f1, f2, f2', f3, f4, f4']) (by first | with_reducible exact True.intro | (first | exact fun _ => h21 | exact h21 | exact h11 | exact ba | exact h42; done) | omega | simp | (simp; omega) | (simp +contextual; omega)) rfl (by kernel_rfl) ?_
  refine DGo.oneIf 42 (by intro C; conv => lhs; simp [f1, f2, f2', f3, f4, f4']) (by first | with_reducible exact True.intro | (first | exact fun _ => h21 | exact h21 | exact h11 | exact ba | exact h42; done) | omega | simp | (simp; omega) | (simp +contextual; omega)) rfl rfl (by kernel_rfl) ?_
  refine DGo.oneIf 42 (by intro C; conv => lhs; simp [f1, f2, f2', f3, f4, f4']) (by first | with_reducible exact True.intro | (first | exact fun _ => h21 | exact h21 | exact h11 | exact ba | exact h42; done) | omega | simp | (simp; omega) | (simp +contextual; omega)) rfl rfl (by kernel_rfl) ?_
  refine DGo.oneIf 42 (by intro C; conv => lhs; simp [f1, f2, f2', f3, f4, f4']) (by first | with_reducible exact True.intro | (first | exact fun _ => h21 | exact h21 | exact h11 | exact ba | exact h42; done) | omega | simp | (simp; omega) | (simp +contextual; omega)) rfl rfl (by kernel_rfl) ?_
  refine DGo.oneIf 42 (by intro C; conv => lhs; simp [f1, f2, f2', f3, f4, f4']) (by first | with_reducible exact True.intro | (first | exact fun _ => h21 | exact h21 | exact h11 | exact ba | exact h42; done) | omega | simp | (simp; omega) | (simp +contextual; omega)) rfl rfl (by kernel_rfl) ?_
  refine DGo.oneIf 42 (by intro C; conv => lhs; simp [f1, f2, f2', f3, f4, f4']) (by first | with_reducible exact True.intro | (first | exact fun _ => h21 | exact h21 | exact h11 | exact ba | exact h42; done) | omega | simp | (simp; omega) | (simp +contextual; omega)) rfl rfl (by kernel_rfl) ?_
  refine DGo.oneIf 42 (by intro C; conv => lhs; simp [f1, f2, f2', f3, f4, f4']) (by first | with_reducible exact True.intro | (first | exact fun _ => h21 | exact h21 | exact h11 | exact ba | exact h42; done) | omega | simp | (simp; omega) | (simp +contextual; omega)) rfl rfl (by kernel_rfl) ?_
  refine DGo.one (by intro C; conv => lhs; simp [f1, f2, f2', f3, f4, f4']) (by first | with_reducible exact True.intro | (first | exact fun _ => h21 | exact h21 | exact h11 | exact ba | exact h42; done) | omega | simp | (simp; omega) | (simp +contextual; omega)) rfl (by kernel_rfl) ?_
  refine DGo.one (by intro C; conv => lhs; simp [f1, f2, f2', f3, f4, f4']) (by first | with_reducible exact True.intro | (first | exact fun _ => h21 | exact h21 | exact h11 | exact ba | exact h42; done) | omega | simp | (simp; omega) | (simp +contextual; omega)) rfl (by kernel_rfl) ?_
  refine DGo.oneIf 50 (by intro C; conv => lhs; simp [f1, f2, f2', f3, f4, f4']) (by first | with_reducible exact True.intro | (first | exact fun _ => h21 | exact h21 | exact h11 | exact ba | exact h42; done) | omega | simp | (simp; omega) | (simp +contextual; omega)) rfl rfl (by kernel_rfl) ?_
  refine DGo.oneIf 50 (by intro C; conv => lhs; simp [f1, f2, f2', f3, f4, f4']) (by first | with_reducible exact True.intro | (first | exact fun _ => h21 | exact h21 | exact h11 | exact ba | exact h42; done) | omega | simp | (simp; omega) | (simp +contextual; omega)) rfl rfl (by kernel_rfl) ?_
  refine DGo.oneIf 50 (by intro C; conv => lhs; simp [f1, f2, f2', f3, f4, f4']) (by first | with_reducible exact True.intro | (first | exact fun _ => h21 | exact h21 | exact h11 | exact ba | exact h42; done) | omega | simp | (simp; omega) | (simp +contextual; omega)) rfl rfl (by kernel_rfl) ?_
  refine DGo.oneIf 50 (by intro C; conv => lhs; simp [f1, f2, f2', f3, f4, f4']) (by first | with_reducible exact True.intro | (first | exact fun _ => h21 | exact h21 | exact h11 | exact ba | exact h42; done) | omega | simp | (simp; omega) | (simp +contextual; omega)) rfl rfl (by kernel_rfl) ?_
  refine DGo.one (by intro C; conv => lhs; simp [f1, f2, f2', f3, f4, f4']) (by first | with_reducible exact True.intro | (first | exact fun _ => h21 | exact h21 | exact h11 | exact ba | exact h42; done) | omega | simp | (simp; omega) | (simp +contextual; omega)) rfl (by kernel_rfl) ?_
  refine DGo.one (by intro C; conv => lhs; simp [f1, f2, f2', f3, f4, f4']) (by first | with_reducible exact True.intro | (first | exact fun _ => h21 | exact h21 | exact h11 | exact ba | exact h42; done) | omega | simp | (simp; omega) | (simp +contextual; omega)) rfl (by kernel_rfl) ?_
  refine DGo.oneIf 56 (by intro C; conv => lhs; simp [f1, f2, f2', f3, f4, f4']) (by first | with_reducible exact True.intro | (first | exact fun _ => h21 | exact h21 | exact h11 | exact ba | exact h42; done) | omega | simp | (simp; omega) | (simp +contextual; omega)) rfl rfl (by kernel_rfl) ?_
  refine DGo.oneIf 56 (by intro C; conv => lhs; simp [f1, f2, f2', f3, f4, f4']) (by first | with_reducible exact True.intro | (first | exact fun _ => h21 | exact h21 | exact h11 | exact ba | exact h42; done) | omega | simp | (simp; omega) | (simp +contextual; omega)) rfl rfl (by kernel_rfl) ?_
  refine DGo.oneIf 56 (by intro C; conv => lhs; simp [f1, f2, f2', f3, f4, f4']) (by first | with_reducible exact True.intro | (first | exact fun _ => h21 | exact h21 | exact h11 | exact ba | exact h42; done) | omega | simp | (simp; omega) | (simp +contextual; omega)) rfl rfl (by kernel_rfl) ?_
  refine DGo.oneIf 59 (by intro C; conv => lhs; simp [f1, f2, f2', f3, f4, f4']) (by first | with_reducible exact True.intro | (first | exact fun _ => h21 | exact h21 | exact h11 | exact ba | exact h42; done) | omega | simp | (simp; omega) | (simp +contextual; omega)) rfl rfl (by kernel_rfl) ?_
  refine DGo.oneIf 59 (by intro C; conv => lhs; simp [f1, f2, f2', f3, f4, f4']) (by first | with_reducible exact True.intro | (first | exact fun _ => h21 | exact h21 | exact h11 | exact ba | exact h42; done) | omega | simp | (simp; omega) | (simp +contextual; omega)) rfl rfl (by kernel_rfl) ?_
  refine DGo.oneIf 56 (by intro C; conv => lhs; simp [f1, f2, f2', f3, f4, f4']) (by first | with_reducible exact True.intro | (first | exact fun _ => h21 | exact h21 | exact h11 | exact ba | exact h42; done) | omega | simp | (simp; omega) | (simp +contextual; omega)) rfl rfl (by kernel_rfl) ?_
  refine DGo.oneIf 56 (by intro C; conv => lhs; simp [f1, f2, f2', f3, f4, f4']) (by first | with_reducible exact True.intro | (first | exact fun _ => h21 | exact h21 | exact h11 | exact ba | exact h42; done) | omega | simp | (simp; omega) | (simp +contextual; omega)) rfl rfl (by kernel_rfl) ?_
  refine DGo.oneIf 63 (by intro C; conv => lhs; simp [f1, f2, f2', f3, f4, f4']) (by first | with_reducible exact True.intro | (first | exact fun _ => h21 | exact h21 | exact h11 | exact ba | exact h42; done) | omega | simp | (simp; omega) | (simp +contextual; omega)) rfl rfl (by kernel_rfl) ?_
  refine DGo.oneIf 63 (by intro C; conv => lhs; simp [f1, f2, f2', f3, f4, f4']) (by first | with_reducible exact True.intro | (first | exact fun _ => h21 | exact h21 | exact h11 | exact ba | exact h42; done) | omega | simp | (simp; omega) | (simp +contextual; omega)) rfl rfl (by kernel_rfl) ?_
  refine DGo.oneIf 56 (by intro C; conv => lhs; simp [f1, f2, f2', f3, f4, f4']) (by first | with_reducible exact True.intro | (first | exact fun _ => h21 | exact h21 | exact h11 | exact ba | exact h42; done) | omega | simp | (simp; omega) | (simp +contextual; omega)) rfl rfl (by kernel_rfl) ?_
  refine DGo.one (by intro C; conv => lhs; simp [f1, f2, f2', f3, f4, f4']) (by first | with_reducible exact True.intro | (first | exact fun _ => h21 | exact h21 | exact h11 | exact ba | exact h42; done) | omega | simp | (simp; omega) | (simp +contextual; omega)) rfl (by kernel_rfl) ?_
  refine DGo.one (by intro C; conv => lhs; simp [f1, f2, f2', f3, f4, f4']) (by first | with_reducible exact True.intro | (first | exact fun _ => h21 | exact h21 | exact h11 | exact ba | exact h42; done) | omega | simp | (simp; omega) | (simp +contextual; omega)) rfl (by kernel_rfl) ?_
  refine DGo.oneIf 68 (by intro C; conv => lhs; simp [f1, f2, f2', f3, f4, f4']) (by first | with_reducible exact True.intro | (first | exact fun _ => h21 | exact h21 | exact h11 | exact ba | exact h42; done) | omega | simp | (simp; omega) | (simp +contextual; omega)) rfl rfl (by kernel_rfl) ?_
  refine DGo.oneIf 68 (by intro C; conv => lhs; simp [f1, f2, f2', f3, f4, f4']) (by first | with_reducible exact True.intro | (first | exact fun _ => h21 | exact h21 | exact h11 | exact ba | exact h42; done) | omega | simp | (simp; omega) | (simp +contextual; omega)) rfl rfl (by kernel_rfl) ?_
  refine DGo.oneIf 68 (by intro C; conv => lhs; simp [f1, f2, f2', f3, f4, f4']) (by first | with_reducible exact True.intro | (first | exact fun _ => h21 | exact h21 | exact h11 | exact ba | exact h42; done) | omega | simp | (simp; omega) | (simp +contextual; omega)) rfl rfl (by kernel_rfl) ?_
  refine DGo.oneIf 68 (by intro C; conv => lhs; simp [f1, f2, f2', f3, f4, f4']) (by first | with_reducible exact True.intro | (first | exact fun _ => h21 | exact h21 | exact h11 | exact ba | exact h42; done) | omega | simp | (simp; omega) | (simp +contextual; omega)) rfl rfl (by kernel_rfl) ?_
  refine DGo.oneIf 68 (by intro C; conv => lhs; simp [f1, f2, f2', f3, f4, f4']) (by first | with_reducible exact True.intro | (first | exact fun _ => h21 | exact h21 | exact h11 | exact ba | exact h42; done) | omega | simp | (simp; omega) | (simp +contextual; omega)) rfl rfl (by kernel_rfl) ?_
  refine DGo.oneIf 68 (by intro C; conv => lhs; simp [f1, f2, f2', f3, f4, f4']) (by first | with_reducible exact True.intro | (first | exact fun _ => h21 | exact h21 | exact h11 | exact ba | exact h42; done) | omega | simp | (simp; omega) | (simp +contextual; omega)) rfl rfl (by kernel_rfl) ?_
  refine DGo.one (by intro C; conv => lhs; simp [f1, f2, f2', f3, f4, f4']) (by first | with_reducible exact True.intro | (first | exact fun _ => h21 | exact h21 | exact h11 | exact ba | exact h42; done) | omega | simp | (simp; omega) | (simp +contextual; omega)) rfl (by kernel_rfl) ?_
  refine DGo.one (by intro C; conv => lhs; simp [f1, f2, f2', f3, f4, f4']) (by first | with_reducible exact True.intro | (first | exact fun _ => h21 | exact h21 | exact h11 | exact ba | exact h42; done) | omega | simp | (simp; omega) | (simp +contextual; omega)) rfl (by kernel_rfl) ?_
  refine DGo.oneIf 76 (by intro C; conv => lhs; simp [f1, f2, f2', f3, f4, f4']) (by first | with_reducible exact True.intro | (first | exact fun _ => h21 | exact h21 | exact h11 | exact ba | exact h42; done) | omega | simp | (simp; omega) | (simp +contextual; omega)) rfl rfl (by kernel_rfl) ?_
  refine DGo.one (by intro C; conv => lhs; simp [f1, f2, f2', f3, f4, f4']) (by first | with_reducible exact True.intro | (first | exact fun _ => h21 | exact h21 | exact h11 | exact ba | exact h42; done) | omega | simp | (simp; omega) | (simp +contextual; omega)) rfl (by kernel_rfl) ?_
  refine DGo.one (by intro C; conv => lhs; simp [f1, f2, f2', f3, f4, f4']) (by first | with_reducible exact True.intro | (first | exact fun _ => h21 | exact h21 | exact h11 | exact ba | exact h42; done) | omega | simp | (simp; omega) | (simp +contextual; omega)) rfl (by kernel_rfl) ?_
  refine DGo.oneIf 79 (by intro C; conv => lhs; simp [f1, f2, f2', f3, f4, f4']) (by first | with_reducible exact True.intro | (first | exact fun _ => h21 | exact h21 | exact h11 | exact ba | exact h42; done) | omega | simp | (simp; omega) | (simp +contextual; omega)) rfl rfl (by kernel_rfl) ?_
  refine DGo.oneIf 79 (by intro C; conv => lhs; simp [f1, f2, f2', f3, f4, f4']) (by first | with_reducible exact True.intro | (first | exact fun _ => h21 | exact h21 | exact h11 | exact ba | exact h42; done) | omega | simp | (simp; omega) | (simp +contextual; omega)) rfl rfl (by kernel_rfl) ?_
  refine DGo.oneIf 79 (by intro C; conv => lhs; simp [f1, f2, f2', f3, f4, f4']) (by first | with_reducible exact True.intro | (first | exact fun _ => h21 | exact h21 | exact h11 | exact ba | exact h42; done) | omega | simp | (simp; omega) | (simp +contextual; omega)) rfl rfl (by kernel_rfl) ?_
  refine DGo.oneIf 82 (by intro C; conv => lhs; simp [f1, f2, f2', f3, f4, f4']) (by first | with_reducible exact True.intro | (first | exact fun _ => h21 | exact h21 | exact h11 | exact ba | exact h42; done) | omega | simp | (simp; omega) | (simp +contextual; omega)) rfl rfl (by kernel_rfl) ?_
  refine DGo.oneIf 82 (by intro C; conv => lhs; simp [f1, f2, f2', f3, f4, f4']) (by first | with_reducible exact True.intro | (first | exact fun _ => h21 | exact h21 | exact h11 | exact ba | exact h42; done) | omega | simp | (simp; omega) | (simp +contextual; omega)) rfl rfl (by kernel_rfl) ?_
  refine DGo.oneIf 79 (by intro C; conv => lhs; simp [f1, f2, f2', f3, f4, f4']) (by first | with_reducible exact True.intro | (first | exact fun _ => h21 | exact h21 | exact h11 | exact ba | exact h42; done) | omega | simp | (simp; omega) | (simp +contextual; omega)) rfl rfl (by kernel_rfl) ?_
  refine DGo.oneIf 79 (by intro C; conv => lhs; simp [f1, f2, f2', f3, f4, f4']) (by first | with_reducible exact True.intro | (first | exact fun _ => h21 | exact h21 | exact h11 | exact ba | exact h42; done) | omega | simp | (simp; omega) | (simp +contextual; omega)) rfl rfl (by kernel_rfl) ?_
  refine DGo.oneIf 86 (by intro C; conv => lhs; simp [f1, f2, f2', f3, f4, f4']) (by first | with_reducible exact True.intro | (first | exact fun _ => h21 | exact h21 | exact h11 | exact ba | exact h42; done) | omega | simp | (simp; omega) | (simp +contextual; omega)) rfl rfl (by kernel_rfl) ?_
  refine DGo.oneIf 86 (by intro C; conv => lhs; simp [f1, f2, f2', f3, f4, f4']) (by first | with_reducible exact True.intro | (first | exact fun _ => h21 | exact h21 | exact h11 | exact ba | exact h42; done) | omega | simp | (simp; omega) | (simp +contextual; omega)) rfl rfl (by kernel_rfl) ?_
  refine DGo.oneIf 79 (by intro C; conv => lhs; simp [f1, f2, f2', f3, f4, f4']) (by first | with_reducible exact True.intro | (first | exact fun _ => h21 | exact h21 | exact h11 | exact ba | exact h42; done) | omega | simp | (simp; omega) | (simp +contextual; omega)) rfl rfl (by kernel_rfl) ?_
  refine DGo.one (by intro C; conv => lhs; simp [f1, f2, f2', f3, f4, f4']) (by first | with_reducible exact True.intro | (first | exact fun _ => h21 | exact h21 | exact h11 | exact ba | exact h42; done) | omega | simp | (simp; omega) | (simp +contextual; omega)) rfl (by kernel_rfl) ?_
  refine DGo.nil (by kernel_rfl) ⟨by kernel_rfl, ?_⟩
  refine AOpsO.one tok [6] (by intro C; conv => lhs; simp [f1, f2, f2', f3, f4, f4']) (by first | with_reducible exact True.intro | omega | simp | (simp; omega) | (simp +contextual; omega)) rfl ?_
  refine AOpsO.nil ?_
  exact AW.ret ⟨.inr rfl, _, _, by (conv => lhs; simp), trivial, by simp; omega⟩
end Go.Proofs.YtgoepemmcibdaaaDoor
namespace Go.Proofs.YtgoepemmcibdaaaDoor
open Sy Go
set_option maxRecDepth 100000
set_option linter.unusedSimpArgs false
/-- Texts that are handed in. -/
theorem in_texts {n : Nat} {cs : List PD} (h : ShC T (n + 2) 25 cs) : ∃ l : List (List UInt8), cs = [.sl 1 (l.map PD.str)] ∧ l.length ≤ 140737488351232 := by
  simp [ShC] at h
  obtain ⟨es, rfl, hl, h⟩ := h
  obtain ⟨l, rfl⟩ := list_of (f := PD.str) (es := es) (fun x hx => by
    obtain ⟨cs, rfl, s, rfl, _⟩ := h x hx
    exact ⟨s, by simp [packD]⟩)
  exact ⟨l, rfl, by simp at hl; omega⟩
/-- Items that are handed in. -/
theorem in_items {cs : List PD} (h : ShC T 4 22 cs) : ∃ l : List Item, cs = [.sl 6 (l.map Item.enc)] ∧ ∀ x ∈ l, x.keys.length ≤ 140737488351232 := by
  simp only [ShC] at h
  simp [ShF] at h
  obtain ⟨es, rfl, _, h⟩ := h
  obtain ⟨l, rfl, hl⟩ := list_of_p (f := Item.enc) (p := fun x => x.keys.length ≤ 140737488351232) (es := es) (fun x hx => by
    obtain ⟨cs, rfl, h⟩ := h x hx
    obtain ⟨_, _, rfl, ⟨k, rfl, _⟩, _, _, rfl, ⟨m, rfl, _⟩, _, _, rfl, ⟨mk, rfl, _⟩, _, _, rfl, ⟨nm, rfl, _⟩, _, _, rfl, ⟨tx, rfl, _⟩, es', rfl, hl', h'⟩ := h
    obtain ⟨ks, rfl⟩ := list_of (f := PD.str) (es := es') (fun x hx => by
      obtain ⟨cs, rfl, s, rfl, _⟩ := h' x hx
      exact ⟨s, by simp [packD]⟩)
    exact ⟨⟨k, m, mk, nm, tx, ks⟩, by simp [packD], by simp at hl'; simp only []; omega⟩)
  exact ⟨l, rfl, hl⟩
end Go.Proofs.YtgoepemmcibdaaaDoor
