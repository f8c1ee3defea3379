import Derived.Test.YtdjjmppnnkkloaaGreatDoorSCore26
namespace Go.Proofs.YtdjjmppnnkkloaaGreatDoor.Sy
open Go
set_option linter.unusedSimpArgs false
set_option linter.unusedVariables false
section
variable {P : Program} {T : Tab} {G : Glob} {l : List Oper} {tss : List (List Nat)} {K : Sums → St → Prop} {st st' st0 : St} {rest : List Oper} {ts : List Nat} {acc : Sums} {o : Oper}
theorem DGoR.callFlat (Hs : List (Nat × Box)) {x : Operand} {args : Array Operand} {tys : Array TypeId} {f : FuncId} {asl : List PD} {r : PD} {p : Prop} (hc : AFn P G f asl r) (ho : o.op = .call { callee := .value x, args := args, argTypes := tys }) (hgd : o.guard = none)
  (hf : (freezeAll ⟨maskT st.tmps ts, Hs.map (·.1), Hs, st.base⟩ (Hs.map (·.1))).arg G x = (p, .p (.fn f))) (hp : p) (hq : allP (args.toList.map fun y => ((freezeAll ⟨maskT st.tmps ts, Hs.map (·.1), Hs, st.base⟩ (Hs.map (·.1))).arg G y).1))
  (hfit : V.fitsL [] (args.toList.map fun y => ((freezeAll ⟨maskT st.tmps ts, Hs.map (·.1), Hs, st.base⟩ (Hs.map (·.1))).arg G y).2) asl) (hfl : r.flat = true) (hsub : ∀ p ∈ Hs, p ∈ st.H) (hids : ∀ i ∈ idsH Hs, i ∈ Hs.map (·.1)) (hn : ndB st.H = true) (hns : ndB Hs = true)
  (hst : st.after o.dst ⟨.p r, Hs, Hs, Hs.map (·.1), [], true⟩ = st') (k : DGoR P G st0 rest tss st' (acc ++ [(Sm.mk (.p r) Hs Hs (Hs.map (·.1)) [] true).sum]) K) : DGoR P G st0 (o :: rest) (ts :: tss) st acc K := by
 subst hst
 obtain ⟨sms, st1, e, hk⟩ := k
 have y := y_callFlat (P := P) (st := ⟨maskT st.tmps ts, Hs.map (·.1), Hs, st.base⟩) (Hs.map (·.1)) ho hf hp hc hq hfit hfl
 have hgood : ∀ i ∈ V.ids (V.p r) ++ idsH Hs, i ∈ Hs.map (·.1) ∨ i ∈ ([] : List Nat) := fun i hi => .inl (hids i (by simpa [V.ids] using hi))
 have hky : ∀ i, keyIn i Hs = true → i ∈ Hs.map (·.1) ∨ i ∈ ([] : List Nat) := fun i hi => by
  obtain ⟨b, hb⟩ := keyIn_iff.1 hi
  exact .inl (List.mem_map.2 ⟨_, hb, rfl⟩)
 refine ⟨⟨.p r, Hs, Hs, Hs.map (·.1), [], true⟩ :: sms, st1, .one hgd (ndB_nodup hn) ⟨fun _ => rfl, hgood, hky, by simp⟩ hsub (fun c M μ st' tmps w R K hG rel hle hbox hnw k => ?_) e, by simpa using hk⟩
 exact goesD_do (s := ⟨.p r, Hs, Hs, Hs.map (·.1), [], true⟩) (small := ⟨maskT st.tmps ts, Hs.map (·.1), Hs, st.base⟩) (s' := ⟨maskT st.tmps ts, Hs.map (·.1), Hs, st.base⟩) rfl (ndB_nodup hns) rfl (fun i hi => hi) hky hgood y c M μ st' tmps w R K hG rel hle hbox hnw k
end
end Go.Proofs.YtdjjmppnnkkloaaGreatDoor.Sy
