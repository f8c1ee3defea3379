import Derived.Test.YtdojfdaglbphlaaGreatDoorK1
namespace Go.Proofs.YtdojfdaglbphlaaGreatDoor.Sy
open Go
section
variable {P : Program} {T : Tab} {G : Glob} {Q : Exit → St → Prop} {st st' : St}
theorem Rel.freezeAll {c : Ctx} {μ : Mu} {tmps : Array Value} {w : World} : ∀ (ids : List Nat) {M : FMap} {st : St}, Rel c M μ st tmps w → ∃ M', Rel c M' μ (freezeAll st ids) tmps w
 | [], M, _, r => ⟨M, r⟩
 | i :: l, M, st, r => by
  obtain ⟨M1, r1⟩ := r.freeze i
  exact Rel.freezeAll l r1
end
section
variable {P : Program} {T : Tab} {G : Glob}
theorem AX.ren {f : FuncId} {xs : List V} {H : List (Nat × Box)} {r : V} {ps : List Nat} {H' : List (Nat × Box)} (i j : Nat) (h : AX P G f xs H r ps H') (hf : (⟨[r], ps, H', 0⟩ : St).fresh j = true) : AX P G f xs H (r.ren i j) (ps.filter (· != i)) (renH i j H') := by
 refine ⟨h.1, fun M μ w vs hg rel => (h.2 M μ w vs hg rel).mono ?_⟩
 rintro e w' ⟨v, M', μ', rfl, r'⟩
 have := r'.ren (i := i) hf
 exact ⟨v, M', _, rfl, by simpa only [St.ren, V.renL] using this⟩
end
section
variable {P : Program} {T : Tab} {G : Glob} {Q : Exit → St → Prop} {l : List Oper} {m : Nat} {tss : List (List Nat)} {sms : List Sm}
inductive DRun (P : Program) (G : Glob) (st0 : St) : List Oper → List (List Nat) → St → List Sm → St → Prop
 | nil {tss : List (List Nat)} {st : St} : (st.H.map (·.1)).Nodup → DRun P G st0 [] tss st [] st
 | one {o : Oper} {rest : List Oper} {ts : List Nat} {tss : List (List Nat)} {st st2 : St} {s : Sm} {zs : List Sm} : o.guard = none → (st.H.map (·.1)).Nodup → Facts st0 s → (∀ p ∈ s.H, p ∈ st.H) →
   (∀ c M μ st' tmps w R K, GOKc G c → Rel c M μ st' tmps w → VLeL st'.tmps (maskT st.tmps ts) → (∀ id bx, (id, bx) ∈ s.H → (id, bx) ∈ st'.H) → (∀ n ∈ s.new, ({ st' with H := dropKeys (s.H.map (·.1)) st'.H } : St).fresh n = true) →
    (∀ u w' M' μ' H2, Rel c M' μ' { st' with H := H2 } tmps w' → RV M' μ' u s.x → (∀ p, p ∈ H2 ↔ p ∈ s.H' ∨ (p ∈ st'.H ∧ p.1 ∉ s.H.map (·.1))) → K (Act.put ⟨tmps, []⟩ o.dst u) w') → o.wp P ⟨tmps, []⟩ w K R) →
   DRun P G st0 rest tss (st.after o.dst s) zs st2 → DRun P G st0 (o :: rest) (ts :: tss) st (s :: zs) st2
theorem DRun.len {st0 : St} {rest : List Oper} {ts : List (List Nat)} {st st2 : St} {zs : List Sm} (h : DRun P G st0 rest ts st zs st2) : zs.length = rest.length := by
 induction h with
 | nil => rfl
 | one _ _ _ _ _ _ ih => simp [ih]
def DGoR (P : Program) (G : Glob) (st0 : St) (l : List Oper) (tss : List (List Nat)) (st : St) (acc : Sums) (K : Sums → St → Prop) : Prop := ∃ sms st1, DRun P G st0 l tss st sms st1 ∧ K (acc ++ sms.map Sm.sum) st1
variable {K : Sums → St → Prop} {st st' st0 : St} {rest : List Oper} {ts : List Nat} {orc orc' : List PD} {acc : Sums} {o : Oper} {sm : SumT} {v : Know → Prop}
theorem DGoR.nil (hn : ndB st.H = true) (k : K acc st) : DGoR P G st0 [] tss st acc K := ⟨_, _, .nil (ndB_nodup hn), by simpa using k⟩
theorem DGoR.one (hT : TOK P T) (h : ∀ C, draw1 C T G st0 ts o st orc = some (v C, st', sm, orc')) (hv : v (kn P G)) (hgd : o.guard = none) (hn : ndB st.H = true) (k : DGoR P G st0 rest tss st' (acc ++ [sm]) K) :
  DGoR P G st0 (o :: rest) (ts :: tss) st acc K := by
 have h1 := h (kn P G)
 unfold draw1 at h1
 split at h1
 ·rename_i v1 s orc1 h2
  simp only [Option.some.injEq, Prod.mk.injEq] at h1
  obtain ⟨h3, rfl, rfl, rfl⟩ := h1
  obtain ⟨sms, st1, e, hk⟩ := k
  have S := drawOne_goes hT (ndB_nodup hn) h2 (h3 ▸ hv)
  exact ⟨s :: sms, st1, .one hgd (ndB_nodup hn) ⟨S.q, S.good, S.ps, S.new⟩ (fun p hp => small_sub st _ p (S.H p hp)) S.goes e, by simpa using hk⟩
 ·cases h1
theorem r1 (hT : TOK P T) (k : DGoR P G st0 rest tss st' (acc ++ [sm]) K) (h : ∀ C, draw1 C T G st0 ts o st orc = some (v C, st', sm, orc') := by intro C; conv => lhs; simp) (hv : v (kn P G) := by first | with_reducible exact True.intro | omega | simp | (simp; omega) | (simp +contextual; omega)) (hgd : o.guard = none := by rfl) (hn : ndB st.H = true := by kernel_rfl) :
  DGoR P G st0 (o :: rest) (ts :: tss) st acc K := DGoR.one hT h hv hgd hn k
theorem DGoR.call {x : Operand} {args : Array Operand} {tys : Array TypeId} {f : FuncId} {xs : List V} {H : List (Nat × Box)} {r : V} {ps : List Nat} {H' : List (Nat × Box)} (new : List Nat) (hc : AX P G f xs H r ps H') (ho : o.op = .call { callee := .value x, args := args, argTypes := tys }) (hgd : o.guard = none)
  (hcx : CX G ⟨maskT st.tmps ts, H.map (·.1), H, st.base⟩ x args.toList f xs H r ps H') (hrest : (St.rest ⟨maskT st.tmps ts, H.map (·.1), H, st.base⟩ H ps).H = []) (hpins : ∀ i ∈ ps, i ∈ (St.rest ⟨maskT st.tmps ts, H.map (·.1), H, st.base⟩ H ps).pins)
  (hsub : ∀ p ∈ H, p ∈ st.H) (hnew : ∀ n ∈ new, st0.fresh n = true) (hky : ∀ i, keyIn i H' = true → i ∈ H.map (·.1) ∨ i ∈ new) (hgood : ∀ i ∈ V.ids r ++ idsH H', i ∈ ps ∨ i ∈ new) (hn : ndB st.H = true) (hst : st.after o.dst ⟨r, H, H', ps, new, false⟩ = st')
  (k : DGoR P G st0 rest tss st' (acc ++ [(Sm.mk r H H' ps new false).sum]) K) : DGoR P G st0 (o :: rest) (ts :: tss) st acc K := by
 subst hst
 obtain ⟨sms, st1, e, hk⟩ := k
 have hsn : (H.map (·.1)).Nodup := hcx.2.2.2.2.1
 have y := y_cx ho hc hcx
 refine ⟨⟨r, H, H', ps, new, false⟩ :: sms, st1, .one hgd (ndB_nodup hn) ⟨fun h => absurd h (by simp), hgood, hky, hnew⟩ hsub (fun c M μ st' tmps w R K hG rel hle hbox hnw k => ?_) e, by simpa using hk⟩
 exact goesD_do (s := ⟨r, H, H', ps, new, false⟩) (small := ⟨maskT st.tmps ts, H.map (·.1), H, st.base⟩) (s' := ({ St.rest (⟨maskT st.tmps ts, H.map (·.1), H, st.base⟩ : St) H ps with H := H' ++ (St.rest (⟨maskT st.tmps ts, H.map (·.1), H, st.base⟩ : St) H ps).H } : St)) rfl hsn (by show H' = H' ++ _; rw [hrest, List.append_nil]) (fun i hi => hpins i hi) hky hgood y c M μ st' tmps w R K hG rel hle hbox hnw k
end
end Go.Proofs.YtdojfdaglbphlaaGreatDoor.Sy
