import Derived.Test.YtdojfdaglbphlaaGreatDoorK2
import Derived.Test.YtdojfdaglbphlaaGreatDoorK1
import Derived.Test.YtdojfdaglbphlaaGreatDoorM4
import Derived.Test.YtdojfdaglbphlaaGreatDoorM3
namespace Go.Proofs.YtdojfdaglbphlaaGreatDoor.Sy
open Go
mutual
def PD.flat : PD → Bool
 | .bool _ => true
 | .int _ _ => true
 | .str _ => true
 | .nilp => true
 | .nilf => true
 | .noerr => true
 | .err => true
 | .fn _ => true
 | .agg cs => PD.flatL cs
 | .tup cs => PD.flatL cs
 | .sl _ _ => false
 | .clo _ _ => false
 | .ref _ => false
def PD.flatL : List PD → Bool
 | [] => true
 | d :: ds => PD.flat d && PD.flatL ds
end
theorem qIH : ∀ {l : List PD}, PD.flatL l = true → ∀ {i : Nat} {d : PD}, l[i]? = some d → d.flat = true
 | [], _, i, d, h => by simp at h
 | e :: l, h, i, d, hd => by
  simp only [PD.flatL, Bool.and_eq_true] at h
  cases i with
  | zero => simp at hd; subst hd; exact h.1
  | succ i => simp at hd; exact qIH h.2 hd
theorem Rd.flat {M M' : qY} {u : Value} {d : PD} (r : Rd M u d) : d.flat = true → Rd M' u d := by
 induction r with
 | bool b => exact fun _ => .bool b
 | int h1 h2 => exact fun _ => .int h1 h2
 | str h1 h2 => exact fun _ => .str h1 h2
 | @agg arr cs h1 h2 h3 ih =>
  intro h
  simp only [PD.flat] at h
  exact .agg h1 h2 fun i u d hu hd => ih i u d hu hd (qIH h hd)
 | @tup arr cs h1 h2 ih =>
  intro h
  simp only [PD.flat] at h
  exact .tup h1 fun i u d hu hd => ih i u d hu hd (qIH h hd)
 | sl => intro h; simp only [PD.flat] at h; cases h
 | fn f => exact fun _ => .fn f
 | clo => intro h; simp only [PD.flat] at h; cases h
 | ref => intro h; simp only [PD.flat] at h; cases h
 | nilp => exact fun _ => .nilp
 | nilf => exact fun _ => .nilf
 | noerr => exact fun _ => .noerr
 | err => exact fun _ => .err
section
variable {P : Program} {T : Tab} {G : qS} {Q : Exit → St → Prop} {st st' : St}
theorem Rel.freezeAll {c : Ctx} {μ : Mu} {tmps : Array Value} {w : World} : ∀ (ids : List Nat) {M : qY} {st : St}, Rel c M μ st tmps w → ∃ M', Rel c M' μ (freezeAll st ids) tmps w
 | [], M, _, r => ⟨M, r⟩
 | i :: l, M, st, r => by
  obtain ⟨M1, r1⟩ := r.freeze i
  exact Rel.freezeAll l r1
theorem qFC (ids : List Nat) {o : Oper} {x : Operand} {args : Array Operand} {tys : Array TypeId} {f : FuncId} {asl : List PD} {r : PD} {p : Prop} (ho : o.op = .call { callee := .value x, args := args, argTypes := tys })
  (hf : (freezeAll st ids).arg G x = (p, .p (.fn f))) (hp : p) (hc : AFn P G f asl r) (hq : qEF (args.toList.map fun y => ((freezeAll st ids).arg G y).1)) (hfit : V.fitsL [] (args.toList.map fun y => ((freezeAll st ids).arg G y).2) asl) (hfl : r.flat = true) : qZ P G o st (.p r) st := by
 intro c M μ tmps w hg rel0
 obtain ⟨M1, rel⟩ := rel0.freezeAll ids
 have h1 := (qF hg rel hf hp).p_inv
 generalize hu : Act.eval ⟨tmps, []⟩ x = u at h1
 cases h1
 have hsize : args.size = asl.length := by
  have := V.fitsL_len hfit
  simpa using this
 have e : (execOp (Act.eval ⟨tmps, []⟩) o).run P w = .ok (.enter f (args.map (Act.eval ⟨tmps, []⟩))) w := by
  simp [execOp, ho, resolve, Deferred.ofValue, hu, invoke, kW hc.1]
 rw [e]
 have hrd : ∀ (i : Nat) u d, (args.map (Act.eval ⟨tmps, []⟩))[i]? = some u → asl[i]? = some d → Rd M1 u d := by
  intro i u d hu hd
  rw [Array.getElem?_map] at hu
  obtain ⟨y, hy, rfl⟩ := Option.map_eq_some_iff.1 hu
  have hyl : args.toList[i]? = some y := by simpa using hy
  have h2 : (args.toList.map fun y => ((freezeAll st ids).arg G y).2)[i]? = some ((freezeAll st ids).arg G y).2 := by rw [List.getElem?_map, hyl]; rfl
  have hv := qF (x := y) hg rel rfl (vN hq _ (List.mem_map.2 ⟨y, List.mem_of_getElem? hyl, rfl⟩))
  exact jY hv (V.fitsL_get hfit h2 hd)
 refine (hc.2 M1 w _ (hg.go rel) rel.mem (by simp [hsize]) hrd).mono ?_
 rintro e w' ⟨v, M', rfl, hv, hmem, hM, hold, hbel⟩
 exact ⟨v, rfl, M, μ, rel0.same (Grows.of_below hbel), .p (hv.flat hfl)⟩
end
section
variable {P : Program} {T : Tab} {G : qS}
theorem AX.ren {f : FuncId} {xs : List V} {H : List (Nat × Box)} {r : V} {ps : List Nat} {H' : List (Nat × Box)} (i j : Nat) (h : AX P G f xs H r ps H') (hf : (⟨[r], ps, H', 0⟩ : St).fresh j = true) : AX P G f xs H (r.ren i j) (ps.filter (· != i)) (qNE i j H') := by
 refine ⟨h.1, fun M μ w vs hg rel => (h.2 M μ w vs hg rel).mono ?_⟩
 rintro e w' ⟨v, M', μ', rfl, r'⟩
 have := r'.ren (i := i) hf
 exact ⟨v, M', _, rfl, by simpa only [St.ren, V.renL] using this⟩
end
section
variable {P : Program} {T : Tab} {G : qS} {Q : Exit → St → Prop} {l : List Oper} {m : Nat} {tss : List (List Nat)} {sms : List Sm}
inductive DRun (P : Program) (G : qS) (st0 : St) : List Oper → List (List Nat) → St → List Sm → St → Prop
 | nil {tss : List (List Nat)} {st : St} : (st.H.map (·.1)).Nodup → DRun P G st0 [] tss st [] st
 | one {o : Oper} {rest : List Oper} {ts : List Nat} {tss : List (List Nat)} {st st2 : St} {s : Sm} {zs : List Sm} : o.guard = none → (st.H.map (·.1)).Nodup → Facts st0 s → (∀ p ∈ s.H, p ∈ st.H) →
   (∀ c M μ st' tmps w R K, xC G c → Rel c M μ st' tmps w → kH st'.tmps (wO st.tmps ts) → (∀ id bx, (id, bx) ∈ s.H → (id, bx) ∈ st'.H) → (∀ n ∈ s.new, ({ st' with H := zH (s.H.map (·.1)) st'.H } : St).fresh n = true) →
    (∀ u w' M' μ' H2, Rel c M' μ' { st' with H := H2 } tmps w' → RV M' μ' u s.x → (∀ p, p ∈ H2 ↔ p ∈ s.H' ∨ (p ∈ st'.H ∧ p.1 ∉ s.H.map (·.1))) → K (Act.put ⟨tmps, []⟩ o.dst u) w') → o.wp P ⟨tmps, []⟩ w K R) →
   DRun P G st0 rest tss (st.after o.dst s) zs st2 → DRun P G st0 (o :: rest) (ts :: tss) st (s :: zs) st2
theorem DRun.len {st0 : St} {rest : List Oper} {ts : List (List Nat)} {st st2 : St} {zs : List Sm} (h : DRun P G st0 rest ts st zs st2) : zs.length = rest.length := by
 induction h with
 | nil => rfl
 | one _ _ _ _ _ _ ih => simp [ih]
theorem DRun.told (hchk : zY l m tss = true) (hconf : vJ l m (sms.map Sm.sum) = true) {st0 : St} {rest : List Oper} {ts : List (List Nat)} {st st2 : St} {zs : List Sm} (h : DRun P G st0 rest ts st zs st2) : ∀ k : Nat,
  rest = (l.take m).drop k → ts = tss.drop k → zs = sms.drop k → k ≤ m → sms.length = m → st.pins = st0.pins → st.base = st0.base → DoneD l m sms st0 (fun j => decide (j < k)) st.tmps st.H →
  (∀ i, k ≤ i → i < m → Told P G l m sms st0 i) ∧ st2.pins = st0.pins ∧ st2.base = st0.base ∧ DoneD l m sms st0 (fun j => decide (j < m)) st2.tmps st2.H ∧ (st2.H.map (·.1)).Nodup := by
 induction h with
 | @nil ts st hnd =>
  intro k hr _ hz hk hxl hp hb D
  have hkm : k = m := by
   have h3 : (List.drop k (List.take m l)).length = 0 := by rw [← hr]; rfl
   have := qBP hchk
   simp at h3
   omega
  subst hkm
  exact ⟨fun i h1 h2 => by omega, hp, hb, D, hnd⟩
 | @one o rest t1 tss1 st st2 s zs hgd hnd F hsub hgo _ ih =>
  intro k hr hts hz hk hxl hp hb D
  have hkm : k < m := by
   have h3 : (List.drop k (List.take m l)).length = rest.length + 1 := by rw [← hr]; rfl
   simp at h3
   omega
  obtain ⟨o', ho', htk, hsep⟩ := xP hchk hkm
  have hoo : o = o' := by
   have h3 : (List.drop k (List.take m l))[0]? = some o := by rw [← hr]; rfl
   rw [List.getElem?_drop, List.getElem?_take, Nat.add_zero, if_pos hkm, ho'] at h3
   cases h3; rfl
  subst hoo
  have hrest : rest = (l.take m).drop (k + 1) := by
   have := congrArg (List.drop 1) hr
   simpa [List.drop_drop, Nat.add_comm] using this
  have ht1 : t1 = o.looksAt l.toArray := by
   have h3 : (List.drop k tss)[0]? = some t1 := by rw [← hts]; rfl
   rw [List.getElem?_drop, Nat.add_zero, htk] at h3
   cases h3; rfl
  have hts1 : tss1 = tss.drop (k + 1) := by
   have := congrArg (List.drop 1) hts
   simpa [List.drop_drop, Nat.add_comm] using this
  have hdk : yH l k = o.dst := by simp [yH, ho']
  have hxk : sms[k]? = some s := by
   have h3 : (List.drop k sms)[0]? = some s := by rw [← hz]; rfl
   rw [List.getElem?_drop, Nat.add_zero] at h3; exact h3
  have hz' : zs = sms.drop (k + 1) := by
   have := congrArg (List.drop 1) hz
   simpa [List.drop_drop, Nat.add_comm] using this
  have D' : DoneD l m sms st0 (fun j => decide (j < k + 1)) (st.after o.dst s).tmps (st.after o.dst s).H := by
   have := D.go hchk hconf (DC.below hchk k) (L' := fun j => decide (j < k + 1)) hkm hdk hxk (by simp) F (fun j => by
    by_cases h1 : j < k
    ·simp [h1, show j < k + 1 by omega]
    ·by_cases h2 : j = k
     ·simp [h2]
     ·simp [h1, h2, show ¬ j < k + 1 by omega]) hsub hnd (H2 := s.H' ++ zH (s.H.map (·.1)) st.H) (fun p => by rw [List.mem_append, yY])
   have e1 : (st.after o.dst s).tmps = qNF st.tmps o.dst s.x := by cases hq : o.dst <;> rfl
   rw [e1]; exact this
  have e2 : (st.after o.dst s).pins = st.pins := by cases hq : o.dst <;> rfl
  have e3 : (st.after o.dst s).base = st.base := by cases hq : o.dst <;> rfl
  obtain ⟨h1, h2, h3⟩ := ih (k + 1) hrest hts1 hz' hkm hxl (e2.trans hp) (e3.trans hb) D'
  refine ⟨fun i hi1 hi2 => ?_, h2, h3⟩
  rcases Nat.eq_or_lt_of_le hi1 with e | e
  ·subst e
   subst ht1
   exact ⟨o, s, st.tmps, st.H, ho', hxk, D, F, hsub, qJK ho' hgd hgo⟩
  ·exact h1 i e hi2
theorem AW.runDraw1 (hmix : P.follows .mixedOrders = true) (m : Nat) (tss : List (List Nat)) {id : Nat} {st st1 : St} {sms : List Sm} (hchk : zY l m tss = true)
  (h1 : DRun P G st (l.take m) tss st sms st1) (hconf : vJ l m (sms.map Sm.sum) = true) (hlate : zB P G l.toArray Q (l.drop m) st1) :
  AW P G (.region id l.toArray true) Q st := by
 intro c M μ tmps w hg r
 refine wp_region_any hmix ?_
 have hml := qBP hchk
 have hxl : sms.length = m := by
  rw [h1.len]; simp; omega
 obtain ⟨hgo, hp2, _, D2, hnd2⟩ := h1.told hchk hconf 0 (by simp) (by simp) (by simp) (Nat.zero_le _) hxl rfl rfl (DoneD.put0 st)
 have hsize : l.toArray.size = l.length := by simp
 refine qML hchk hconf st (fun i hi => hgo i (Nat.zero_le _) hi) st1 hp2 D2 hnd2 hlate hg _ _ _ M μ st.tmps st.H tmps _ rfl ?_ (by simp) (fun j _ hj => by simp [Array.getD]) (fun j o _ h => by simp [Array.getD] at h) ?_ (r.same ⟨rfl, rfl, rfl, Nat.le_refl _, fun _ _ => rfl⟩)
 ·rw [hsize]
  exact Nat.le_trans (List.length_filter_le _ _) (by simp)
 ·have : (fun j => (Array.replicate l.toArray.size false).getD j false) = fun j => decide (j < 0) := by
   funext j; simp [Array.getD]
  rw [this]; exact DoneD.put0 st
def wG (P : Program) (G : qS) (st0 : St) (l : List Oper) (tss : List (List Nat)) (st : St) (acc : qGA) (K : qGA → St → Prop) : Prop := ∃ sms st1, DRun P G st0 l tss st sms st1 ∧ K (acc ++ sms.map Sm.sum) st1
variable {K : qGA → St → Prop} {st st' st0 : St} {rest : List Oper} {ts : List Nat} {orc orc' : List PD} {acc : qGA} {o : Oper} {sm : SumT} {v : Know → Prop}
theorem wG.nil (hn : ndB st.H = true) (k : K acc st) : wG P G st0 [] tss st acc K := ⟨_, _, .nil (wT hn), by simpa using k⟩
theorem wG.one (hT : TOK P T) (h : ∀ C, qMM C T G st0 ts o st orc = some (v C, st', sm, orc')) (hv : v (kn P G)) (hgd : o.guard = none) (hn : ndB st.H = true) (k : wG P G st0 rest tss st' (acc ++ [sm]) K) :
  wG P G st0 (o :: rest) (ts :: tss) st acc K := by
 have h1 := h (kn P G)
 unfold qMM at h1
 split at h1
 ·rename_i v1 s orc1 h2
  simp only [Option.some.injEq, Prod.mk.injEq] at h1
  obtain ⟨h3, rfl, rfl, rfl⟩ := h1
  obtain ⟨sms, st1, e, hk⟩ := k
  have S := qCJ hT (wT hn) h2 (h3 ▸ hv)
  exact ⟨s :: sms, st1, .one hgd (wT hn) ⟨S.q, S.good, S.ps, S.new⟩ (fun p hp => qEM st _ p (S.H p hp)) S.goes e, by simpa using hk⟩
 ·cases h1
theorem r1 (hT : TOK P T) (k : wG P G st0 rest tss st' (acc ++ [sm]) K) (h : ∀ C, qMM C T G st0 ts o st orc = some (v C, st', sm, orc') := by intro C; conv => lhs; simp) (hv : v (kn P G) := by first | with_reducible exact True.intro | omega | simp | (simp +contextual; omega)) (hgd : o.guard = none := by rfl) (hn : ndB st.H = true := by kernel_rfl) :
  wG P G st0 (o :: rest) (ts :: tss) st acc K := wG.one hT h hv hgd hn k
theorem wG.call {x : Operand} {args : Array Operand} {tys : Array TypeId} {f : FuncId} {xs : List V} {H : List (Nat × Box)} {r : V} {ps : List Nat} {H' : List (Nat × Box)} (new : List Nat) (hc : AX P G f xs H r ps H') (ho : o.op = .call { callee := .value x, args := args, argTypes := tys }) (hgd : o.guard = none)
  (hcx : CX G ⟨wO st.tmps ts, H.map (·.1), H, st.base⟩ x args.toList f xs H r ps H') (hrest : (St.rest ⟨wO st.tmps ts, H.map (·.1), H, st.base⟩ H ps).H = []) (hpins : ∀ i ∈ ps, i ∈ (St.rest ⟨wO st.tmps ts, H.map (·.1), H, st.base⟩ H ps).pins)
  (hsub : ∀ p ∈ H, p ∈ st.H) (hnew : ∀ n ∈ new, st0.fresh n = true) (hky : ∀ i, qO i H' = true → i ∈ H.map (·.1) ∨ i ∈ new) (hgood : ∀ i ∈ V.ids r ++ xL H', i ∈ ps ∨ i ∈ new) (hn : ndB st.H = true) (hst : st.after o.dst ⟨r, H, H', ps, new, false⟩ = st')
  (k : wG P G st0 rest tss st' (acc ++ [(Sm.mk r H H' ps new false).sum]) K) : wG P G st0 (o :: rest) (ts :: tss) st acc K := by
 subst hst
 obtain ⟨sms, st1, e, hk⟩ := k
 have hsn : (H.map (·.1)).Nodup := hcx.2.2.2.2.1
 have y := wY ho hc hcx
 refine ⟨⟨r, H, H', ps, new, false⟩ :: sms, st1, .one hgd (wT hn) ⟨fun h => absurd h (by simp), hgood, hky, hnew⟩ hsub (fun c M μ st' tmps w R K hG rel hle hbox hnw k => ?_) e, by simpa using hk⟩
 exact qBJ (s := ⟨r, H, H', ps, new, false⟩) (small := ⟨wO st.tmps ts, H.map (·.1), H, st.base⟩) (s' := ({ St.rest (⟨wO st.tmps ts, H.map (·.1), H, st.base⟩ : St) H ps with H := H' ++ (St.rest (⟨wO st.tmps ts, H.map (·.1), H, st.base⟩ : St) H ps).H } : St)) rfl hsn (by show H' = H' ++ _; rw [hrest, List.append_nil]) (fun i hi => hpins i hi) hky hgood y c M μ st' tmps w R K hG rel hle hbox hnw k
theorem AW.drawR (hmix : P.follows .mixedOrders = true) (m : Nat) (tss : List (List Nat)) (orc2 : List PD) {id : Nat} {l : List Oper} (hchk : zY l m tss = true)
  (h : wG P G st (l.take m) tss st [] fun qQU st1 => vJ l m qQU = true ∧ qE P G l.toArray Q (l.drop m) st1 orc2) : AW P G (.region id l.toArray true) Q st := by
 obtain ⟨sms, st1, e, hc, hl⟩ := h
 exact AW.runDraw1 hmix m tss hchk e (by simpa using hc) hl
theorem AW.seqDrawR (hmix : P.follows .mixedOrders = true) (m : Nat) (tss : List (List Nat)) (orc2 : List PD) {id : Nat} {l : List Oper} {b : Code} (hchk : zY l m tss = true)
  (h : wG P G st (l.take m) tss st [] fun qQU st1 => vJ l m qQU = true ∧ qE P G l.toArray (andThen (AW P G b Q) Q) (l.drop m) st1 orc2) : AW P G (.seq (.region id l.toArray true) b) Q st :=
 AW.seq (AW.drawR hmix m tss orc2 hchk h)
end
set_option linter.unusedSimpArgs false
set_option linter.unusedVariables false
section
variable {P : Program} {T : Tab} {G : qS} {l : List Oper} {tss : List (List Nat)} {K : qGA → St → Prop} {st st' st0 : St} {rest : List Oper} {ts : List Nat} {acc : qGA} {o : Oper}
theorem wG.callFlat (Hs : List (Nat × Box)) {x : Operand} {args : Array Operand} {tys : Array TypeId} {f : FuncId} {asl : List PD} {r : PD} {p : Prop} (hc : AFn P G f asl r) (ho : o.op = .call { callee := .value x, args := args, argTypes := tys }) (hgd : o.guard = none)
  (hf : (freezeAll ⟨wO st.tmps ts, Hs.map (·.1), Hs, st.base⟩ (Hs.map (·.1))).arg G x = (p, .p (.fn f))) (hp : p) (hq : qEF (args.toList.map fun y => ((freezeAll ⟨wO st.tmps ts, Hs.map (·.1), Hs, st.base⟩ (Hs.map (·.1))).arg G y).1))
  (hfit : V.fitsL [] (args.toList.map fun y => ((freezeAll ⟨wO st.tmps ts, Hs.map (·.1), Hs, st.base⟩ (Hs.map (·.1))).arg G y).2) asl) (hfl : r.flat = true) (hsub : ∀ p ∈ Hs, p ∈ st.H) (hids : ∀ i ∈ xL Hs, i ∈ Hs.map (·.1)) (hn : ndB st.H = true) (hns : ndB Hs = true)
  (hst : st.after o.dst ⟨.p r, Hs, Hs, Hs.map (·.1), [], true⟩ = st') (k : wG P G st0 rest tss st' (acc ++ [(Sm.mk (.p r) Hs Hs (Hs.map (·.1)) [] true).sum]) K) : wG P G st0 (o :: rest) (ts :: tss) st acc K := by
 subst hst
 obtain ⟨sms, st1, e, hk⟩ := k
 have y := qFC (P := P) (st := ⟨wO st.tmps ts, Hs.map (·.1), Hs, st.base⟩) (Hs.map (·.1)) ho hf hp hc hq hfit hfl
 have hgood : ∀ i ∈ V.ids (V.p r) ++ xL Hs, i ∈ Hs.map (·.1) ∨ i ∈ ([] : List Nat) := fun i hi => .inl (hids i (by simpa [V.ids] using hi))
 have hky : ∀ i, qO i Hs = true → i ∈ Hs.map (·.1) ∨ i ∈ ([] : List Nat) := fun i hi => by
  obtain ⟨b, hb⟩ := qH.1 hi
  exact .inl (List.mem_map.2 ⟨_, hb, rfl⟩)
 refine ⟨⟨.p r, Hs, Hs, Hs.map (·.1), [], true⟩ :: sms, st1, .one hgd (wT hn) ⟨fun _ => rfl, hgood, hky, by simp⟩ hsub (fun c M μ st' tmps w R K hG rel hle hbox hnw k => ?_) e, by simpa using hk⟩
 exact qBJ (s := ⟨.p r, Hs, Hs, Hs.map (·.1), [], true⟩) (small := ⟨wO st.tmps ts, Hs.map (·.1), Hs, st.base⟩) (s' := ⟨wO st.tmps ts, Hs.map (·.1), Hs, st.base⟩) rfl (wT hns) rfl (fun i hi => hi) hky hgood y c M μ st' tmps w R K hG rel hle hbox hnw k
end
end Go.Proofs.YtdojfdaglbphlaaGreatDoor.Sy
namespace Go.Proofs.YtdojfdaglbphlaaGreatDoor
open Sy Go
set_option maxRecDepth 100000
set_option maxHeartbeats 4000000
set_option linter.unusedSimpArgs false
set_option linter.unusedVariables false
variable {G : qS}
theorem yS (a b : Val) (top deep k : Int) : AFn Tryz.prog G 77 [.agg (prC a b top deep), .int .i64 k] (.bool (decide (a.kind = k) && decide (b.kind = k))) := by
 refine AFn.introU tok Tryz.func77 (by kernel_rfl) rfl rfl ?_
 simp only [Tryz.f77, qK, List.map_cons, List.map_nil]
 refine rgn [] [[], [1, 2]] ?_
 iterate 2 refine op1 tok ?_
 refine qA ?_
 refine rgn [] [[], [], [], [], [1, 2, 9], [], [], [], [1, 10, 13], [], [], [16], [4]] ?_
 iterate 6 refine op1 tok ?_
 iterate 5 refine op2 tok ?_
 iterate 2 refine op1 tok ?_
 refine qA ?_
 exact AW.ret ⟨.inr rfl, _, _, by (conv => lhs; simp), trivial, by simp⟩
theorem ufail_ev (code m : Int) : AFn Tryz.prog G 142 [.int .i64 code, .int .u64 m] ((wQ code m).enc) := by
 refine AFn.introU tok Tryz.func142 (by kernel_rfl) rfl rfl ?_
 simp only [Tryz.f142, qK, List.map_cons, List.map_nil]
 have e : wQ code m = .mk 8 m dc0 [] [] [] code := rfl
 rw [e]
 refine rgn [] [[]] ?_
 refine op1 tok ?_
 refine qA ?_
 refine rgn [] [[], [], [4, 7], [4]] ?_
 iterate 4 refine op1 tok ?_
 refine qA ?_
 exact AW.ret ⟨.inr rfl, _, _, by (conv => lhs; simp), trivial, by simp [dc0]⟩
theorem qDK (a b : Val) (top deep code : Int) : AFn Tryz.prog G 82 [.agg (prC a b top deep), .int .i64 code] ((wQ code top).enc) := by
 refine AFn.introU tok Tryz.func82 (by kernel_rfl) rfl rfl ?_
 simp only [Tryz.f82, qK, List.map_cons, List.map_nil]
 have hf := ufail_ev (G := G) code top
 simp only [Val.enc_def] at hf
 refine rgn [] [[], [1, 2, 4]] ?_
 iterate 2 refine op1 tok ?_
 refine qA ?_
 refine rgn [.nilp, (wQ code top).enc] [[], [], [], [4, 8], [4]] ?_
 iterate 5 refine op1 tok ?_ (hv := by first | with_reducible exact True.intro | (exact hf; done) | omega | simp | (simp +contextual; omega))
 refine qA ?_
 exact AW.ret ⟨.inr rfl, _, _, by (conv => lhs; simp), trivial, by simp⟩
theorem qTH (x : Bool) (m : Int) : AFn Tryz.prog G 42 [.bool x, .int .u64 m] ((uG x m).enc) := by
 refine AFn.introU tok Tryz.func42 (by kernel_rfl) rfl rfl ?_
 simp only [Tryz.f42, qK, List.map_cons, List.map_nil]
 have e : uG x m = .mk (if x = true then 3 else 2) m dc0 [] [] [] 0 := rfl
 rw [e]
 refine rgn [] [[]] ?_
 refine op1 tok ?_
 refine qA ?_
 refine rgn [] [[], [], [], [0, 4, 5]] ?_
 iterate 4 refine op1 tok ?_
 refine qA ?_
 refine AW.seq ?_
 refine rgn [] [[4, 5, 8]] ?_
 refine op1 tok ?_
 refine qA ?_
 refine cnd ?_ ?_
 ·intro h8
  try simp at h8
  rw [if_pos h8]
  refine rgz [] [[], [4, 5]] ?_
  iterate 2 refine op1 tok ?_
  refine qA ?_
  refine rgn [] [[], [4]] ?_
  iterate 2 refine op1 tok ?_
  refine qA ?_
  exact AW.ret ⟨.inr rfl, _, _, by (conv => lhs; simp), trivial, by simp [dc0]⟩
 ·intro h8
  try simp at h8
  rw [if_neg (by rw [h8]; simp)]
  refine AW.skip ?_
  refine rgn [] [[], [4]] ?_
  iterate 2 refine op1 tok ?_
  refine qA ?_
  exact AW.ret ⟨.inr rfl, _, _, by (conv => lhs; simp), trivial, by simp [dc0]⟩
theorem minus2_ev (v w : Val) (hv : zL v = true) (hw : zL w = true) : AFn Tryz.prog G 87 [w.enc, .ref [.int .i64 v.kind, .int .u64 v.mask, .bool v.num.neg, .str v.num.digits, .int .i64 v.num.scale, .str v.text, .sl 1 (v.keys.map PD.str), .sl 9 (v.kids.map Val.enc), .int .i64 v.code]] (.bool (decide (qAT v w = 0))) := by
 refine AFn.introU tok Tryz.func87 (by kernel_rfl) rfl rfl ?_
 simp only [Tryz.f87, qK, List.map_cons, List.map_nil]
 have hc := cmpT_ev (G := G) v w hv hw
 simp only [Val.enc_def] at hc
 generalize qAT v w = n at *
 refine rgn [] [[], [1, 2]] ?_
 iterate 2 refine op1 tok ?_
 refine qA ?_
 refine rgn [.nilp, .int .i64 n] [[], [], [6], [], [3]] ?_
 iterate 5 refine op1 tok ?_ (hv := by first | with_reducible exact True.intro | (first | exact hc | (simp; done); done) | omega | simp | (simp +contextual; omega))
 refine qA ?_
 exact AW.ret ⟨.inr rfl, _, _, by (conv => lhs; simp), trivial, by simp⟩
theorem minus1_ev (a b v : Val) (top deep : Int) (hv : zL v = true) (hb : ∀ w ∈ b.kids, zL w = true) : AFn Tryz.prog G 85 [v.enc, .ref (prC a b top deep)] (.bool (b.kids.any fun w => decide (qAT v w = 0))) := by
 refine AFn.introU tok Tryz.func85 (by kernel_rfl) rfl rfl ?_
 simp only [Tryz.f85, qK, List.map_cons, List.map_nil]
 have hc := qNP (G := G) b.kids 87 [.int .i64 v.kind, .int .u64 v.mask, .bool v.num.neg, .str v.num.digits, .int .i64 v.num.scale, .str v.text, .sl 1 (v.keys.map PD.str), .sl 9 (v.kids.map Val.enc), .int .i64 v.code] (fun w => decide (qAT v w = 0)) (fun w hw => minus2_ev v w hv (hb w hw))
 generalize (b.kids.any fun w => decide (qAT v w = 0)) = r at *
 refine rgn [] [[], [1, 2]] ?_
 iterate 2 refine op1 tok ?_
 refine qA ?_
 refine AW.freezeV 2 (by conv => lhs; simp) ?_
 refine rgn [.nilp, .bool r] [[], [], [], [6, 7], [], [3]] ?_
 iterate 6 refine op1 tok ?_ (hv := by first | with_reducible exact True.intro | (first | exact hc | (simp; done) | (simp at hc ⊢; exact hc); done) | omega | simp | (simp +contextual; omega))
 refine qA ?_
 exact AW.ret ⟨.inr rfl, _, _, by (conv => lhs; simp), trivial, by simp⟩
theorem minusL_ev (a b : Val) (top deep : Int) (ha : zL a = true) (hb : zL b = true) (hka : a.kind = 6) (hkb : b.kind = 6) : AFn Tryz.prog G 33 [.agg (prC a b top deep)] ((qPI a b deep).enc) := by
 refine AFn.introU tok Tryz.func33 (by kernel_rfl) rfl rfl ?_
 simp only [Tryz.f33, qK, List.map_cons, List.map_nil]
 have hk := yS (G := G) a b top deep 6
 simp only [hka, hkb, decide_true, Bool.and_true] at hk
 have hsm := xY ha
 have hcl := qQE (G := G) a ha
 have hd := delV_ax (G := G) 85 (prC a b top deep) (fun v => b.kids.any fun w => decide (qAT v w = 0)) a.kids (fun v hv => minus1_ev a b v top deep (vA ha hv) (fun w hw => vA hb hw)) (by omega)
 have e : qPI a b deep = .mk a.kind deep a.num a.text a.keys (a.kids.filter fun v => !(b.kids.any fun w => decide (qAT v w = 0))) a.code := rfl
 rw [e]
 generalize (a.kids.filter fun v => !(b.kids.any fun w => decide (qAT v w = 0))) = fs at *
 refine rgn [] [[], [1, 2]] ?_
 iterate 2 refine op1 tok ?_
 refine qA ?_
 refine AW.seq ?_
 refine rgn [.nilp, .bool true] [[], [], [1, 2, 6]] ?_
 iterate 3 refine op1 tok ?_ (hv := by first | with_reducible exact True.intro | ((simp [hka, hkb] at hk ⊢; exact hk); done) | omega | simp | (simp +contextual; omega))
 refine qA ?_
 refine cnd ?_ ?_
 ·intro h6
  try simp at h6
 ·intro h6
  try simp at h6
  refine AW.skip ?_
  refine rgn [] [[], []] ?_
  iterate 2 refine op1 tok ?_
  refine qV ?_
  refine qE.stepK [1, 2, 11] (wY rfl hcl (by simp)) (by conv => lhs; simp) rfl ?_
  refine qE.run [[], [1, 2, 3]] ?_
  iterate 2 refine op1 tok ?_
  refine qA ?_
  refine rgn [] [[], [], [], [1, 2, 3]] ?_
  iterate 4 refine op1 tok ?_
  refine qA ?_
  refine AW.freezeV 1 (by conv => lhs; simp) ?_
  refine AW.renE 912 930 (by simp) (by conv => lhs; simp) ?_
  refine rgn [] [[], [], []] ?_
  iterate 3 refine op1 tok ?_
  refine qV ?_
  refine qE.stepK [2, 3, 18] (wY rfl hd (by simp)) (by conv => lhs; simp) rfl ?_
  refine qE.run [[], [2, 3]] ?_
  iterate 2 refine op1 tok ?_
  refine qA ?_
  refine AW.freezeE 930 (by conv => lhs; simp) ?_
  refine AW.freezeE 909 (by conv => lhs; simp) ?_
  refine rgn [] [[], [2]] ?_
  iterate 2 refine op1 tok ?_
  refine qA ?_
  exact AW.ret ⟨.inr rfl, _, _, by (conv => lhs; simp), trivial, by simp⟩
theorem qOY (a b : Val) (top deep : Int) (ha : zL a = true) (hb : zL b = true) (hla : a.keys.length = a.kids.length) (hlb : b.keys.length = b.kids.length) : AFn Tryz.prog G 80 [.agg (prC a b top deep)] ((vO a b top).enc) := by
 refine AFn.introU tok Tryz.func80 (by kernel_rfl) rfl rfl ?_
 simp only [Tryz.f80, qK, List.map_cons, List.map_nil]
 have hsa := xY ha
 have hsb := xY hb
 have hcl := qQE (G := G) a ha
 have hcb := qVZ (G := G) b hb
 simp only [Val.enc_def] at hcb
 have e : vO a b top = .mk a.kind top a.num a.text (yX b b.keys.length a.keys a.kids).1 (yX b b.keys.length a.keys a.kids).2 a.code := rfl
 rw [e]
 refine rgn [] [[], [1, 2]] ?_
 iterate 2 refine op1 tok ?_
 refine qA ?_
 refine rgn [] [[], []] ?_
 iterate 2 refine op1 tok ?_
 refine qV ?_
 refine qE.stepK [1, 2, 10] (wY rfl hcl (by simp)) (by conv => lhs; simp) rfl ?_
 refine qE.run [[], [1, 2, 3]] ?_
 iterate 2 refine op1 tok ?_
 refine qA ?_
 refine AW.renE 3 800 (by simp) (by conv => lhs; simp) ?_
 refine AW.renE 909 3 (by simp) (by conv => lhs; simp) ?_
 refine AW.renE 912 8 (by simp) (by conv => lhs; simp) ?_
 refine rgn [] [[], [], [], [1, 2, 3]] ?_
 iterate 4 refine op1 tok ?_
 refine qA ?_
 refine rgn [.nilp, b.enc] [[], [], [], [], [2, 3, 4]] ?_
 iterate 5 refine op1 tok ?_ (hv := by first | with_reducible exact True.intro | (exact hcb; done) | omega | simp | (simp +contextual; omega))
 refine qA ?_
 refine AW.seq ?_
 refine rgn [] [[], [], [], [2, 3, 4, 18, 19, 20]] ?_
 iterate 4 refine op1 tok ?_
 refine qA ?_
 refine AW.block ?_
 refine AW.loop (α := Nat) (fun k => k ≤ b.keys.length) (fun k => ⟨qW 58 [(2, .ptr 2 0), (3, .ptr 800 0), (4, .ptr 4 0), (18, .p (.sl 1 (b.keys.map PD.str))), (19, .p (.int .i64 b.keys.length)), (20, .p (.int .i64 k))], [], [(2, .vars 31 [.p (.int .i64 0), .p (.int .u64 0), .p (.bool false), .p (.str []), .p (.int .i64 0), .p (.str []), .nilsl, .nilsl, .p (.int .i64 0)]), (800, .vars 31 [.p (.int .i64 a.kind), .p (.int .u64 top), .p (.bool a.num.neg), .p (.str a.num.digits), .p (.int .i64 a.num.scale), .p (.str a.text), .ms 3, .ms 8, .p (.int .i64 a.code)]), (4, .vars 31 b.cells), (3, .row 9 1 ((yX b k a.keys a.kids).1.map PD.str)), (8, .row 31 9 ((yX b k a.keys a.kids).2.map Val.enc))], 0⟩) (fun k => b.keys.length - k) (0) (by omega) ⟨qB (by simp), rfl, by simp [yX], by simp⟩ ?_
 rintro k hk
 refine rgn [] [[]] ?_
 refine op1 tok ?_
 refine qA ?_
 refine AW.seq ?_
 refine cnd ?_ ?_
 ·intro h21
  try simp at h21
  obtain ⟨key, hkey⟩ : ∃ x, b.keys[k]? = some x := ⟨b.keys[k], by simp [h21]⟩
  obtain ⟨v, hv⟩ : ∃ x, b.kids[k]? = some x := ⟨b.kids[k]'(by omega), List.getElem?_eq_getElem _⟩
  have hlk := qXQ b k hla
  have hst : yX b (k + 1) a.keys a.kids = xR (yX b k a.keys a.kids).1 (yX b k a.keys a.kids).2 key v := by
   simp only [yX, List.getD_eq_getElem?_getD, hkey, hv, Option.getD_some]
  generalize yX b k a.keys a.kids = M at *
  obtain ⟨ks, vs⟩ := M
  simp only at hlk hst
  have hput : xR ks vs key v = if key ∈ ks then (ks, vs.set (ks.idxOf key) v) else (ks ++ [key], vs ++ [v]) := rfl
  have hidx : idxT ks key = if key ∈ ks then (ks.idxOf key : Int) else -1 := rfl
  have hix := idxT_ax (G := G) ks key
  refine AW.skip ?_
  refine AW.seq ?_
  refine AW.block ?_
  refine rgn [.str key] [[], [], [], [], [2, 3, 4, 5, 6, 18, 19, 20]] ?_
  iterate 5 refine op1 tok ?_ (hv := by first | with_reducible exact True.intro | (first | (simp [hkey]; done) | (simp [hkey]; omega); done) | omega | simp | (simp +contextual; omega))
  refine qA ?_
  refine AW.seq ?_
  refine rgn [] [[], [], []] ?_
  iterate 3 refine op1 tok ?_
  refine qV ?_
  refine qE.stepK [2, 3, 4, 5, 6, 18, 19, 20, 28] (wY rfl hix (by simp)) (by conv => lhs; simp) rfl ?_
  refine qE.run [[2, 3, 4, 5, 6, 7, 18, 19, 20]] ?_
  refine op1 tok ?_
  refine qA ?_
  refine rgn [] [[], [2, 3, 4, 5, 6, 7, 18, 19, 20, 30]] ?_
  iterate 2 refine op1 tok ?_
  refine qA ?_
  refine cnd ?_ ?_
  ·intro h30
   try simp at h30
   have hm : key ∈ ks := by false_or_by_contra; rename_i hm; rw [if_neg hm] at hidx; omega
   rw [if_pos hm] at hidx hput
   have hi := List.idxOf_lt_length_iff.2 hm
   obtain ⟨o, ho⟩ : ∃ o, vs[ks.idxOf key]? = some o := ⟨vs[ks.idxOf key]'(by omega), by simp⟩
   have hio : ks.idxOf key < vs.length := by omega
   rw [hidx]
   rw [hput] at hst
   refine AW.seqDrawS tok mixed 8 [[3], [31], [7], [4], [34], [5], [35, 36], [37]] [v.enc] [o.enc, v.enc] (by kernel_rfl) ?_
   iterate 8 refine d1 ?_ (hv := by first | with_reducible exact True.intro | (first | omega | (simp [hv]; done) | (simp [hv]; omega); done) | omega | simp | (simp +contextual; omega))
   refine DGo.nil (by kernel_rfl) ⟨by kernel_rfl, ?_⟩
   refine qE.run [[], [2, 3, 4, 18, 19, 20]] ?_
   iterate 2 refine op1 tok ?_ (hv := by first | with_reducible exact True.intro | (first | omega | (simp [ho]; done) | (simp [ho, Val.cells, V.fitsL]; done); done) | omega | simp | (simp +contextual; omega))
   refine qA ?_
   refine AW.exit ?_
   simp
   refine rgz [] [[], [2, 3, 4, 18, 19, 20]] ?_
   iterate 2 refine op1 tok ?_
   refine qA ?_
   exact ⟨k + 1, by omega, by omega, qB (by simp [hst]), rfl, by simp [hst], by simp [hst]⟩
  ·intro h30
   try simp at h30
   have hm : key ∉ ks := by intro hm; rw [if_pos hm] at hidx; omega
   rw [if_neg hm] at hput
   rw [hput] at hst
   refine AW.skip ?_
   refine AW.drawS tok mixed 16 [[3], [40], [6], [42], [41, 43], [3], [45], [4], [47], [5], [48, 49], [50], [51], [46, 52], [3], [54, 44]] [.str key, v.enc, v.enc] [] (by kernel_rfl) ?_
   iterate 16 refine d1 ?_ (h := by intro C; conv => lhs; simp [Value.oneCell']) (hv := by first | with_reducible exact True.intro | (first | omega | (simp [hv]; done) | (simp [hv]; omega) | (simp; omega); done) | omega | simp | (simp +contextual; omega))
   refine DGo.nil (by kernel_rfl) ⟨by kernel_rfl, ?_⟩
   refine qE.run [[], [2, 3, 4, 18, 19, 20]] ?_
   iterate 2 refine op1 tok ?_ (h := by intro C; conv => lhs; simp [Value.oneCell'])
   refine qV ?_
   refine qE.take 44 3 (by conv => lhs; simp) ?_
   refine qE.take 53 8 (by conv => lhs; simp) ?_
   refine qE.nil ?_
   refine rgz [] [[], [2, 3, 4, 18, 19, 20]] ?_
   iterate 2 refine op1 tok ?_
   refine qA ?_
   exact ⟨k + 1, by omega, by omega, qB (by simp [hst]), rfl, by simp [hst], by simp [hst]⟩
 ·intro h21
  try simp at h21
  obtain rfl : k = b.keys.length := by omega
  refine AW.exit ?_
  simp
  refine AW.freezeE 3 (by conv => lhs; simp) ?_
  refine AW.freezeE 8 (by conv => lhs; simp) ?_
  refine rgn [] [[], [2]] ?_
  iterate 2 refine op1 tok ?_
  refine qA ?_
  exact AW.ret ⟨.inr rfl, _, _, by (conv => lhs; simp), trivial, by simp⟩
theorem val_step (n : Nat) (st : RS) (d : Nat) : yM (n + 1) st d = if ([91] : List UInt8).isPrefixOf (zM st d).left = true then ((lstM n (zZ (zM st d) 1) (d + 1)).1, .mk 6 0 dc0 [] [] (lstM n (zZ (zM st d) 1) (d + 1)).2 0)
  else if ([123] : List UInt8).isPrefixOf (zM st d).left = true then ((objM n (zZ (zM st d) 1) (d + 1)).1, .mk 7 0 dc0 [] (objM n (zZ (zM st d) 1) (d + 1)).2.1 (objM n (zZ (zM st d) 1) (d + 1)).2.2 0) else xA (zM st d) := by
 rw [yM]; rfl
attribute [local simp] zZ
end Go.Proofs.YtdojfdaglbphlaaGreatDoor
namespace Go.Proofs.YtdojfdaglbphlaaGreatDoor
open Sy Go
set_option maxRecDepth 100000
set_option linter.unusedSimpArgs false
set_option linter.unusedVariables false
set_option maxHeartbeats 1000000
structure RQ where
 pos : Nat
 nodes : Nat
 bad : Bool
 deep : Bool
 big : Bool
 deriving DecidableEq
def blL (l : List UInt8) : Nat := (l.takeWhile qMC).length
def blQ (s : List UInt8) (q : RQ) : RQ := { q with pos := q.pos + blL (s.drop q.pos) }
def nxQ (s : List UInt8) (q : RQ) : UInt8 := s.getD q.pos 0
def wE (q : RQ) (k : Nat) : RQ := { q with pos := q.pos + k }
def zE (s : List UInt8) (q : RQ) : RQ × List UInt8 :=
 if (zK (s.drop q.pos)).2.2 = 3 then ({ q with pos := q.pos + qDF (s.drop q.pos), big := true }, [])
 else ({ q with pos := q.pos + (zK (s.drop q.pos)).2.1, bad := Bool.or q.bad (decide ((zK (s.drop q.pos)).2.2 ≠ 0)) }, (zK (s.drop q.pos)).1)
def numQ (l : List UInt8) : Nat := (l.takeWhile kC).length
def xJ (s : List UInt8) (q : RQ) : RQ × Val :=
 ({ q with pos := q.pos + numQ (s.drop q.pos), big := Bool.or q.big (decide ((wC ((s.drop q.pos).takeWhile kC)).2 = 3)), bad := Bool.or q.bad (decide ((wC ((s.drop q.pos).takeWhile kC)).2 ≠ 3 ∧ (wC ((s.drop q.pos).takeWhile kC)).2 ≠ 0)) },
  .mk 4 0 (if (wC ((s.drop q.pos).takeWhile kC)).2 = 3 then ⟨false, [48], 0⟩ else (wC ((s.drop q.pos).takeWhile kC)).1) [] [] [] 0)
def vR (s w : List UInt8) (q : RQ) : Bool × RQ := if (s.drop q.pos).take w.length = w then (true, wE q w.length) else (false, q)
def zJ (s : List UInt8) (q : RQ) (d : Nat) : RQ := ⟨(blQ s q).pos, q.nodes + 1, q.bad, Bool.or q.deep (decide (12 < d)), Bool.or q.big (decide (400 < q.nodes + 1))⟩
def qCH (c : UInt8) : Bool := decide (c = 45) || qG c
def qBS (s : List UInt8) (q : RQ) : RQ × Val :=
 if (vR s uD q).1 = true then ((vR s uD q).2, .mk 1 0 dc0 [] [] [] 0)
 else if (vR s uC q).1 = true then ((vR s uC q).2, .mk 3 0 dc0 [] [] [] 0)
 else if (vR s jO q).1 = true then ((vR s jO q).2, .mk 2 0 dc0 [] [] [] 0)
 else ({ q with bad := true }, yJ)
def qGY (s : List UInt8) (q : RQ) : RQ × List UInt8 :=
 let a := zE s q
 let b := blQ s a.1
 ({ b with pos := b.pos + 1, bad := Bool.or b.bad (decide (nxQ s b ≠ 58)) }, a.2)
def qAU (s : List UInt8) (closes : UInt8) (many : Nat) (q : RQ) : Bool × RQ :=
 let a := blQ s { q with big := Bool.or q.big (decide (200 < many)) }
 if nxQ s a = closes then (true, wE a 1) else (false, { a with pos := a.pos + 1, bad := Bool.or a.bad (decide (nxQ s a ≠ 44)) })
def qNH (obj : Bool) (ks : List (List UInt8)) (vs : List Val) (key : List UInt8) (v : Val) : List (List UInt8) × List Val := if obj = true then xR ks vs key v else (ks, vs ++ [v])
def yO (s : List UInt8) (obj : Bool) (q : RQ) : RQ × List UInt8 := if obj = true then qGY s (blQ s q) else (blQ s q, [])
mutual
def yU (s : List UInt8) : Nat → RQ → Nat → RQ × Val
 | 0, q, _ => ({ q with bad := true }, yJ)
 | n + 1, q, d =>
  if nxQ s (zJ s q d) = 34 then ((zE s (zJ s q d)).1, .mk 5 0 dc0 (zE s (zJ s q d)).2 [] [] 0)
  else if nxQ s (zJ s q d) = 91 then (let q1 := blQ s (wE (zJ s q d) 1)
   let r := if nxQ s q1 = 93 then (wE q1 1, [], []) else yG s n q1 d false 93 0 [] []
   (r.1, .mk 6 0 dc0 [] r.2.1 r.2.2 0))
  else if nxQ s (zJ s q d) = 123 then (let q1 := blQ s (wE (zJ s q d) 1)
   let r := if nxQ s q1 = 125 then (wE q1 1, [], []) else yG s n q1 d true 125 0 [] []
   (r.1, .mk 7 0 dc0 [] r.2.1 r.2.2 0))
  else if qCH (nxQ s (zJ s q d)) = true then xJ s (zJ s q d)
  else qBS s (zJ s q d)
def yG (s : List UInt8) : Nat → RQ → Nat → Bool → UInt8 → Nat → List (List UInt8) → List Val → RQ × List (List UInt8) × List Val
 | 0, q, _, _, _, _, ks, vs => ({ q with bad := true }, ks, vs)
 | n + 1, q, d, obj, closes, many, ks, vs =>
  if q.bad = true then (q, ks, vs) else
  if (yO s obj q).1.bad = true then ((yO s obj q).1, ks, vs) else
  let a := yU s n (yO s obj q).1 (d + 1)
  let b := qAU s closes (many + 1) a.1
  let m := qNH obj ks vs (yO s obj q).2 a.2
  if b.1 = true then (b.2, m) else yG s n b.2 d obj closes (many + 1) m.1 m.2
end
def jX (s : List UInt8) (n : Nat) (q : RQ) (d : Nat) (obj : Bool) (closes : UInt8) : RQ × List (List UInt8) × List Val :=
 if nxQ s (blQ s (wE q 1)) = closes then (wE (blQ s (wE q 1)) 1, [], []) else yG s n (blQ s (wE q 1)) d obj closes 0 [] []
theorem qHN (s : List UInt8) (n : Nat) (q : RQ) (d : Nat) : yU s (n + 1) q d =
  if nxQ s (zJ s q d) = 34 then ((zE s (zJ s q d)).1, .mk 5 0 dc0 (zE s (zJ s q d)).2 [] [] 0)
  else if nxQ s (zJ s q d) = 91 then ((jX s n (zJ s q d) d false 93).1, .mk 6 0 dc0 [] (jX s n (zJ s q d) d false 93).2.1 (jX s n (zJ s q d) d false 93).2.2 0)
  else if nxQ s (zJ s q d) = 123 then ((jX s n (zJ s q d) d true 125).1, .mk 7 0 dc0 [] (jX s n (zJ s q d) d true 125).2.1 (jX s n (zJ s q d) d true 125).2.2 0)
  else if qCH (nxQ s (zJ s q d)) = true then xJ s (zJ s q d)
  else qBS s (zJ s q d) := by
 rw [yU]; rfl
theorem jS (s : List UInt8) (n : Nat) (q : RQ) (d : Nat) (obj : Bool) (closes : UInt8) (many : Nat) (ks : List (List UInt8)) (vs : List Val) : yG s (n + 1) q d obj closes many ks vs =
  if q.bad = true then (q, ks, vs) else
  if (yO s obj q).1.bad = true then ((yO s obj q).1, ks, vs) else
  if (qAU s closes (many + 1) (yU s n (yO s obj q).1 (d + 1)).1).1 = true then ((qAU s closes (many + 1) (yU s n (yO s obj q).1 (d + 1)).1).2, qNH obj ks vs (yO s obj q).2 (yU s n (yO s obj q).1 (d + 1)).2)
  else yG s n (qAU s closes (many + 1) (yU s n (yO s obj q).1 (d + 1)).1).2 d obj closes (many + 1) (qNH obj ks vs (yO s obj q).2 (yU s n (yO s obj q).1 (d + 1)).2).1 (qNH obj ks vs (yO s obj q).2 (yU s n (yO s obj q).1 (d + 1)).2).2 := by
 rw [yG]
def oneQ (s : List UInt8) : Val × Int × Int :=
 let r := yU s (2 * s.length + 2) ⟨0, 0, false, false, false⟩ 1
 if r.1.bad = true then (yJ, 0, 10) else if r.1.deep = true then (yJ, 0, 11) else if r.1.big = true then (yJ, 0, 3) else (r.2, r.1.pos, 0)
structure SameR (s : List UInt8) (q : RQ) (st : RS) : Prop where
 left : st.left = s.drop q.pos
 le : q.pos ≤ s.length
 nodes : q.nodes = st.nodes
 bad : q.bad = false
 bad' : st.bad = false
 deep : q.deep = st.deep
 big : q.big = st.big
theorem bl_drop (l : List UInt8) : l.drop (blL l) = yQ l ∧ blL l ≤ l.length := by
 unfold blL yQ
 have h := List.takeWhile_append_dropWhile (p := qMC) (l := l)
 have h2 := (List.takeWhile_sublist qMC (l := l)).length_le
 generalize l.takeWhile qMC = A at *
 generalize l.dropWhile qMC = B at *
 subst h
 exact ⟨by simp, h2⟩
theorem qHH {s : List UInt8} {q : RQ} (h : q.pos ≤ s.length) : s.drop (blQ s q).pos = yQ (s.drop q.pos) ∧ (blQ s q).pos ≤ s.length := by
 have := bl_drop (s.drop q.pos)
 unfold blQ
 simp only
 rw [← List.drop_drop]
 rw [List.length_drop] at this
 exact ⟨this.1, by omega⟩
theorem qGP {s : List UInt8} {q : RQ} {c : UInt8} (hc : c ≠ 0) : nxQ s q = c ↔ ([c] : List UInt8).isPrefixOf (s.drop q.pos) = true := by
 unfold nxQ
 rw [List.getD_eq_getElem?_getD]
 have e : s[q.pos]? = (s.drop q.pos)[0]? := by rw [List.getElem?_drop, Nat.add_zero]
 rw [e]
 cases s.drop q.pos with
 | nil =>
  constructor
  ·intro h; exact absurd h.symm hc
  ·intro h; cases h
 | cons b r =>
  simp only [List.getElem?_cons_zero, Option.getD_some, List.isPrefixOf, Bool.and_true, beq_iff_eq]
  exact eq_comm
theorem SameR.bl {s : List UInt8} {q : RQ} {st : RS} (h : SameR s q st) : SameR s (blQ s q) { st with left := yQ st.left } :=
 ⟨by rw [h.left]; exact (qHH h.le).1.symm, (qHH h.le).2, h.nodes, h.bad, h.bad', h.deep, h.big⟩
theorem SameR.adv {s : List UInt8} {q : RQ} {st : RS} (h : SameR s q st) {k : Nat} (hk : k ≤ st.left.length) : SameR s (wE q k) (zZ st k) :=
 ⟨by simp only [zZ, wE]; rw [h.left, List.drop_drop], by have := h.left; have := h.le; simp only [wE]; rw [h.left, List.length_drop] at hk; omega, h.nodes, h.bad, h.bad', h.deep, h.big⟩
theorem SameR.take {s : List UInt8} {q : RQ} {st : RS} (h : SameR s q st) {c : UInt8} (hc : c ≠ 0) : (nxQ s (blQ s q) = c ↔ (tk [c] st).1 = true) ∧ (nxQ s (blQ s q) = c → SameR s (wE (blQ s q) 1) (tk [c] st).2) ∧ (nxQ s (blQ s q) ≠ c → SameR s (blQ s q) (tk [c] st).2) := by
 have hb := h.bl
 have hx := qGP (s := s) (q := blQ s q) hc
 have hl : s.drop (blQ s q).pos = yQ st.left := hb.left.symm
 rw [hl] at hx
 refine ⟨?_, fun e => ?_, fun e => ?_⟩
 ·rw [hx]; unfold tk; split <;> simp_all
 ·have e2 := hx.1 e
  have hp := wK e2
  unfold tk
  rw [if_pos e2]
  exact hb.adv (k := 1) (by simpa using hp)
 ·unfold tk
  rw [if_neg (fun h => e (hx.2 h))]
  exact hb
theorem qUH (s : List UInt8) : (wC s).2 = 0 ∨ (wC s).2 = 3 ∨ (wC s).2 = 4 := by
 have hn : ∀ ng dg sc, (wD ng dg sc).2 = 0 ∨ (wD ng dg sc).2 = 3 := fun ng dg sc => by
  unfold wD; simp only; split
  ·exact .inl rfl
  ·split
   ·exact .inr rfl
   ·exact .inl rfl
 have hl : ∀ ng dg sc, (xT ng dg sc).2 = 0 ∨ (xT ng dg sc).2 = 3 := fun ng dg sc => by
  unfold xT; split <;> exact hn _ _ _
 unfold wC
 split
 ·exact .inr (.inr rfl)
 ·unfold qNN
  split
  ·exact .inr (.inr rfl)
  ·split
   ·exact .inr (.inr rfl)
   ·rcases hl (qLP s) (List.takeWhile qG (xU s) ++ _) _ with h | h
    ·exact .inl h
    ·exact .inr (.inl h)
theorem qTF : ∀ (f : Nat) (s : List UInt8) (k : Nat) (out : List UInt8), (xQ f s k out).2.2 ≠ 0 → (xQ f s k out).1 = []
 | 0, _, _, _ => fun _ => by simp [xQ]
 | f + 1, s, k, out => by
  simp only [xQ]
  repeat' split
  all_goals first | exact fun h => qTF f _ _ _ h | (intro h; rfl) | (intro h; exact absurd rfl h)
theorem qIS (s : List UInt8) : (zK s).2.2 ≠ 0 → (zK s).1 = [] := by
 unfold zK
 split
 ·exact qTF _ _ _ _
 ·exact fun _ => rfl
theorem SameR.quoted {s : List UInt8} {q : RQ} {st : RS} (h : SameR s q st) (ht : yQ st.left = st.left) : (zE s q).1.bad = (qT st).1.bad ∧ (zE s q).2 = (qT st).2 ∧ ((qT st).1.bad = false → SameR s (zE s q).1 (qT st).1) := by
 have hp := qAN st.left
 have hk := qKS st.left
 have e1 := qIS st.left
 unfold zE qT qAG
 rw [ht, ← h.left]
 have hl := h.left
 have hle : st.left.length = s.length - q.pos := by rw [hl, List.length_drop]
 have hqp := h.le
 generalize zK st.left = u at *
 by_cases c1 : u.2.2 = 3
 ·rw [if_pos c1, if_neg (by rw [c1]; decide), if_pos c1]
  refine ⟨by rw [h.bad]; exact h.bad'.symm, (e1 (by rw [c1]; decide)).symm, fun _ => ?_⟩
  exact ⟨by simp only; rw [hl, List.drop_drop, ← hl], by simp only; omega, h.nodes, h.bad, h.bad', h.deep, rfl⟩
 ·rw [if_neg c1]
  by_cases c2 : u.2.2 = 0
  ·rw [if_pos c2]
   refine ⟨by simp only; rw [h.bad, h.bad', c2]; rfl, rfl, fun _ => ?_⟩
   exact ⟨by simp only; rw [hl, List.drop_drop], by simp only; omega, h.nodes, by simp only; rw [h.bad, c2]; rfl, h.bad', h.deep, h.big⟩
  ·rw [if_neg c2, if_neg c1]
   refine ⟨by simp only; rw [decide_eq_true c2]; simp, rfl, fun hb => by simp at hb⟩
theorem qUL (l : List UInt8) : l.drop (numQ l) = l.dropWhile kC ∧ numQ l ≤ l.length := by
 unfold numQ
 have h := List.takeWhile_append_dropWhile (p := kC) (l := l)
 have h2 := (List.takeWhile_sublist kC (l := l)).length_le
 generalize l.takeWhile kC = A at *
 generalize l.dropWhile kC = B at *
 subst h
 exact ⟨by simp, h2⟩
theorem SameR.number {s : List UInt8} {q : RQ} {st : RS} (h : SameR s q st) : (xJ s q).1.bad = (kJ st).1.bad ∧ ((kJ st).1.bad = false → SameR s (xJ s q).1 (kJ st).1 ∧ ((kJ st).1.big = false → (xJ s q).2 = (kJ st).2)) := by
 have hc := qUH (st.left.takeWhile kC)
 have hd := qUL st.left
 have hl := h.left
 have hle : st.left.length = s.length - q.pos := by rw [hl, List.length_drop]
 have hqp := h.le
 unfold xJ kJ
 rw [← h.left]
 generalize wC (st.left.takeWhile kC) = p at *
 simp only
 refine ⟨?_, fun hb => ⟨⟨by simp only; rw [← hd.1, hl, List.drop_drop, ← hl], by simp only; omega, h.nodes, ?_, ?_, h.deep, ?_⟩, fun hg => ?_⟩⟩
 ·rw [h.bad, h.bad']
  rcases hc with h | h | h <;> rw [h] <;> rfl
 ·simp only [Bool.or_eq_false_iff, decide_eq_false_iff_not] at hb
  rw [h.bad]
  rcases hc with h | h | h
  ·rw [h]; rfl
  ·rw [h]; rfl
  ·exact absurd h hb.2
 ·exact hb
 ·rw [h.big]
 ·simp only [Bool.or_eq_false_iff, decide_eq_false_iff_not] at hg
  rw [if_neg hg.2]
theorem qTB {s w : List UInt8} {q : RQ} : (s.drop q.pos).take w.length = w ↔ w.isPrefixOf (s.drop q.pos) = true := by
 rw [List.isPrefixOf_iff_prefix, List.prefix_iff_eq_take, eq_comm]
theorem SameR.words {s : List UInt8} {q : RQ} {st : RS} (h : SameR s q st) (h1 : ¬ nxQ s q = 34) (h2 : qCH (nxQ s q) = false) : (qBS s q).1.bad = (xA st).1.bad ∧ ((xA st).1.bad = false → SameR s (qBS s q).1 (xA st).1 ∧ (qBS s q).2 = (xA st).2) := by
 have h34 : ¬ ([34] : List UInt8).isPrefixOf st.left = true := by rw [h.left]; exact fun e => h1 ((qGP (by decide)).2 e)
 have hnum : ¬ (st.left ≠ [] ∧ (qM st.left 0 = 45 ∨ kG (qM st.left 0) = true)) := by
  rintro ⟨g1, g2⟩
  have e : nxQ s q = st.left.getD 0 0 := by rw [h.left]; unfold nxQ; simp [List.getD_eq_getElem?_getD]
  rw [e] at h2
  unfold qCH at h2
  simp only [Bool.or_eq_false_iff, decide_eq_false_iff_not] at h2
  rcases g2 with g | g
  ·exact h2.1 (UInt8.toNat_inj.1 (by unfold qM at g; show (st.left.getD 0 0).toNat = 45; omega))
  ·have : qG (st.left.getD 0 0) = true := g
   rw [this] at h2; exact absurd h2.2 (by decide)
 have key : ∀ w : List UInt8, vR s w q = if w.isPrefixOf st.left = true then (true, wE q w.length) else (false, q) := fun w => by
  unfold vR
  rw [h.left]
  by_cases c : w.isPrefixOf (s.drop q.pos) = true
  ·rw [if_pos c, if_pos (qTB.2 c)]
  ·rw [if_neg c, if_neg (fun e => c (qTB.1 e))]
 have k1 := key uD
 have k2 := key uC
 have k3 := key jO
 have hbb : q.bad = st.bad := by rw [h.bad, h.bad']
 unfold qBS xA
 rw [k1, k2, k3]
 by_cases c1 : uD.isPrefixOf st.left = true
 ·rw [if_pos c1, if_pos c1, if_pos rfl]
  exact ⟨hbb, fun _ => ⟨h.adv (wK c1), rfl⟩⟩
 ·rw [if_neg c1, if_neg c1, if_neg (by simp)]
  by_cases c2 : uC.isPrefixOf st.left = true
  ·rw [if_pos c2, if_pos c2, if_pos rfl]
   exact ⟨hbb, fun _ => ⟨h.adv (wK c2), rfl⟩⟩
  ·rw [if_neg c2, if_neg c2, if_neg (by simp)]
   by_cases c3 : jO.isPrefixOf st.left = true
   ·rw [if_pos c3, if_pos c3, if_pos rfl]
    exact ⟨hbb, fun _ => ⟨h.adv (wK c3), rfl⟩⟩
   ·rw [if_neg c3, if_neg c3, if_neg (by simp), if_neg h34, if_neg hnum]
    exact ⟨rfl, fun hb => by cases hb⟩
theorem bl_trim : ∀ l : List UInt8, blL (yQ l) = 0
 | [] => rfl
 | b :: l => by
  have ih := bl_trim l
  unfold yQ blL at ih ⊢
  rw [List.dropWhile_cons]
  split
  ·exact ih
  ·rename_i h; rw [List.takeWhile_cons, if_neg h]; rfl
theorem qWF {s : List UInt8} {q : RQ} (h : q.pos ≤ s.length) : blQ s (blQ s q) = blQ s q := by
 have := (qHH h).1
 unfold blQ at this ⊢
 simp only at this ⊢
 rw [this, bl_trim]; rfl
theorem SameR.beh {s : List UInt8} {q : RQ} {st : RS} (h : SameR s q st) {c : UInt8} (hc : c ≠ 0) (many : Nat) :
  (qAU s c many q).1 = (vC c many st).1 ∧ (qAU s c many q).2.bad = (vC c many st).2.bad ∧ ((vC c many st).2.bad = false → SameR s (qAU s c many q).2 (vC c many st).2) := by
 have h1 : SameR s { q with big := Bool.or q.big (decide (200 < many)) } { st with big := st.big || decide (200 < many) } := ⟨h.left, h.le, h.nodes, h.bad, h.bad', h.deep, by simp only; rw [h.big]⟩
 have hsep : vC c many st = if ({ st with big := st.big || decide (200 < many) } : RS).bad = true then (true, { st with big := st.big || decide (200 < many) }) else if (tk [c] { st with big := st.big || decide (200 < many) }).1 = true then (true, (tk [c] { st with big := st.big || decide (200 < many) }).2) else (false, { (tk [44] (tk [c] { st with big := st.big || decide (200 < many) }).2).2 with bad := !(tk [44] (tk [c] { st with big := st.big || decide (200 < many) }).2).1 }) := rfl
 rw [hsep]
 unfold qAU
 simp only
 generalize ({ q with big := Bool.or q.big (decide (200 < many)) } : RQ) = q1 at *
 generalize ({ st with big := st.big || decide (200 < many) } : RS) = st1 at *
 have hsb := h1.bad'
 obtain ⟨t1, t2, t3⟩ := h1.take hc
 rw [if_neg (show ¬ st.bad = true by rw [h.bad']; simp)]
 by_cases e : nxQ s (blQ s q1) = c
 ·rw [if_pos e, if_pos (t1.1 e)]
  have := t2 e
  exact ⟨rfl, by simp only; rw [this.bad, this.bad'], fun _ => this⟩
 ·rw [if_neg e, if_neg (fun h => e (t1.2 h))]
  have g := t3 e
  obtain ⟨u1, u2, u3⟩ := g.take (c := 44) (by decide)
  rw [qWF h1.le] at u1 u2 u3
  refine ⟨rfl, ?_, fun hb => ?_⟩
  ·simp only
   rw [g.bad]
   by_cases e2 : nxQ s (blQ s q1) = 44
   ·rw [u1.1 e2]; simp [e2]
   ·have : (tk [44] (tk [c] st1).2).1 = false := by
     cases hh : (tk [44] (tk [c] st1).2).1 with
     | false => rfl
     | true => exact absurd (u1.2 hh) e2
    rw [this]; simp [e2]
  ·have hb' : (tk [44] (tk [c] st1).2).1 = true := by simpa using hb
   have e2 := u1.2 hb'
   have k := u2 e2
   exact ⟨k.left, k.le, k.nodes, by simp only; rw [g.bad, e2]; rfl, hb, k.deep, k.big⟩
theorem qRF (st : RS) : qT { st with left := yQ st.left } = qT st := by
 unfold qT qAG
 simp only [uH]
theorem SameR.key {s : List UInt8} {q : RQ} {st : RS} (h : SameR s q st) :
  (qGY s (blQ s q)).1.bad = (wR (qT st).1).bad ∧ (qGY s (blQ s q)).2 = (qT st).2 ∧ ((wR (qT st).1).bad = false → SameR s (qGY s (blQ s q)).1 (wR (qT st).1)) := by
 obtain ⟨q1, q2, q3⟩ := h.bl.quoted (uH _)
 rw [qRF] at q1 q2 q3
 unfold qGY
 simp only
 by_cases hb : (qT st).1.bad = true
 ·have hc : wR (qT st).1 = (qT st).1 := by unfold wR; rw [if_pos hb]
  rw [hc]
  refine ⟨?_, q2, fun h' => by rw [hb] at h'; cases h'⟩
  show Bool.or (zE s (blQ s q)).1.bad _ = _
  rw [q1, hb]; rfl
 ·have hb' : (qT st).1.bad = false := by simpa using hb
  have g := q3 hb'
  have hc : wR (qT st).1 = { (tk [58] (qT st).1).2 with bad := !(tk [58] (qT st).1).1 } := by unfold wR; rw [if_neg hb]
  rw [hc]
  obtain ⟨t1, t2, t3⟩ := g.take (c := 58) (by decide)
  refine ⟨?_, q2, fun h' => ?_⟩
  ·show Bool.or (zE s (blQ s q)).1.bad _ = _
   rw [q1, hb']
   by_cases e : nxQ s (blQ s (zE s (blQ s q)).1) = 58
   ·rw [t1.1 e]; simp [e]
   ·have : (tk [58] (qT st).1).1 = false := by
     cases hh : (tk [58] (qT st).1).1 with
     | false => rfl
     | true => exact absurd (t1.2 hh) e
    rw [this]; simp [e]
  ·have e := t1.2 (by simpa using h')
   have k := t2 e
   exact ⟨k.left, k.le, k.nodes, by show Bool.or (zE s (blQ s q)).1.bad _ = _; rw [q1, hb', e]; rfl, h', k.deep, k.big⟩
theorem qDQ {s : List UInt8} {n : Nat} {q : RQ} {d : Nat} {obj : Bool} {c : UInt8} {many : Nat} {ks : List (List UInt8)} {vs : List Val} (h : q.bad = true) : (yG s n q d obj c many ks vs).1.bad = true := by
 cases n with
 | zero => simp [yG]
 | succ n => rw [jS, if_pos h]; exact h
theorem lst_bad {n : Nat} {st : RS} {d many : Nat} {vs : List Val} (h : st.bad = true) : (uZ n st d many vs).1.bad = true := by
 cases n with
 | zero => simp [uZ]
 | succ n => rw [qUV, if_pos h]; exact h
theorem qZR {n : Nat} {st : RS} {d many : Nat} {ks : List (List UInt8)} {vs : List Val} (h : st.bad = true) : (uY n st d many ks vs).1.bad = true := by
 cases n with
 | zero => simp [uY]
 | succ n => rw [uY, if_pos h]; exact h
theorem beh_bad {s : List UInt8} {c : UInt8} {many : Nat} {q : RQ} (h : q.bad = true) : (qAU s c many q).2.bad = true := by
 unfold qAU; simp only; split
 ·exact h
 ·simp only [blQ]; rw [h]; rfl
theorem qKU {c : UInt8} {many : Nat} {st : RS} (h : st.bad = true) : vC c many st = (true, { st with big := st.big || decide (200 < many) }) := by
 unfold vC; simp only; rw [if_pos h]
theorem qTW {c : UInt8} {many : Nat} {st : RS} (h : (vC c many st).2.big = false) : st.big = false := by
 unfold vC at h; simp only at h
 split at h
 ·simp only [Bool.or_eq_false_iff] at h; exact h.1
 ·split at h
  ·rw [tk_big] at h; simp only [Bool.or_eq_false_iff] at h; exact h.1
  ·simp only [tk_big, Bool.or_eq_false_iff] at h; exact h.1
theorem qYN {st : RS} (h : (wR st).big = false) : st.big = false := by
 unfold wR at h; split at h
 ·exact h
 ·simpa using h
theorem qDI {st : RS} (h : (qT st).1.big = false) : st.big = false := by
 unfold qT qAG at h; split at h
 ·exact h
 ·split at h
  ·cases h
  ·exact h
theorem put_fst (ks : List (List UInt8)) (vs vs' : List Val) (k : List UInt8) (v v' : Val) : (xR ks vs k v).1 = (xR ks vs' k v').1 := by
 unfold xR; split <;> rfl
theorem qHY (s : List UInt8) : ∀ n : Nat,
  (∀ q st d, SameR s (blQ s q) { st with left := yQ st.left } → (yU s n q d).1.bad = (yM n st d).1.bad ∧ ((yM n st d).1.bad = false → SameR s (yU s n q d).1 (yM n st d).1 ∧ ((yM n st d).1.big = false → st.big = false ∧ (yU s n q d).2 = (yM n st d).2))) ∧
  (∀ q st d many vs vs', SameR s q st → (st.big = false → vs' = vs) → (yG s n q d false 93 many [] vs').1.bad = (uZ n st (d + 1) (many + 1) vs).1.bad ∧ ((uZ n st (d + 1) (many + 1) vs).1.bad = false → SameR s (yG s n q d false 93 many [] vs').1 (uZ n st (d + 1) (many + 1) vs).1 ∧ (yG s n q d false 93 many [] vs').2.1 = [] ∧ ((uZ n st (d + 1) (many + 1) vs).1.big = false → st.big = false ∧ (yG s n q d false 93 many [] vs').2.2 = (uZ n st (d + 1) (many + 1) vs).2))) ∧
  (∀ q st d many ks vs vs', SameR s q st → (st.big = false → vs' = vs) → (yG s n q d true 125 many ks vs').1.bad = (uY n st (d + 1) (many + 1) ks vs).1.bad ∧ ((uY n st (d + 1) (many + 1) ks vs).1.bad = false → SameR s (yG s n q d true 125 many ks vs').1 (uY n st (d + 1) (many + 1) ks vs).1 ∧ (yG s n q d true 125 many ks vs').2.1 = (uY n st (d + 1) (many + 1) ks vs).2.1 ∧ ((uY n st (d + 1) (many + 1) ks vs).1.big = false → st.big = false ∧ (yG s n q d true 125 many ks vs').2.2 = (uY n st (d + 1) (many + 1) ks vs).2.2)))
 | 0 => ⟨fun q st d _ => by simp [yU, yM], fun q st d many vs vs' _ _ => by simp [yG, uZ], fun q st d many ks vs vs' _ _ => by simp [yG, uY]⟩
 | n + 1 => by
  obtain ⟨ih1, ih2, ih3⟩ := qHY s n
  refine ⟨fun q st d h => ?_, fun q st d many vs vs' h hv => ?_, fun q st d many ks vs vs' h hv => ?_⟩
  ·have hE : SameR s (zJ s q d) (zM st d) := ⟨h.left, h.le, by show q.nodes + 1 = st.nodes + 1; have := h.nodes; simp only [blQ] at this; omega, h.bad, h.bad', by
    have := h.deep; simp only [blQ] at this; show Bool.or q.deep _ = Bool.or st.deep _; rw [this], by
    have hn := h.nodes; simp only [blQ] at hn; have := h.big; simp only [blQ] at this; show Bool.or q.big _ = Bool.or st.big _; rw [this, hn]⟩
   have hEt : yQ (zM st d).left = (zM st d).left := uH _
   have hbg : (zM st d).big = false → st.big = false := fun h => by
    have : Bool.or st.big (decide (400 < st.nodes + 1)) = false := h
    simp only [Bool.or_eq_false_iff] at this; exact this.1
   rw [val_step, qHN]
   have x34 := qGP (s := s) (q := zJ s q d) (c := 34) (by decide)
   have x91 := qGP (s := s) (q := zJ s q d) (c := 91) (by decide)
   have x123 := qGP (s := s) (q := zJ s q d) (c := 123) (by decide)
   rw [← hE.left] at x34 x91 x123
   generalize zJ s q d = Q at *
   generalize zM st d = E at *
   have hkids : ∀ (obj : Bool) (c : UInt8), c ≠ 0 → 1 ≤ E.left.length → True → (nxQ s (blQ s (wE Q 1)) = c ↔ (tk [c] (zZ E 1)).1 = true) ∧ (nxQ s (blQ s (wE Q 1)) = c → SameR s (wE (blQ s (wE Q 1)) 1) (tk [c] (zZ E 1)).2) ∧ (nxQ s (blQ s (wE Q 1)) ≠ c → SameR s (blQ s (wE Q 1)) (tk [c] (zZ E 1)).2) := fun obj c hc hl _ => (hE.adv hl).take hc
   by_cases c1 : nxQ s Q = 34
   ·rw [if_pos c1]
    have n91 : ¬ nxQ s Q = 91 := by rw [c1]; decide
    have n123 : ¬ nxQ s Q = 123 := by rw [c1]; decide
    rw [if_neg (fun h => n91 (x91.2 h)), if_neg (fun h => n123 (x123.2 h))]
    have hp := x34.1 c1
    obtain ⟨t, ht⟩ := List.isPrefixOf_iff_prefix.1 hp
    have hat : xA E = ((qT E).1, .mk 5 0 dc0 (qT E).2 [] [] 0) := by
     unfold xA
     rw [if_neg (by rw [← ht]; simp [uD, List.isPrefixOf]), if_neg (by rw [← ht]; simp [uC, List.isPrefixOf]), if_neg (by rw [← ht]; simp [jO, List.isPrefixOf]), if_pos hp]
    rw [hat]
    obtain ⟨g1, g2, g3⟩ := hE.quoted hEt
    exact ⟨g1, fun hb => ⟨g3 hb, fun hg => ⟨hbg (qDI hg), by simp only; rw [g2]⟩⟩⟩
   ·rw [if_neg c1]
    by_cases c2 : nxQ s Q = 91
    ·rw [if_pos c2, if_pos (x91.1 c2)]
     have hl := wK (x91.1 c2)
     obtain ⟨t1, t2, t3⟩ := hkids false 93 (by decide) (by simpa using hl) trivial
     have hld : (zZ E 1).big = E.big := rfl
     unfold jX lstM
     by_cases e : nxQ s (blQ s (wE Q 1)) = 93
     ·rw [if_pos e, if_pos (t1.1 e)]
      have g := t2 e
      exact ⟨by simp only; rw [g.bad, g.bad'], fun _ => ⟨g, fun hg => ⟨hbg (by simpa [hld] using hg), rfl⟩⟩⟩
     ·rw [if_neg e, if_neg (fun h => e (t1.2 h))]
      have g := t3 e
      obtain ⟨k1, k2⟩ := ih2 _ _ d 0 [] [] g (fun _ => rfl)
      refine ⟨k1, fun hb => ?_⟩
      obtain ⟨k3, k4, k5⟩ := k2 hb
      refine ⟨k3, fun hg => ?_⟩
      obtain ⟨k6, k7⟩ := k5 hg
      refine ⟨hbg (by simpa [hld] using k6), ?_⟩
      simp only
      rw [k4, k7]
    ·rw [if_neg c2, if_neg (fun h => c2 (x91.2 h))]
     by_cases c3 : nxQ s Q = 123
     ·rw [if_pos c3, if_pos (x123.1 c3)]
      have hl := wK (x123.1 c3)
      obtain ⟨t1, t2, t3⟩ := hkids true 125 (by decide) (by simpa using hl) trivial
      have hld : (zZ E 1).big = E.big := rfl
      unfold jX objM
      by_cases e : nxQ s (blQ s (wE Q 1)) = 125
      ·rw [if_pos e, if_pos (t1.1 e)]
       have g := t2 e
       exact ⟨by simp only; rw [g.bad, g.bad'], fun _ => ⟨g, fun hg => ⟨hbg (by simpa [hld] using hg), rfl⟩⟩⟩
      ·rw [if_neg e, if_neg (fun h => e (t1.2 h))]
       have g := t3 e
       obtain ⟨k1, k2⟩ := ih3 _ _ d 0 [] [] [] g (fun _ => rfl)
       refine ⟨k1, fun hb => ?_⟩
       obtain ⟨k3, k4, k5⟩ := k2 hb
       refine ⟨k3, fun hg => ?_⟩
       obtain ⟨k6, k7⟩ := k5 hg
       refine ⟨hbg (by simpa [hld] using k6), ?_⟩
       simp only
       rw [k4, k7]
     ·rw [if_neg c3, if_neg (fun h => c3 (x123.2 h))]
      by_cases c4 : qCH (nxQ s Q) = true
      ·rw [if_pos c4]
       have e : nxQ s Q = E.left.getD 0 0 := by rw [hE.left]; unfold nxQ; simp [List.getD_eq_getElem?_getD]
       have hne : E.left ≠ [] := by intro h0; rw [e, h0] at c4; exact absurd c4 (by decide)
       obtain ⟨b, t, ht⟩ := List.exists_cons_of_ne_nil hne
       have hb : b = nxQ s Q := by rw [e, ht]; rfl
       have hbn : qCH b = true := by rw [hb]; exact c4
       have hat : xA E = kJ E := by
        have k1 : ¬ b = 110 := by rintro rfl; revert hbn; decide
        have k2 : ¬ b = 116 := by rintro rfl; revert hbn; decide
        have k3 : ¬ b = 102 := by rintro rfl; revert hbn; decide
        have k4 : ¬ b = 34 := by rintro rfl; revert hbn; decide
        unfold xA
        rw [if_neg (by rw [ht]; simp [uD, List.isPrefixOf]; intro h; exact absurd h.symm k1), if_neg (by rw [ht]; simp [uC, List.isPrefixOf]; intro h; exact absurd h.symm k2), if_neg (by rw [ht]; simp [jO, List.isPrefixOf]; intro h; exact absurd h.symm k3), if_neg (by rw [ht]; simp [List.isPrefixOf]; exact fun h => k4 h.symm), if_pos]
        refine ⟨hne, ?_⟩
        have hb0 : qM E.left 0 = (b.toNat : Int) := by rw [ht]; rfl
        rw [hb0]
        unfold qCH at hbn
        simp only [Bool.or_eq_true, decide_eq_true_eq] at hbn
        rcases hbn with rfl | h
        ·exact .inl rfl
        ·exact .inr h
       rw [hat]
       obtain ⟨g1, g2⟩ := hE.number
       refine ⟨g1, fun hb => ?_⟩
       obtain ⟨g3, g4⟩ := g2 hb
       refine ⟨g3, fun hg => ⟨hbg ?_, g4 hg⟩⟩
       unfold kJ at hg
       simp only [Bool.or_eq_false_iff] at hg
       exact hg.1
      ·rw [if_neg c4]
       obtain ⟨g1, g2⟩ := hE.words c1 (by simpa using c4)
       refine ⟨g1, fun hb => ?_⟩
       obtain ⟨g3, g4⟩ := g2 hb
       refine ⟨g3, fun hg => ⟨hbg ?_, g4⟩⟩
       unfold xA at hg
       split at hg
       ·exact hg
       ·split at hg
        ·exact hg
        ·split at hg
         ·exact hg
         ·split at hg
          ·exact qDI hg
          ·split at hg
           ·unfold kJ at hg; simp only [Bool.or_eq_false_iff] at hg; exact hg.1
           ·exact hg
  ·rw [jS, qUV, if_neg (show ¬ q.bad = true by rw [h.bad]; simp), if_neg (show ¬ st.bad = true by rw [h.bad']; simp)]
   have hd : yO s false q = (blQ s q, []) := rfl
   rw [hd, if_neg (by simp only; rw [h.bl.bad]; simp)]
   obtain ⟨v1, v2⟩ := ih1 (blQ s q) st (d + 1) (by rw [qWF h.le]; exact h.bl)
   simp only
   generalize yU s n (blQ s q) (d + 1) = A at *
   generalize yM n st (d + 1) = B at *
   have hm : ∀ key, qNH false [] vs' key A.2 = ([], vs' ++ [A.2]) := fun _ => rfl
   simp only [hm]
   by_cases hb : B.1.bad = true
   ·rw [hb] at v1
    have e1 := beh_bad (s := s) (c := 93) (many := many + 1) v1
    rw [qKU hb, if_pos rfl]
    refine ⟨?_, fun h' => by simp only at h'; rw [hb] at h'; cases h'⟩
    simp only; rw [hb]
    split
    ·exact e1
    ·exact qDQ e1
   ·have hb' : B.1.bad = false := by simpa using hb
    obtain ⟨v3, v4⟩ := v2 hb'
    obtain ⟨s1, s2, s3⟩ := v3.beh (c := 93) (by decide) (many + 1)
    have sb := qTW (c := 93) (many := many + 1) (st := B.1)
    generalize qAU s 93 (many + 1) A.1 = X at *
    generalize vC 93 (many + 1) B.1 = Y at *
    rw [s1]
    by_cases hy : Y.1 = true
    ·rw [if_pos hy, if_pos hy]
     refine ⟨s2, fun h' => ⟨s3 h', rfl, fun hg => ?_⟩⟩
     obtain ⟨w1, w2⟩ := v4 (sb hg)
     exact ⟨w1, by simp only; rw [hv w1, w2]⟩
    ·rw [if_neg hy, if_neg hy]
     by_cases hyb : Y.2.bad = true
     ·rw [hyb] at s2
      exact ⟨by rw [qDQ s2, lst_bad hyb], fun h' => by rw [lst_bad hyb] at h'; cases h'⟩
     ·have g := s3 (by simpa using hyb)
      obtain ⟨k1, k2⟩ := ih2 X.2 Y.2 d (many + 1) (vs ++ [B.2]) (vs' ++ [A.2]) g (fun hg => by
       obtain ⟨w1, w2⟩ := v4 (sb hg)
       rw [hv w1, w2])
      refine ⟨k1, fun h' => ?_⟩
      obtain ⟨k3, k4, k5⟩ := k2 h'
      refine ⟨k3, k4, fun hg => ?_⟩
      obtain ⟨k6, k7⟩ := k5 hg
      exact ⟨(v4 (sb k6)).1, k7⟩
  ·rw [jS, uY, if_neg (show ¬ q.bad = true by rw [h.bad]; simp), if_neg (show ¬ st.bad = true by rw [h.bad']; simp)]
   have hd : yO s true q = qGY s (blQ s q) := rfl
   obtain ⟨y1, y2, y3⟩ := h.key
   have ybig : (wR (qT st).1).big = false → st.big = false := fun h => qDI (qYN h)
   rw [hd]
   generalize qGY s (blQ s q) = K at *
   simp only
   generalize (qT st).2 = key at *
   generalize wR (qT st).1 = C at *
   by_cases hC : C.bad = true
   ·rw [hC] at y1
    rw [if_pos y1]
    simp only [hC, if_true]
    rw [qKU hC, if_pos rfl]
    exact ⟨by simp only; rw [y1, hC], fun h' => by simp only at h'; rw [hC] at h'; cases h'⟩
   ·have hC' : C.bad = false := by simpa using hC
    have g := y3 hC'
    rw [if_neg (by rw [g.bad]; simp)]
    simp only [hC', Bool.false_eq_true, if_false]
    obtain ⟨v1, v2⟩ := ih1 K.1 C (d + 1) g.bl
    rw [y2]
    generalize yU s n K.1 (d + 1) = A at *
    generalize yM n C (d + 1) = B at *
    have hm : qNH true ks vs' key A.2 = xR ks vs' key A.2 := rfl
    rw [hm]
    have hpf := put_fst ks vs vs' key B.2 A.2
    by_cases hb : B.1.bad = true
    ·rw [hb] at v1
     have e1 := beh_bad (s := s) (c := 125) (many := many + 1) v1
     rw [qKU hb, if_pos rfl]
     refine ⟨?_, fun h' => by simp only at h'; rw [hb] at h'; cases h'⟩
     simp only; rw [hb]
     split
     ·exact e1
     ·exact qDQ e1
    ·have hb' : B.1.bad = false := by simpa using hb
     obtain ⟨v3, v4⟩ := v2 hb'
     obtain ⟨s1, s2, s3⟩ := v3.beh (c := 125) (by decide) (many + 1)
     have sb := qTW (c := 125) (many := many + 1) (st := B.1)
     generalize qAU s 125 (many + 1) A.1 = X at *
     generalize vC 125 (many + 1) B.1 = Y at *
     rw [s1]
     by_cases hy : Y.1 = true
     ·rw [if_pos hy, if_pos hy]
      refine ⟨s2, fun h' => ⟨s3 h', hpf.symm, fun hg => ?_⟩⟩
      obtain ⟨w1, w2⟩ := v4 (sb hg)
      exact ⟨ybig w1, by simp only; rw [hv (ybig w1), w2]⟩
     ·rw [if_neg hy, if_neg hy]
      by_cases hyb : Y.2.bad = true
      ·rw [hyb] at s2
       exact ⟨by rw [qDQ s2, qZR hyb], fun h' => by rw [qZR hyb] at h'; cases h'⟩
      ·have g2 := s3 (by simpa using hyb)
       rw [← hpf]
       obtain ⟨k1, k2⟩ := ih3 X.2 Y.2 d (many + 1) (xR ks vs key B.2).1 (xR ks vs key B.2).2 (xR ks vs' key A.2).2 g2 (fun hg => by
        obtain ⟨w1, w2⟩ := v4 (sb hg)
        rw [hv (ybig w1), w2])
       refine ⟨k1, fun h' => ?_⟩
       obtain ⟨k3, k4, k5⟩ := k2 h'
       refine ⟨k3, k4, fun hg => ?_⟩
       obtain ⟨k6, k7⟩ := k5 hg
       exact ⟨ybig (v4 (sb k6)).1, k7⟩
theorem one_same (s : List UInt8) : oneQ s = qLK s := by
 have h0 : SameR s ⟨0, 0, false, false, false⟩ ⟨s, 0, false, false, false⟩ := ⟨rfl, Nat.zero_le _, rfl, rfl, rfl, rfl, rfl⟩
 obtain ⟨h1, h2⟩ := (qHY s (2 * s.length + 2)).1 _ _ 1 h0.bl
 unfold oneQ qLK
 simp only
 generalize yU s (2 * s.length + 2) ⟨0, 0, false, false, false⟩ 1 = A at *
 generalize yM (2 * s.length + 2) ⟨s, 0, false, false, false⟩ 1 = B at *
 rw [h1]
 by_cases hb : B.1.bad = true
 ·rw [if_pos hb, if_pos hb]
 ·rw [if_neg hb, if_neg hb]
  obtain ⟨h3, h4⟩ := h2 (by simpa using hb)
  rw [h3.deep, h3.big]
  split
  ·rfl
  ·split
   ·rfl
   ·rename_i hg
    rw [(h4 (by simpa using hg)).2]
    have := h3.left
    have hle := h3.le
    congr 2
    rw [this, List.length_drop]; omega
set_option maxHeartbeats 4000000
variable {G : qS}
theorem zS (b : UInt8) (n : Nat) (hn : n < 256) : ((b.toNat : Int) = (n : Int)) ↔ b = UInt8.ofNat n := by
 constructor
 ·intro e; exact UInt8.toNat_inj.1 (by rw [UInt8.toNat_ofNat']; omega)
 ·rintro rfl; rw [UInt8.toNat_ofNat']; omega
theorem enc_bytes (r : Int) : qQ (Lib.encodeRune r) = (Lib.encodeRuneZ r).map (PD.int .u8) := by
 unfold qQ Lib.encodeRune
 rw [List.map_map]
 refine List.map_congr_left fun x hx => ?_
 have := Lib.encodeRuneZ_byte r x hx
 simp only [Function.comp, PD.int.injEq, true_and]
 show ((UInt8.ofNat x.toNat).toNat : Int) = x
 rw [UInt8.toNat_ofNat']; omega
theorem w8 {n : Int} (h : 0 ≤ n ∧ n < 256) : IntKind.u8.wrap n = n := by simp [IntKind.wrap, IntKind.bits, IntKind.signed]; omega
theorem w64 {n : Int} (h : 0 ≤ n ∧ n < 9223372036854775808) : IntKind.i64.wrap n = n := by simp [IntKind.wrap, IntKind.bits, IntKind.signed]; omega
theorem qNW (x : Nat) (hx : x < 1114112) (hs : ¬ (55296 ≤ x ∧ x < 57344)) : AFn Tryz.prog G 262 [.int .i64 x] (.str (Lib.encodeRune x)) := by
 refine AFn.introU tok Tryz.func262 (by kernel_rfl) rfl rfl ?_
 simp only [Tryz.f262, qK, List.map_cons, List.map_nil]
 have hb := enc_bytes x
 generalize Lib.encodeRune x = B at *
 have q1 : IntKind.i64.wrap ((x : Int) / 64) = (x : Int) / 64 := w64 (by omega)
 have q2 : IntKind.i64.wrap ((x : Int) / 4096) = (x : Int) / 4096 := w64 (by omega)
 have q3 : IntKind.i64.wrap ((x : Int) / 262144) = (x : Int) / 262144 := w64 (by omega)
 have e1 : (x : Int).tmod 64 = (x : Int) % 64 := Int.tmod_eq_emod_of_nonneg (by omega)
 have e2 : ((x : Int) / 64).tmod 64 = (x : Int) / 64 % 64 := Int.tmod_eq_emod_of_nonneg (by omega)
 have e3 : ((x : Int) / 4096).tmod 64 = (x : Int) / 4096 % 64 := Int.tmod_eq_emod_of_nonneg (by omega)
 refine rgn [] [[0]] ?_
 refine op1 tok ?_
 refine qA ?_
 refine AW.seq ?_
 refine AW.block ?_
 refine rgn [] [[], [], [0, 3]] ?_
 iterate 3 refine op1 tok ?_
 refine qA ?_
 refine cnd ?_ ?_
 ·intro h3
  try simp at h3
  rw [Lib.encodeRuneZ_one (by omega) (by omega)] at hb
  refine rgn [.int .u8 x, .str B] [[], [], [], [9], [2]] ?_
  iterate 5 refine op1 tok ?_ (hv := by first | with_reducible exact True.intro | (first | (rw [w8 (by omega)]) | (rw [hb]; rfl); done) | omega | simp | (simp +contextual; omega))
  refine qA ?_
  exact AW.ret ⟨.inr rfl, _, _, by (conv => lhs; simp), trivial, by simp⟩
 ·intro h3
  try simp at h3
  refine rgn [] [[], [], [0, 10]] ?_
  iterate 3 refine op1 tok ?_
  refine qA ?_
  refine cnd ?_ ?_
  ·intro h10
   try simp at h10
   rw [Lib.encodeRuneZ_two (by omega) (by omega)] at hb
   have k1 := w8 (n := 192 + (x : Int) / 64) (by omega)
   have k2 := w8 (n := 128 + (x : Int) % 64) (by omega)
   refine rgn [.int .u8 (192 + (x : Int) / 64), .int .u8 (128 + (x : Int) % 64), .str B] [[], [], [], [], [16, 17], [], [], [], [21], [], [2]] ?_
   iterate 11 refine op1 tok ?_ (h := by intro C; conv => lhs; simp [q1, e1, k1, k2]) (hv := by first | with_reducible exact True.intro | ((rw [hb]; rfl); done) | omega | simp | (simp +contextual; omega))
   refine qA ?_
   exact AW.ret ⟨.inr rfl, _, _, by (conv => lhs; simp), trivial, by simp⟩
  ·intro h10
   try simp at h10
   refine rgn [] [[], [], [0, 23]] ?_
   iterate 3 refine op1 tok ?_
   refine qA ?_
   refine cnd ?_ ?_
   ·intro h23
    try simp at h23
    rw [Lib.encodeRuneZ_three (by omega)] at hb
    have k1 := w8 (n := 224 + (x : Int) / 4096) (by omega)
    have k2 := w8 (n := 128 + (x : Int) / 64 % 64) (by omega)
    have k3 := w8 (n := 128 + (x : Int) % 64) (by omega)
    refine rgn [.int .u8 (224 + (x : Int) / 4096), .int .u8 (128 + (x : Int) / 64 % 64), .int .u8 (128 + (x : Int) % 64), .str B] [[], [], [], [], [], [0, 29, 31], [], [], [], [29, 34, 35], [], [], [], [39], [], [2]] ?_
    iterate 16 refine op1 tok ?_ (h := by intro C; conv => lhs; simp [q1, q2, q3, e1, e2, e3, k1, k2, k3]) (hv := by first | with_reducible exact True.intro | ((rw [hb]; rfl); done) | omega | simp | (simp +contextual; omega))
    refine qA ?_
    exact AW.ret ⟨.inr rfl, _, _, by (conv => lhs; simp), trivial, by simp⟩
   ·intro h23
    try simp at h23
    rw [Lib.encodeRuneZ_four (by omega) (by omega)] at hb
    have k1 := w8 (n := 240 + (x : Int) / 262144) (by omega)
    have k2 := w8 (n := 128 + (x : Int) / 4096 % 64) (by omega)
    have k3 := w8 (n := 128 + (x : Int) / 64 % 64) (by omega)
    have k4 := w8 (n := 128 + (x : Int) % 64) (by omega)
    refine AW.skip ?_
    refine rgn [.int .u8 (240 + (x : Int) / 262144), .int .u8 (128 + (x : Int) / 4096 % 64), .int .u8 (128 + (x : Int) / 64 % 64), .int .u8 (128 + (x : Int) % 64), .str B] [[], [], [], [], [], [0, 44, 46], [], [], [], [], [0, 44, 49, 51], [], [], [], [44, 49, 54, 55], [], [], [], [59], [], [2]] ?_
    iterate 21 refine op1 tok ?_ (h := by intro C; conv => lhs; simp [q1, q2, q3, e1, e2, e3, k1, k2, k3, k4]) (hv := by first | with_reducible exact True.intro | ((rw [hb]; rfl); done) | omega | simp | (simp +contextual; omega))
    refine qA ?_
    exact AW.ret ⟨.inr rfl, _, _, by (conv => lhs; simp), trivial, by simp⟩
def qBK (s : List UInt8) (k : Nat) : Int := if s.length < k + 4 then -1 else match qMG ((s.drop k).take 4) 0 with
 | some x => x
 | none => -1
theorem qVE (s : List UInt8) (k : Nat) (hs : s.length ≤ 1000000000) (hk : k ≤ 2000000000) : AFn Tryz.prog G 261 [.str s, .int .i64 k] (.int .i64 (qBK s k)) := by
 refine AFn.introU tok Tryz.func261 (by kernel_rfl) rfl rfl ?_
 simp only [Tryz.f261, qK, List.map_cons, List.map_nil]
 unfold qBK
 refine rgn [] [[0, 1]] ?_
 refine op1 tok ?_
 refine qA ?_
 refine AW.seq ?_
 refine rgn [] [[], [], [], [], [0, 1, 12]] ?_
 iterate 5 refine op1 tok ?_
 refine qA ?_
 refine cnd ?_ ?_
 ·intro h12
  try simp at h12
  rw [if_pos (by omega)]
  refine rgn [] [[]] ?_
  refine op1 tok ?_
  refine qA ?_
  exact AW.ret ⟨.inr rfl, _, _, by (conv => lhs; simp), trivial, by simp⟩
 ·intro h12
  try simp at h12
  rw [if_neg (by omega)]
  refine AW.skip ?_
  refine rgn [] [[]] ?_
  refine op1 tok ?_
  refine qA ?_
  refine AW.seq ?_
  refine rgn [] [[], [0, 1, 5, 6]] ?_
  iterate 2 refine op1 tok ?_
  refine qA ?_
  refine AW.block ?_
  refine AW.loop (α := Nat × Nat) (fun a => a.1 ≤ 4 ∧ qMG ((s.drop k).take 4) 0 = qMG ((s.drop (k + a.1)).take (4 - a.1)) a.2 ∧ a.2 < 16 ^ a.1) (fun a => ⟨qW 65 [(0, .p (.str s)), (1, .p (.int .i64 k)), (5, .p (.int .i64 a.2)), (6, .p (.int .i64 (k + a.1 : Nat)))], [], [], 0⟩) (fun a => 4 - a.1) ((0, 0)) ⟨by decide, rfl, by decide⟩ ⟨qB (by simp), rfl, by simp, by simp⟩ ?_
  rintro ⟨d, x⟩ ⟨hd, hq, hx⟩
  simp only at hd hq hx
  refine AW.seq ?_
  refine rgn [] [[], [], [], [0, 1, 5, 6, 17]] ?_
  iterate 4 refine op1 tok ?_
  refine qA ?_
  refine cnd ?_ ?_
  ·intro h17
   try simp at h17
   obtain ⟨c, hc⟩ : ∃ c, s[k + d]? = some c := ⟨s[k + d]'(by omega), List.getElem?_eq_getElem _⟩
   have hst : (s.drop (k + d)).take (4 - d) = c :: (s.drop (k + (d + 1))).take (4 - (d + 1)) := by
    obtain ⟨h, rfl⟩ := List.getElem?_eq_some_iff.1 hc
    rw [List.drop_eq_getElem_cons h, show 4 - d = (4 - (d + 1)) + 1 by omega, List.take_succ_cons]; rfl
   rw [hst] at hq
   simp only [qMG] at hq
   have hb : 16 ^ d ≤ 16 ^ 3 := Nat.pow_le_pow_right (by decide) (by omega)
   have hc2 := c.toNat_lt
   have hp : 16 ^ (d + 1) = 16 ^ d * 16 := Nat.pow_succ ..
   refine AW.skip ?_
   refine AW.seq ?_
   refine AW.block ?_
   refine rgn [.int .u8 c.toNat] [[], [], [], [0, 1, 5, 6, 7]] ?_
   iterate 4 refine op1 tok ?_ (hv := by first | with_reducible exact True.intro | (exact ⟨by omega, c, by rw [show ((k : Int) + d).toNat = k + d by omega]; exact hc, rfl⟩; done) | omega | simp | (simp +contextual; omega))
   refine qA ?_
   refine AW.block ?_
   refine rgn [] [[], [], [], [], [], [0, 1, 5, 6, 7, 29], [0, 1, 5, 6, 7, 23]] ?_
   iterate 3 refine op1 tok ?_
   iterate 2 refine op2 tok ?_
   iterate 2 refine op1 tok ?_
   refine qA ?_
   refine cnd ?_ ?_
   ·intro h23
    try simp at h23
    have hv : qMF c = some (c.toNat - 48) := by
     unfold qMF; rw [if_pos]
     rw [UInt8.le_iff_toNat_le, UInt8.le_iff_toNat_le]; exact ⟨by show 48 ≤ c.toNat; omega, by show c.toNat ≤ 57; omega⟩
    rw [hv] at hq
    simp only at hq
    have w1 := w8 (n := (c.toNat : Int) - 48) (by omega)
    refine rgz [] [[], [], [], [0, 1, 6, 31, 33], [], [], [0, 1, 5, 6]] ?_
    iterate 7 refine op1 tok ?_ (h := by intro C; conv => lhs; simp [w1])
    refine qA ?_
    refine rgz [] [[], [], [0, 1, 5, 6]] ?_
    iterate 3 refine op1 tok ?_
    refine qA ?_
    exact ⟨(d + 1, 16 * x + (c.toNat - 48)), ⟨by simp only []; omega, hq, by simp only []; omega⟩, by simp only []; omega, qB (by simp [show ((16 * x + (c.toNat - 48) : Nat) : Int) = 16 * (x : Int) + ((c.toNat : Int) - 48) from by omega, show ((k + (d + 1) : Nat) : Int) = (k : Int) + d + 1 from by omega]), rfl, by simp [show ((16 * x + (c.toNat - 48) : Nat) : Int) = 16 * (x : Int) + ((c.toNat : Int) - 48) from by omega, show ((k + (d + 1) : Nat) : Int) = (k : Int) + d + 1 from by omega], by simp [show ((16 * x + (c.toNat - 48) : Nat) : Int) = 16 * (x : Int) + ((c.toNat : Int) - 48) from by omega, show ((k + (d + 1) : Nat) : Int) = (k : Int) + d + 1 from by omega]⟩
   ·intro h23
    try simp at h23
    refine rgn [] [[], [], [], [], [], [0, 1, 5, 6, 7, 42], [0, 1, 5, 6, 7, 36]] ?_
    iterate 3 refine op1 tok ?_
    iterate 2 refine op2 tok ?_
    iterate 2 refine op1 tok ?_
    refine qA ?_
    refine cnd ?_ ?_
    ·intro h36
     try simp at h36
     have hv : qMF c = some (c.toNat - 87) := by
      unfold qMF; rw [if_neg, if_pos]
      ·rw [UInt8.le_iff_toNat_le, UInt8.le_iff_toNat_le]; exact ⟨by show 97 ≤ c.toNat; omega, by show c.toNat ≤ 102; omega⟩
      ·rw [UInt8.le_iff_toNat_le, UInt8.le_iff_toNat_le]; show ¬ (48 ≤ c.toNat ∧ c.toNat ≤ 57); omega
     rw [hv] at hq
     simp only at hq
     have w1 := w8 (n := (c.toNat : Int) - 97) (by omega)
     refine rgz [] [[], [], [], [0, 1, 6, 44, 46], [], [], [0, 1, 6, 49], [0, 1, 5, 6]] ?_
     iterate 8 refine op1 tok ?_ (h := by intro C; conv => lhs; simp [w1])
     refine qA ?_
     refine rgz [] [[], [], [0, 1, 5, 6]] ?_
     iterate 3 refine op1 tok ?_
     refine qA ?_
     exact ⟨(d + 1, 16 * x + (c.toNat - 87)), ⟨by simp only []; omega, hq, by simp only []; omega⟩, by simp only []; omega, qB (by simp [show ((16 * x + (c.toNat - 87) : Nat) : Int) = 16 * (x : Int) + ((c.toNat : Int) - 97) + 10 from by omega, show ((k + (d + 1) : Nat) : Int) = (k : Int) + d + 1 from by omega]), rfl, by simp [show ((16 * x + (c.toNat - 87) : Nat) : Int) = 16 * (x : Int) + ((c.toNat : Int) - 97) + 10 from by omega, show ((k + (d + 1) : Nat) : Int) = (k : Int) + d + 1 from by omega], by simp [show ((16 * x + (c.toNat - 87) : Nat) : Int) = 16 * (x : Int) + ((c.toNat : Int) - 97) + 10 from by omega, show ((k + (d + 1) : Nat) : Int) = (k : Int) + d + 1 from by omega]⟩
    ·intro h36
     try simp at h36
     refine rgn [] [[], [], [], [], [], [0, 1, 5, 6, 7, 56], [0, 1, 5, 6, 7, 50]] ?_
     iterate 3 refine op1 tok ?_
     iterate 2 refine op2 tok ?_
     iterate 2 refine op1 tok ?_
     refine qA ?_
     refine cnd ?_ ?_
     ·intro h50
      try simp at h50
      have hv : qMF c = some (c.toNat - 55) := by
       unfold qMF; rw [if_neg, if_neg, if_pos]
       ·rw [UInt8.le_iff_toNat_le, UInt8.le_iff_toNat_le]; exact ⟨by show 65 ≤ c.toNat; omega, by show c.toNat ≤ 70; omega⟩
       ·rw [UInt8.le_iff_toNat_le, UInt8.le_iff_toNat_le]; show ¬ (97 ≤ c.toNat ∧ c.toNat ≤ 102); omega
       ·rw [UInt8.le_iff_toNat_le, UInt8.le_iff_toNat_le]; show ¬ (48 ≤ c.toNat ∧ c.toNat ≤ 57); omega
      rw [hv] at hq
      simp only at hq
      have w1 := w8 (n := (c.toNat : Int) - 65) (by omega)
      refine rgz [] [[], [], [], [0, 1, 6, 58, 60], [], [], [0, 1, 6, 63], [0, 1, 5, 6]] ?_
      iterate 8 refine op1 tok ?_ (h := by intro C; conv => lhs; simp [w1])
      refine qA ?_
      refine rgz [] [[], [], [0, 1, 5, 6]] ?_
      iterate 3 refine op1 tok ?_
      refine qA ?_
      exact ⟨(d + 1, 16 * x + (c.toNat - 55)), ⟨by simp only []; omega, hq, by simp only []; omega⟩, by simp only []; omega, qB (by simp [show ((16 * x + (c.toNat - 55) : Nat) : Int) = 16 * (x : Int) + ((c.toNat : Int) - 65) + 10 from by omega, show ((k + (d + 1) : Nat) : Int) = (k : Int) + d + 1 from by omega]), rfl, by simp [show ((16 * x + (c.toNat - 55) : Nat) : Int) = 16 * (x : Int) + ((c.toNat : Int) - 65) + 10 from by omega, show ((k + (d + 1) : Nat) : Int) = (k : Int) + d + 1 from by omega], by simp [show ((16 * x + (c.toNat - 55) : Nat) : Int) = 16 * (x : Int) + ((c.toNat : Int) - 65) + 10 from by omega, show ((k + (d + 1) : Nat) : Int) = (k : Int) + d + 1 from by omega]⟩
     ·intro h50
      try simp at h50
      have hv : qMF c = none := by
       unfold qMF; rw [if_neg, if_neg, if_neg]
       ·rw [UInt8.le_iff_toNat_le, UInt8.le_iff_toNat_le]; show ¬ (65 ≤ c.toNat ∧ c.toNat ≤ 70); omega
       ·rw [UInt8.le_iff_toNat_le, UInt8.le_iff_toNat_le]; show ¬ (97 ≤ c.toNat ∧ c.toNat ≤ 102); omega
       ·rw [UInt8.le_iff_toNat_le, UInt8.le_iff_toNat_le]; show ¬ (48 ≤ c.toNat ∧ c.toNat ≤ 57); omega
      rw [hv] at hq
      simp only at hq
      rw [hq]
      refine rgn [] [[]] ?_
      refine op1 tok ?_
      refine qA ?_
      exact AW.ret ⟨.inr rfl, _, _, by (conv => lhs; simp), trivial, by simp⟩
  ·intro h17
   try simp at h17
   obtain rfl : d = 4 := by omega
   simp only [Nat.sub_self, List.take_zero, qMG] at hq
   rw [hq]
   refine AW.exit ?_
   simp
   refine rgn [] [[], [4]] ?_
   iterate 2 refine op1 tok ?_
   refine qA ?_
   exact AW.ret ⟨.inr rfl, _, _, by (conv => lhs; simp), trivial, by simp⟩
theorem qDY (s : List UInt8) (k : Nat) : -1 ≤ qBK s k ∧ qBK s k < 65536 := by
 unfold qBK
 split
 ·omega
 ·split
  ·rename_i x hx
   have h1 := qRV _ 0 x hx
   have h2 : ((s.drop k).take 4).length ≤ 4 := by simp; omega
   have h3 : 16 ^ ((s.drop k).take 4).length ≤ 16 ^ 4 := Nat.pow_le_pow_right (by decide) h2
   omega
  ·omega
theorem qTL {s : List UInt8} {k : Nat} : (s.drop k).take 2 = [92, 117] ↔ s[k]? = some 92 ∧ s[k + 1]? = some 117 := by
 have h0 : (s.drop k)[0]? = s[k]? := by simp
 have h1 : (s.drop k)[1]? = s[k + 1]? := by simp
 rw [← h0, ← h1]
 generalize s.drop k = t
 match t with
 | [] => simp
 | [a] => simp
 | a :: b :: r => simp
theorem qOB {s : List UInt8} {k : Nat} (h1 : s[k]? = some 92) (h2 : s[k + 1]? = some 117) : jE (s.drop k) = if qBK s (k + 2) < 0 then none else some (qBK s (k + 2)).toNat := by
 unfold jE qBK
 rw [List.length_drop, List.drop_drop]
 by_cases h : s.length < k + 2 + 4
 ·rw [if_pos (.inl (by omega)), if_pos h]; rfl
 ·rw [if_neg (by
   rintro (h' | h')
   ·omega
   ·exact h' (qTL.2 ⟨h1, h2⟩)), if_neg h]
  cases qMG ((s.drop (k + 2)).take 4) 0 with
  | none => rfl
  | some x => simp only; rw [if_neg (by omega)]; simp
theorem qZD {s : List UInt8} {k : Nat} (h : ¬ (s[k]? = some 92 ∧ s[k + 1]? = some 117)) : jE (s.drop k) = none := by
 unfold jE
 rw [if_pos (.inr fun h' => h (qTL.1 h'))]
theorem qWS {s : List UInt8} {k : Nat} (h : s.length < k + 2) : jE (s.drop k) = none := by
 unfold jE
 rw [if_pos (.inl (by rw [List.length_drop]; omega))]
def qJO (t : List UInt8) : List UInt8 × Int := if (xS t).2.2 = true then (Lib.encodeRune (xS t).1, (xS t).2.1 - 1) else ([], 0)
theorem qIK {s : List UInt8} {k : Nat} {b c : UInt8} (h1 : s[k]? = some b) (h2 : s[k + 1]? = some c) : xS (s.drop k) = match uR c with
  | some v => (v, 2, true)
  | none => qNM (jE (s.drop k)) (jE (s.drop (k + 6))) := by
 obtain ⟨hk, rfl⟩ := List.getElem?_eq_some_iff.1 h1
 obtain ⟨hk2, rfl⟩ := List.getElem?_eq_some_iff.1 h2
 have e : s.drop k = s[k] :: s[k + 1] :: s.drop (k + 2) := by rw [List.drop_eq_getElem_cons hk, List.drop_eq_getElem_cons hk2]
 rw [show s.drop (k + 6) = (s.drop k).drop 6 by rw [List.drop_drop]]
 generalize hg : s.drop k = t at *
 subst e
 rfl
theorem esc_one {v : Nat} (h : v < 128) : Lib.encodeRune v = [UInt8.ofNat v] := by
 simp only [Lib.encodeRune, Lib.encodeRuneZ_one (r := (v : Int)) (by omega) (by omega), List.map_cons, List.map_nil]
 rfl
theorem qVI {s : List UInt8} {k v : Nat} {b c : UInt8} (h1 : s[k]? = some b) (h2 : s[k + 1]? = some c) (hv : uR c = some v) (h : v < 128) : qJO (s.drop k) = ([UInt8.ofNat v], 1) := by
 unfold qJO
 rw [qIK h1 h2, hv]
 simp only [if_true, esc_one h]
 rfl
theorem esc3_else {s : List UInt8} {k : Nat} {b c : UInt8} (h1 : s[k]? = some b) (h2 : s[k + 1]? = some c) (hv : uR c = none) (hc : c ≠ 117) : qJO (s.drop k) = ([], 0) := by
 unfold qJO
 rw [qIK h1 h2, hv]
 simp only
 rw [qZD (fun h => by rw [h2] at h; exact hc (Option.some.inj h.2))]
 rfl
theorem esc3_u {s : List UInt8} {k : Nat} (h1 : s[k]? = some 92) (h2 : s[k + 1]? = some 117) {X Y : Int} (hX : X = qBK s (k + 2)) (hY : jE (s.drop (k + 6)) = if Y < 0 then none else some Y.toNat) (hY2 : Y < 65536) :
  qJO (s.drop k) = if X < 0 ∨ (56320 ≤ X ∧ X < 57344) then ([], 0) else if X < 55296 ∨ 57344 ≤ X then (Lib.encodeRune X.toNat, 5) else if Y < 56320 ∨ 57344 ≤ Y then ([], 0) else (Lib.encodeRune ((65536 + 1024 * (X - 55296) + Y - 56320).toNat : Nat), 11) := by
 have hb := qDY s (k + 2)
 rw [← hX] at hb
 unfold qJO
 rw [qIK h1 h2, show uR 117 = none from rfl]
 simp only
 rw [qOB h1 h2, hY, ← hX]
 generalize hU : (if X < 0 then none else some X.toNat) = U
 generalize hW : (if Y < 0 then none else some Y.toNat) = W
 by_cases c1 : X < 0
 ·rw [if_pos c1] at hU
  subst hU
  rw [if_pos (show X < 0 ∨ (56320 ≤ X ∧ X < 57344) from .inl c1)]; rfl
 ·rw [if_neg c1] at hU
  subst hU
  by_cases c2 : 56320 ≤ X ∧ X < 57344
  ·have hE : qNM (some X.toNat) W = (X.toNat, 6, false) := by
    unfold qNM
    rw [if_pos (.inr (by simp only [Option.getD_some]; omega))]
    simp only [Option.isSome_some, Option.getD_some, Bool.true_and]
    rw [show decide (X.toNat / 1024 ≠ 55) = false by simp; omega]
   rw [hE, if_pos (show X < 0 ∨ (56320 ≤ X ∧ X < 57344) from .inr c2)]; rfl
  ·rw [if_neg (show ¬ (X < 0 ∨ (56320 ≤ X ∧ X < 57344)) by omega)]
   by_cases c3 : X < 55296 ∨ 57344 ≤ X
   ·have hE : qNM (some X.toNat) W = (X.toNat, 6, true) := by
     unfold qNM
     rw [if_pos (.inr (by simp only [Option.getD_some]; omega))]
     simp only [Option.isSome_some, Option.getD_some, Bool.true_and]
     rw [show decide (X.toNat / 1024 ≠ 55) = true by simp; omega]
    rw [hE, if_pos (show X < 55296 ∨ 57344 ≤ X from c3)]; rfl
   ·have hE : qNM (some X.toNat) W = (65536 + X.toNat % 1024 * 1024 + W.getD 0 % 1024, 12, W.isSome && decide (W.getD 0 / 1024 = 55)) := by
     unfold qNM
     rw [if_neg (by simp only [Option.getD_some, Option.isSome_some]; rintro (h | h); cases h; omega)]
     rfl
    rw [hE, if_neg (show ¬ (X < 55296 ∨ 57344 ≤ X) from c3)]
    by_cases c4 : Y < 0
    ·rw [if_pos c4] at hW
     subst hW
     rw [if_pos (show Y < 56320 ∨ 57344 ≤ Y by omega)]; rfl
    ·rw [if_neg c4] at hW
     subst hW
     simp only [Option.isSome_some, Option.getD_some, Bool.true_and]
     by_cases c5 : Y < 56320 ∨ 57344 ≤ Y
     ·rw [if_pos c5, if_neg (show ¬ (decide (Y.toNat / 1024 = 55) = true) by simp; omega)]
     ·rw [if_neg c5, if_pos (show decide (Y.toNat / 1024 = 55) = true by simp; omega)]
      rw [show 65536 + X.toNat % 1024 * 1024 + Y.toNat % 1024 = (65536 + 1024 * (X - 55296) + Y - 56320).toNat by omega]
      rfl
theorem qYG {s : List UInt8} {k : Nat} (h : s.length < k + 2) : qJO (s.drop k) = ([], 0) := by
 have hl : (s.drop k).length < 2 := by rw [List.length_drop]; omega
 generalize s.drop k = t at *
 match t, hl with
 | [], _ => rfl
 | [a], _ => rfl
theorem qYF (s : List UInt8) (k : Nat) (hs : s.length ≤ 1000000000) (hk : s[k]? = some 92) : AFn Tryz.prog G 239 [.str s, .int .i64 (k + 1 : Nat)] (.tup [.str (qJO (s.drop k)).1, .int .i64 (qJO (s.drop k)).2]) := by
 refine AFn.introU tok Tryz.func239 (by kernel_rfl) rfl rfl ?_
 simp only [Tryz.f239, qK, List.map_cons, List.map_nil]
 have hkl := (List.getElem?_eq_some_iff.1 hk).1
 refine rgn [] [[], [0, 1]] ?_
 iterate 2 refine op1 tok ?_
 refine qA ?_
 refine AW.seq ?_
 refine rgn [] [[], [], [], [0, 1, 11]] ?_
 iterate 4 refine op1 tok ?_
 refine qA ?_
 refine cnd ?_ ?_
 ·intro h11
  try simp at h11
  rw [qYG (by omega)]
  refine rgn [] [[], []] ?_
  iterate 2 refine op1 tok ?_
  refine qA ?_
  exact AW.ret ⟨.inr rfl, _, _, by (conv => lhs; simp), trivial, by simp⟩
 ·intro h11
  try simp at h11
  obtain ⟨c, hc⟩ : ∃ c, s[k + 1]? = some c := ⟨s[k + 1]'(by omega), List.getElem?_eq_getElem _⟩
  have l34 : ((c.toNat : Int) = 34) ↔ c = 34 := zS c 34 (by decide)
  have l92 : ((c.toNat : Int) = 92) ↔ c = 92 := zS c 92 (by decide)
  have l47 : ((c.toNat : Int) = 47) ↔ c = 47 := zS c 47 (by decide)
  have l98 : ((c.toNat : Int) = 98) ↔ c = 98 := zS c 98 (by decide)
  have l102 : ((c.toNat : Int) = 102) ↔ c = 102 := zS c 102 (by decide)
  have l110 : ((c.toNat : Int) = 110) ↔ c = 110 := zS c 110 (by decide)
  have l114 : ((c.toNat : Int) = 114) ↔ c = 114 := zS c 114 (by decide)
  have l116 : ((c.toNat : Int) = 116) ↔ c = 116 := zS c 116 (by decide)
  have l117 : ((c.toNat : Int) = 117) ↔ c = 117 := zS c 117 (by decide)
  have hes := fun v (h : uR c = some v) (h2 : v < 128) => qVI hk hc h h2
  have hel := fun (h : uR c = none) (h2 : c ≠ 117) => esc3_else hk hc h h2
  have heu := fun (h : c = 117) (X Y : Int) hX hY => esc3_u hk (by rw [hc, h]) (X := X) (Y := Y) hX hY
  have hus := qWS (s := s) (k := k + 6)
  have hun := qZD (s := s) (k := k + 6)
  have huf := qOB (s := s) (k := k + 6)
  have hsl : (s.take (k + 1 + 1)).drop (k + 1) = [c] := by
   have h := List.getElem?_eq_some_iff.1 hc
   rw [List.drop_take, List.drop_eq_getElem_cons h.1, h.2, show k + 1 + 1 - (k + 1) = 1 by omega]; rfl
  have hsl2 : (s.take ((k : Int) + 1 + 1).toNat).drop (k + 1) = [c] := by rw [show ((k : Int) + 1 + 1).toNat = k + 1 + 1 by omega]; exact hsl
  generalize qJO (s.drop k) = E at *
  generalize jE (s.drop (k + 6)) = W at *
  refine AW.skip ?_
  refine AW.seq ?_
  refine rgn [.int .u8 c.toNat] [[], [], [0, 1, 14]] ?_
  iterate 3 refine op1 tok ?_ (hv := by first | with_reducible exact True.intro | (exact ⟨by omega, c, hc, rfl⟩; done) | omega | simp | (simp +contextual; omega))
  refine qA ?_
  refine AW.block ?_
  refine AW.join (α := Bool) (fun b => b = decide (c = 34 ∨ c = 92 ∨ c = 47)) (fun b => ⟨qW 95 [(0, .p (.str s)), (1, .p (.int .i64 (k + 1 : Nat))), (14, .p (.int .u8 c.toNat)), (15, .p (.bool b))], [], [], 0⟩) ?_ ?_
  ·
   refine rgn [] [[], [0, 1, 14, 15]] ?_
   iterate 2 refine op1 tok ?_
   refine qA ?_
   refine cnd ?_ ?_
   ·intro h15
    try simp at h15
    refine AW.skip ?_
    exact ⟨true, by simp [l34.1 h15], qB (by simp [h15]), rfl, by simp [h15], by simp [h15]⟩
   ·intro h15
    try simp at h15
    refine rgn [] [[], [0, 1, 14, 15]] ?_
    iterate 2 refine op1 tok ?_
    refine qA ?_
    refine cnd ?_ ?_
    ·intro h15
     try simp at h15
     refine AW.skip ?_
     exact ⟨true, by simp [l92.1 h15], qB (by simp [h15]), rfl, by simp [h15], by simp [h15]⟩
    ·intro h15
     try simp at h15
     refine rgz [] [[], [0, 1, 14, 15]] ?_
     iterate 2 refine op1 tok ?_
     refine qA ?_
     exact ⟨decide (c = 47), by simp_all, qB (by simp [l47]), rfl, by simp [l47], by simp [l47]⟩
  ·
   rintro b hb
   refine cnd ?_ ?_
   ·intro h15
    try simp at h15
    subst hb
    have hcc : uR c = some c.toNat := by
     have hb' : c = 34 ∨ c = 92 ∨ c = 47 := by simpa using h15
     rcases hb' with rfl | rfl | rfl <;> rfl
    have hcl : c.toNat < 128 := by
     have hb' : c = 34 ∨ c = 92 ∨ c = 47 := by simpa using h15
     rcases hb' with rfl | rfl | rfl <;> decide
    rw [hes _ hcc hcl]
    refine rgn [] [[], [], [], [], [23], [], [4, 5]] ?_
    iterate 7 refine op1 tok ?_ (h := by intro C; conv => lhs; simp [hsl2])
    refine qA ?_
    exact AW.ret ⟨.inr rfl, _, _, by (conv => lhs; simp), trivial, by simp⟩
   ·intro h15
    try simp at h15
    subst hb
    have n1 : ¬ (c = 34 ∨ c = 92 ∨ c = 47) := by simpa using h15
    clear l34 l92 l47 h15
    refine rgn [] [[], [0, 1, 14, 24]] ?_
    iterate 2 refine op1 tok ?_
    refine qA ?_
    refine cnd ?_ ?_
    ·intro h24
     try simp at h24
     have hcc : uR c = some 8 := by rw [l98.1 h24]; rfl
     rw [hes _ hcc (by decide)]
     refine rgn [] [[], []] ?_
     iterate 2 refine op1 tok ?_
     refine qA ?_
     exact AW.ret ⟨.inr rfl, _, _, by (conv => lhs; simp), trivial, by simp⟩
    ·intro h24
     try simp at h24
     refine rgn [] [[], [0, 1, 14, 26]] ?_
     iterate 2 refine op1 tok ?_
     refine qA ?_
     refine cnd ?_ ?_
     ·intro h26
      try simp at h26
      have hcc : uR c = some 12 := by rw [l102.1 h26]; rfl
      rw [hes _ hcc (by decide)]
      refine rgn [] [[], []] ?_
      iterate 2 refine op1 tok ?_
      refine qA ?_
      exact AW.ret ⟨.inr rfl, _, _, by (conv => lhs; simp), trivial, by simp⟩
     ·intro h26
      try simp at h26
      refine rgn [] [[], [0, 1, 14, 28]] ?_
      iterate 2 refine op1 tok ?_
      refine qA ?_
      refine cnd ?_ ?_
      ·intro h28
       try simp at h28
       have hcc : uR c = some 10 := by rw [l110.1 h28]; rfl
       rw [hes _ hcc (by decide)]
       refine rgn [] [[], []] ?_
       iterate 2 refine op1 tok ?_
       refine qA ?_
       exact AW.ret ⟨.inr rfl, _, _, by (conv => lhs; simp), trivial, by simp⟩
      ·intro h28
       try simp at h28
       refine rgn [] [[], [0, 1, 14, 30]] ?_
       iterate 2 refine op1 tok ?_
       refine qA ?_
       refine cnd ?_ ?_
       ·intro h30
        try simp at h30
        have hcc : uR c = some 13 := by rw [l114.1 h30]; rfl
        rw [hes _ hcc (by decide)]
        refine rgn [] [[], []] ?_
        iterate 2 refine op1 tok ?_
        refine qA ?_
        exact AW.ret ⟨.inr rfl, _, _, by (conv => lhs; simp), trivial, by simp⟩
       ·intro h30
        try simp at h30
        refine rgn [] [[], [0, 1, 14, 32]] ?_
        iterate 2 refine op1 tok ?_
        refine qA ?_
        refine cnd ?_ ?_
        ·intro h32
         try simp at h32
         have hcc : uR c = some 9 := by rw [l116.1 h32]; rfl
         rw [hes _ hcc (by decide)]
         refine rgn [] [[], []] ?_
         iterate 2 refine op1 tok ?_
         refine qA ?_
         exact AW.ret ⟨.inr rfl, _, _, by (conv => lhs; simp), trivial, by simp⟩
        ·intro h32
         try simp at h32
         have hcn : uR c = none := by
          unfold uR
          simp only [not_or] at n1
          rw [if_neg n1.1, if_neg n1.2.1, if_neg n1.2.2, if_neg fun h => h24 (l98.2 h), if_neg fun h => h26 (l102.2 h), if_neg fun h => h28 (l110.2 h), if_neg fun h => h30 (l114.2 h), if_neg fun h => h32 (l116.2 h)]
         have hel := hel hcn
         clear hes n1 h24 h26 h28 h30 h32 l98 l102 l110 l114 l116
         refine rgn [] [[], [0, 1, 34]] ?_
         iterate 2 refine op1 tok ?_
         refine qA ?_
         refine cnd ?_ ?_
         ·intro h34
          try simp at h34
          have hf1 := qVE (G := G) s (k + 2) (by omega) (by omega)
          have hf2 := qVE (G := G) s (k + 8) (by omega) (by omega)
          have hb1 := qDY s (k + 2)
          have hb2 := qDY s (k + 8)
          have hc7 := l117.1 h34
          obtain ⟨Y, hY, hY0, hY2, hYT, hYF⟩ : ∃ Y : Int, (W = if Y < 0 then none else some Y.toNat) ∧ -1 ≤ Y ∧ Y < 65536 ∧ (s[k + 6]? = some 92 ∧ s[k + 6 + 1]? = some 117 → Y = qBK s (k + 8)) ∧ (¬ (s[k + 6]? = some 92 ∧ s[k + 6 + 1]? = some 117) → Y = -1) := by
           by_cases h : s[k + 6]? = some 92 ∧ s[k + 6 + 1]? = some 117
           ·exact ⟨qBK s (k + 8), huf h.1 h.2, hb2.1, hb2.2, fun _ => rfl, fun h' => absurd h h'⟩
           ·exact ⟨-1, by rw [hun h]; rfl, by omega, by omega, fun h' => absurd h' h, fun _ => rfl⟩
          have heu := heu hc7 _ Y rfl hY hY2
          have g6 : k + 8 ≤ s.length → s[k + 6]? = some (s.getD (k + 6) 0) ∧ s[k + 6 + 1]? = some (s.getD (k + 7) 0) := fun h => by
           rw [List.getD_eq_getElem?_getD, List.getD_eq_getElem?_getD, List.getElem?_eq_getElem (show k + 6 < s.length by omega), List.getElem?_eq_getElem (show k + 7 < s.length by omega)]; exact ⟨rfl, rfl⟩
          have g7 : s[k + 6]? = some 92 ∧ s[k + 6 + 1]? = some 117 → k + 8 ≤ s.length := fun h => by have := (List.getElem?_eq_some_iff.1 h.2).1; omega
          generalize s.getD (k + 6) 0 = c6 at *
          generalize s.getD (k + 7) 0 = c7 at *
          have m92 : ((c6.toNat : Int) = 92) ↔ c6 = 92 := zS c6 92 (by decide)
          have m117 : ((c7.toNat : Int) = 117) ↔ c7 = 117 := zS c7 117 (by decide)
          clear hel hus hun huf hY hb2
          generalize qBK s (k + 2) = X at *
          generalize qBK s (k + 8) = X8 at *
          refine rgn [.nilp, .int .i64 X] [[], [], [], [], [0, 1, 6]] ?_
          iterate 5 refine op1 tok ?_ (hv := by first | with_reducible exact True.intro | (first | exact hf1 | (simpa [show ((k + 2 : Nat) : Int) = (k : Int) + 1 + 1 by omega] using hf1); done) | omega | simp | (simp +contextual; omega))
          refine qA ?_
          refine AW.seq ?_
          refine rgn [] [[], [], [], [], [], [0, 1, 6, 42, 45], [], [], [], [0, 1, 6, 49]] ?_
          iterate 3 refine op1 tok ?_
          iterate 6 refine op2 tok ?_
          refine op1 tok ?_
          refine qA ?_
          refine cnd ?_ ?_
          ·intro h49
           try simp at h49
           rw [if_pos (by omega)] at heu
           subst heu
           refine rgn [] [[], []] ?_
           iterate 2 refine op1 tok ?_
           refine qA ?_
           exact AW.ret ⟨.inr rfl, _, _, by (conv => lhs; simp), trivial, by simp⟩
          ·intro h49
           try simp at h49
           rw [if_neg (by omega)] at heu
           refine AW.skip ?_
           refine AW.seq ?_
           refine rgn [] [[], [], [], [], [], [0, 1, 6, 55]] ?_
           iterate 3 refine op1 tok ?_
           iterate 2 refine op2 tok ?_
           refine op1 tok ?_
           refine qA ?_
           refine cnd ?_ ?_
           ·intro h55
            try simp at h55
            rw [if_pos (by omega), show ((X.toNat : Nat) : Int) = X by omega] at heu
            subst heu
            have hw := qNW (G := G) X.toNat (by omega) (by omega)
            rw [show ((X.toNat : Nat) : Int) = X by omega] at hw
            refine rgn [.nilp, .str (Lib.encodeRune X)] [[], [], [], [4, 5]] ?_
            iterate 4 refine op1 tok ?_ (hv := by first | with_reducible exact True.intro | (exact hw; done) | omega | simp | (simp +contextual; omega))
            refine qA ?_
            exact AW.ret ⟨.inr rfl, _, _, by (conv => lhs; simp), trivial, by simp⟩
           ·intro h55
            try simp at h55
            rw [if_neg (by omega)] at heu
            refine AW.skip ?_
            refine rgn [] [[]] ?_
            refine op1 tok ?_
            refine qA ?_
            refine AW.join (α := Unit) (fun _ => True) (fun _ => ⟨qW 95 [(6, .p (.int .i64 X)), (7, .p (.int .i64 Y))], [], [], 0⟩) ?_ ?_
            ·
             refine rgn [.int .u8 c6.toNat, .int .u8 c7.toNat] [[], [], [], [], [0, 1, 6, 7, 62], [], [], [], [], [0, 1, 6, 7, 63, 67], [], [], [0, 1, 6, 7, 70], [], [], [], [], [0, 1, 6, 7, 70, 75], [0, 1, 6, 7, 76]] ?_
             iterate 19 first | refine op1 tok ?_ (hv := by first | with_reducible exact True.intro | (first | exact fun h => ⟨h, by omega, c6, by rw [show ((k : Int) + 1 + 5).toNat = k + 6 by omega]; exact (g6 (by omega)).1, rfl⟩ | exact fun h h' => ⟨⟨h, h'⟩, by omega, c7, by rw [show ((k : Int) + 1 + 6).toNat = k + 6 + 1 by omega]; exact (g6 (by omega)).2, rfl⟩ | (intros; omega); done) | omega | simp | (simp +contextual; omega)) | refine op2 tok ?_ (hv := by first | with_reducible exact True.intro | (first | exact fun h => ⟨h, by omega, c6, by rw [show ((k : Int) + 1 + 5).toNat = k + 6 by omega]; exact (g6 (by omega)).1, rfl⟩ | exact fun h h' => ⟨⟨h, h'⟩, by omega, c7, by rw [show ((k : Int) + 1 + 6).toNat = k + 6 + 1 by omega]; exact (g6 (by omega)).2, rfl⟩ | (intros; omega); done) | omega | simp | (simp +contextual; omega))
             refine qA ?_
             refine cnd ?_ ?_
             ·intro h76
              try simp at h76
              have hY8 : X8 = Y := by
               refine (hYT ?_).symm
               have := g6 (by omega)
               rw [m92.1 (by omega), m117.1 (by omega)] at this
               exact this
              refine rgz [.nilp, .int .i64 X8] [[], [], [], [6, 80], [6, 7]] ?_
              iterate 5 refine op1 tok ?_ (hv := by first | with_reducible exact True.intro | (first | exact hf2 | (simpa [show ((k + 8 : Nat) : Int) = (k : Int) + 1 + 7 by omega] using hf2); done) | omega | simp | (simp +contextual; omega))
              refine qA ?_
              exact ⟨(), trivial, qB (by simp [hY8]), rfl, by simp [hY8], by simp [hY8]⟩
             ·intro h76
              try simp at h76
              have hY1 : (-1 : Int) = Y := by
               refine (hYF fun h => ?_).symm
               have h8 := g7 h
               have h9 := g6 h8
               rw [h.1, h.2] at h9
               exact absurd h76 (by simp [m92.2 (Option.some.inj h9.1).symm, m117.2 (Option.some.inj h9.2).symm]; omega)
              refine AW.skip ?_
              exact ⟨(), trivial, qB (by simp [hY1]), rfl, by simp [hY1], by simp [hY1]⟩
            ·
             rintro _ _
             refine AW.seq ?_
             refine rgn [] [[], [], [], [], [], [6, 7, 86]] ?_
             iterate 3 refine op1 tok ?_
             iterate 2 refine op2 tok ?_
             refine op1 tok ?_
             refine qA ?_
             refine cnd ?_ ?_
             ·intro h86
              try simp at h86
              rw [if_pos (by omega)] at heu
              subst heu
              refine rgn [] [[], []] ?_
              iterate 2 refine op1 tok ?_
              refine qA ?_
              exact AW.ret ⟨.inr rfl, _, _, by (conv => lhs; simp), trivial, by simp⟩
             ·intro h86
              try simp at h86
              rw [if_neg (by omega), show (((65536 + 1024 * (X - 55296) + Y - 56320).toNat : Nat) : Int) = 65536 + 1024 * (X - 55296) + Y - 56320 by omega] at heu
              subst heu
              have hw := qNW (G := G) (65536 + 1024 * (X - 55296) + Y - 56320).toNat (by omega) (by omega)
              rw [show (((65536 + 1024 * (X - 55296) + Y - 56320).toNat : Nat) : Int) = 65536 + 1024 * (X - 55296) + Y - 56320 by omega] at hw
              refine AW.skip ?_
              refine rgn [.nilp, .str (Lib.encodeRune (65536 + 1024 * (X - 55296) + Y - 56320))] [[], [], [], [7, 90], [], [], [93], [], [], [4, 5]] ?_
              iterate 10 refine op1 tok ?_ (hv := by first | with_reducible exact True.intro | (first | exact hw | (simpa using hw); done) | omega | simp | (simp +contextual; omega))
              refine qA ?_
              exact AW.ret ⟨.inr rfl, _, _, by (conv => lhs; simp), trivial, by simp⟩
         ·intro h34
          try simp at h34
          rw [hel fun h => h34 (l117.2 h)]
          refine AW.skip ?_
          refine rgn [] [[], []] ?_
          iterate 2 refine op1 tok ?_
          refine qA ?_
          exact AW.ret ⟨.inr rfl, _, _, by (conv => lhs; simp), trivial, by simp⟩
theorem runeM_big {s : List UInt8} {i : Nat} {c : UInt8} (h : s[i]? = some c) (hc : ¬ c.toNat < 128) : (wJ s i).2 ≠ 1 := by
 unfold wJ
 rw [h]
 simp only
 rw [if_neg (by omega)]
 unfold kO
 split
 ·decide
 ·rename_i h0
  have hn : (kI c.toNat).1 = 0 ∨ 2 ≤ (kI c.toNat).1 := by
   unfold kI
   repeat' split
   all_goals simp
  unfold qLA
  split
  ·simp
  ·split
   ·simp
   ·simp only; omega
theorem qVP {s : List UInt8} {k : Nat} (hk : k < s.length) : Lib.decodeL (s.drop k) = if (wJ s k).2 = 0 then (65533, 1) else ((wJ s k).1.toNat, (wJ s k).2.toNat) := by
 unfold Lib.decodeL
 rw [qTY (by rw [List.length_drop]; omega), ← qXC]
theorem qOA {s : List UInt8} (hne : s ≠ []) (f k : Nat) (out : List UInt8) : xQ (f + 1) s k out = if (Lib.decodeL s).1 = 34 then (if 4096 < out.length then ([], 0, 3) else (out, k + 1, 0)) else if (Lib.decodeL s).1 < 32 ∨ ((Lib.decodeL s).1 = 65533 ∧ (Lib.decodeL s).2 = 1) then ([], 0, 6)
  else if (Lib.decodeL s).1 = 92 then (match escL s with
   | none => ([], 0, 6)
   | some (c, n) => xQ f (s.drop n) (k + n) (out ++ Lib.encodeRune c))
  else xQ f (s.drop (Lib.decodeL s).2) (k + (Lib.decodeL s).2) (out ++ Lib.encodeRune (Lib.decodeL s).1) := by
 simp only [xQ]; rw [if_neg hne] <;> rfl
theorem unqG_none (f k : Nat) (out : List UInt8) : xQ f [] k out = ([], 0, 6) := by cases f <;> rfl
theorem unq_rune {s : List UInt8} {k : Nat} {c : UInt8} (hc : s[k]? = some c) (h34 : c ≠ 34) (h92 : c ≠ 92) (f : Nat) (out : List UInt8) : xQ (f + 1) (s.drop k) k out =
  if (wJ s k).2 = 0 ∨ (wJ s k).1 < 32 then ([], 0, 6) else xQ f (s.drop (k + (wJ s k).2.toNat)) (k + (wJ s k).2.toNat) (out ++ (s.drop k).take (wJ s k).2.toNat) := by
 have hk := (List.getElem?_eq_some_iff.1 hc).1
 have hne : s.drop k ≠ [] := by intro e; have := congrArg List.length e; simp at this; omega
 have hd := qVP hk
 have hcons : ∃ t, s.drop k = c :: t := ⟨s.drop (k + 1), by rw [List.drop_eq_getElem_cons hk, (List.getElem?_eq_some_iff.1 hc).2]⟩
 have hlen := qOO s k hk
 rw [qOA hne, List.drop_drop]
 have t34 : c.toNat = 34 → c = 34 := fun h => UInt8.toNat_inj.1 h
 have t92 : c.toNat = 92 → c = 92 := fun h => UInt8.toNat_inj.1 h
 by_cases hlt : c.toNat < 128
 ·obtain ⟨t, ht⟩ := hcons
  have h1 : Lib.decodeL (s.drop k) = (c.toNat, 1) := by rw [ht]; exact qFZ hlt
  have h2 : (wJ s k).2 ≠ 0 := fun h0 => by rw [h1, if_pos h0] at hd; have := congrArg Prod.fst hd; simp only at this; omega
  have h3 : (wJ s k).1.toNat = c.toNat ∧ (wJ s k).2.toNat = 1 := by rw [h1, if_neg h2] at hd; exact ⟨(congrArg Prod.fst hd).symm, (congrArg Prod.snd hd).symm⟩
  have h4 : (wJ s k).1 = c.toNat := by
   unfold wJ; rw [hc]; simp only; rw [if_pos (by omega)]
  rw [h1]
  simp only
  rw [if_neg (fun h => h34 (t34 h)), h3.2]
  by_cases h32 : c.toNat < 32
  ·rw [if_pos (.inl h32), if_pos (.inr (by omega))]
  ·rw [if_neg (by omega), if_neg (fun h => h92 (t92 h)), if_neg (by omega)]
   have : Lib.encodeRune (c.toNat : Int) = (s.drop k).take 1 := by rw [ofNat_lt hlt, ht]; rfl
   rw [this]
 ·by_cases h0 : (wJ s k).2 = 0
  ·rw [if_pos h0] at hd
   rw [hd]
   simp only
   rw [if_neg (by omega), if_pos (.inr (by simp)), if_pos (.inl h0)]
  ·have h1 := runeM_big hc hlt
   rw [if_neg h0] at hd
   have hbad : ¬ ((Lib.decodeL (s.drop k)).1 = 65533 ∧ (Lib.decodeL (s.drop k)).2 = 1) := by rw [hd]; simp only; omega
   have h128 : 128 ≤ ((s.drop k).getD 0 0).toNat := by
    obtain ⟨t, ht⟩ := hcons
    rw [ht]; show 128 ≤ c.toNat; omega
   have hbig := (big_bytes (s.drop k) hne hbad h128).2
   have henc := Lib.encode_decode (s.drop k) hne hbad
   rw [if_neg (by omega), if_neg (by rintro (h | h); omega; exact hbad h), if_neg (by omega), henc, hd]
   rw [hd] at hbig
   simp only at hbig ⊢
   rw [if_neg (show ¬ ((wJ s k).2 = 0 ∨ (wJ s k).1 < 32) by omega)]
theorem qTE (s : List UInt8) (hs : s.length ≤ 1000000000) : AFn Tryz.prog G 213 [.str s] (.tup [.str (zK s).1, .int .i64 (zK s).2.1, .int .i64 (zK s).2.2]) := by
 refine AFn.introU tok Tryz.func213 (by kernel_rfl) rfl rfl ?_
 simp only [Tryz.f213, qK, List.map_cons, List.map_nil]
 have hun : zK s = if s.head? = some 34 then xQ s.length (s.drop 1) 1 [] else ([], 0, 6) := rfl
 have hh : s.head? = s[0]? := by cases s <;> rfl
 have hg0 : s.length ≠ 0 → s[0]? = some (s.getD 0 0) := fun h => by cases s with
  | nil => exact absurd rfl h
  | cons b r => rfl
 rw [hh] at hun
 generalize s.getD 0 0 = c0 at *
 have l0 : ((c0.toNat : Int) = 34) ↔ c0 = 34 := zS c0 34 (by decide)
 refine rgn [] [[], [], [0]] ?_
 iterate 3 refine op1 tok ?_
 refine qA ?_
 refine AW.seq ?_
 refine rgn [.int .u8 c0.toNat] [[], [], [], [], [], [0, 14, 16], [], [0, 18]] ?_
 iterate 4 refine op1 tok ?_ (hv := by first | with_reducible exact True.intro | (exact fun h => ⟨h, c0, hg0 (by simpa using h), rfl⟩; done) | omega | simp | (simp +contextual; omega))
 iterate 3 refine op2 tok ?_ (hv := by first | with_reducible exact True.intro | (exact fun h => ⟨h, c0, hg0 (by simpa using h), rfl⟩; done) | omega | simp | (simp +contextual; omega))
 refine op1 tok ?_ (hv := by first | with_reducible exact True.intro | (exact fun h => ⟨h, c0, hg0 (by simpa using h), rfl⟩; done) | omega | simp | (simp +contextual; omega))
 refine qA ?_
 refine cnd ?_ ?_
 ·intro h18
  try simp at h18
  rw [if_neg (fun h => by
   have hne : s.length ≠ 0 := by rintro h'; rw [List.length_eq_zero_iff.1 h'] at h; cases h
   rw [hg0 hne] at h
   rcases h18 with h' | h'
   ·exact hne (by rw [h']; rfl)
   ·exact h' (l0.2 (Option.some.inj h)))] at hun
  rw [hun]
  refine rgn [] [[], [], []] ?_
  iterate 3 refine op1 tok ?_
  refine qA ?_
  exact AW.ret ⟨.inr rfl, _, _, by (conv => lhs; simp), trivial, by simp⟩
 ·intro h18
  try simp at h18
  rw [if_pos (by rw [hg0 (fun h => h18.1 (List.length_eq_zero_iff.1 h)), l0.1 h18.2])] at hun
  refine AW.skip ?_
  refine rgn [] [[]] ?_
  refine op1 tok ?_
  refine qA ?_
  refine rgn [] [[]] ?_
  refine op1 tok ?_
  refine qA ?_
  refine AW.seq ?_
  refine AW.block ?_
  refine AW.loop (α := Nat × List UInt8 × Nat) (fun a => 1 ≤ a.1 ∧ zK s = xQ a.2.2 (s.drop a.1) a.1 a.2.1 ∧ s.length ≤ a.1 + a.2.2 ∧ a.2.1.length ≤ 4 * a.1 ∧ a.1 ≤ 2000000000) (fun a => ⟨qW 76 [(0, .p (.str s)), (5, .p (.str a.2.1)), (6, .p (.int .i64 a.1))], [], [], 0⟩) (fun a => s.length - a.1) ((1, [], s.length)) ⟨Nat.le_refl _, hun, by simp only []; omega, by simp, by simp⟩ ⟨qB (by simp), rfl, by simp, by simp⟩ ?_
  rintro ⟨k, out, f⟩ ⟨hk1, hq, hf, ho, hkb⟩
  simp only at hk1 hq hf ho hkb
  refine AW.seq ?_
  refine rgn [] [[], [], [], [0, 5, 6, 22]] ?_
  iterate 4 refine op1 tok ?_
  refine qA ?_
  refine cnd ?_ ?_
  ·intro h22
   try simp at h22
   obtain ⟨c, hc⟩ : ∃ c, s[k]? = some c := ⟨s[k]'(by omega), List.getElem?_eq_getElem _⟩
   obtain ⟨g, rfl⟩ : ∃ g, f = g + 1 := ⟨f - 1, by omega⟩
   have hkl := (List.getElem?_eq_some_iff.1 hc).1
   have hne : s.drop k ≠ [] := by intro e; have := congrArg List.length e; simp at this; omega
   have hcons : s.drop k = c :: s.drop (k + 1) := by rw [List.drop_eq_getElem_cons hkl, (List.getElem?_eq_some_iff.1 hc).2]
   have l34 : ((c.toNat : Int) = 34) ↔ c = 34 := zS c 34 (by decide)
   have l92 : ((c.toNat : Int) = 92) ↔ c = 92 := zS c 92 (by decide)
   have hst := qOA hne g k out
   have hru := fun h1 h2 => unq_rune hc h1 h2 g out
   refine AW.skip ?_
   refine AW.block ?_
   refine AW.seq ?_
   refine rgn [.int .u8 c.toNat] [[], [], [], [0, 5, 6, 26]] ?_
   iterate 4 refine op1 tok ?_ (hv := by first | with_reducible exact True.intro | (exact ⟨c, hc, rfl⟩; done) | omega | simp | (simp +contextual; omega))
   refine qA ?_
   refine cnd ?_ ?_
   ·intro h26
    try simp at h26
    have hd : Lib.decodeL (s.drop k) = (34, 1) := by rw [hcons, l34.1 h26]; exact qFZ (by decide)
    rw [hst, hd, if_pos rfl] at hq
    refine AW.seq ?_
    refine rgn [] [[], [], [5, 6, 29]] ?_
    iterate 3 refine op1 tok ?_
    refine qA ?_
    refine cnd ?_ ?_
    ·intro h29
     try simp at h29
     rw [if_pos (by omega)] at hq
     rw [hq]
     refine rgn [] [[], [], []] ?_
     iterate 3 refine op1 tok ?_
     refine qA ?_
     exact AW.ret ⟨.inr rfl, _, _, by (conv => lhs; simp), trivial, by simp⟩
    ·intro h29
     try simp at h29
     rw [if_neg (by omega)] at hq
     rw [hq]
     refine AW.skip ?_
     refine rgn [] [[], [], [], [2, 32], [], [2, 3, 4]] ?_
     iterate 6 refine op1 tok ?_
     refine qA ?_
     exact AW.ret ⟨.inr rfl, _, _, by (conv => lhs; simp), trivial, by simp⟩
   ·intro h26
    try simp at h26
    refine AW.skip ?_
    refine AW.seq ?_
    refine rgn [.int .u8 c.toNat] [[], [], [], [0, 5, 6, 36]] ?_
    iterate 4 refine op1 tok ?_ (hv := by first | with_reducible exact True.intro | (exact ⟨c, hc, rfl⟩; done) | omega | simp | (simp +contextual; omega))
    refine qA ?_
    refine cnd ?_ ?_
    ·intro h36
     try simp at h36
     have hd : Lib.decodeL (s.drop k) = (92, 1) := by rw [hcons, l92.1 h36]; exact qFZ (by decide)
     rw [hst, hd, if_neg (by decide), if_neg (by decide), if_pos rfl] at hq
     have hes := qYF (G := G) s k hs (by rw [hc, l92.1 h36])
     have hEL : escL (s.drop k) = if (xS (s.drop k)).2.2 = true then some ((xS (s.drop k)).1, (xS (s.drop k)).2.1) else none := rfl
     have hEO := escG_ok (s := s.drop k)
     have h3 : qJO (s.drop k) = if (xS (s.drop k)).2.2 = true then (Lib.encodeRune (xS (s.drop k)).1, ((xS (s.drop k)).2.1 : Int) - 1) else ([], 0) := rfl
     rw [hEL] at hq
     generalize xS (s.drop k) = q at *
     obtain ⟨r, w, ok⟩ := q
     simp only at hEO h3 hq
     have hel := enc_len r
     generalize qJO (s.drop k) = E at *
     refine rgn [.nilp, .tup [.str E.1, .int .i64 E.2]] [[], [], [], [], [0, 5, 6, 37], [], [], [], [0, 5, 6, 7, 8]] ?_
     iterate 9 refine op1 tok ?_ (hv := by first | with_reducible exact True.intro | (first | exact hes | (simpa using hes); done) | omega | simp | (simp +contextual; omega))
     refine qA ?_
     refine AW.seq ?_
     refine rgn [] [[], [0, 5, 6, 7, 8, 45]] ?_
     iterate 2 refine op1 tok ?_
     refine qA ?_
     refine cnd ?_ ?_
     ·intro h45
      try simp at h45
      have hok : ok = false := by cases ok with
       | false => rfl
       | true => have := (hEO rfl).2.2; rw [h3] at h45; simp at h45; omega
      subst hok
      simp only [Bool.false_eq_true, if_false] at hq
      rw [hq]
      refine rgn [] [[], [], []] ?_
      iterate 3 refine op1 tok ?_
      refine qA ?_
      exact AW.ret ⟨.inr rfl, _, _, by (conv => lhs; simp), trivial, by simp⟩
     ·intro h45
      try simp at h45
      have hok : ok = true := by cases ok with
       | true => rfl
       | false => rw [h3] at h45; simp at h45
      subst hok
      have hEO := hEO rfl
      simp only [if_true] at hq h3
      subst h3
      rw [List.drop_drop] at hq
      refine AW.skip ?_
      refine rgn [] [[], [], [0, 6, 8, 48], [0, 5, 6, 8]] ?_
      iterate 4 refine op1 tok ?_
      refine qA ?_
      refine rgn [] [[], [], [], [0, 5, 52], [0, 5, 6]] ?_
      iterate 5 refine op1 tok ?_
      refine qA ?_
      refine AW.exit ?_
      simp [-Prod.exists]
      exact ⟨(k + w, out ++ Lib.encodeRune r, g), ⟨by simp only []; omega, hq, by simp only []; omega, by simp only [List.length_append]; omega, by simp only []; omega⟩, by simp only []; omega, qB (by simp [show ((k + w : Nat) : Int) = (k : Int) + 1 + ((w : Int) - 1) from by omega]), rfl, by simp [show ((k + w : Nat) : Int) = (k : Int) + 1 + ((w : Int) - 1) from by omega], by simp [show ((k + w : Nat) : Int) = (k : Int) + 1 + ((w : Int) - 1) from by omega]⟩
    ·intro h36
     try simp at h36
     have hru := hru (fun h => h26 (l34.2 h)) (fun h => h36 (l92.2 h))
     have hR := Rune_ev (G := G) s k hkl hs
     have hRl := qOO s k hkl
     rw [hru] at hq
     clear hru hst
     generalize wJ s k = R at *
     obtain ⟨x, n⟩ := R
     simp only at hq hRl hR
     refine AW.skip ?_
     refine rgn [.nilp, .tup [.int .i64 x, .int .i64 n]] [[], [], [], [], [], [0, 5, 6, 57, 58], [], [0, 5, 6, 9, 10]] ?_
     iterate 8 refine op1 tok ?_ (hv := by first | with_reducible exact True.intro | (exact hR; done) | omega | simp | (simp +contextual; omega))
     refine qA ?_
     refine AW.seq ?_
     refine rgn [] [[], [], [], [], [0, 5, 6, 10, 61, 63], [0, 5, 6, 10, 64]] ?_
     iterate 3 refine op1 tok ?_
     iterate 2 refine op2 tok ?_
     refine op1 tok ?_
     refine qA ?_
     refine cnd ?_ ?_
     ·intro h64
      try simp at h64
      rw [if_pos (by omega)] at hq
      rw [hq]
      refine rgn [] [[], [], []] ?_
      iterate 3 refine op1 tok ?_
      refine qA ?_
      exact AW.ret ⟨.inr rfl, _, _, by (conv => lhs; simp), trivial, by simp⟩
     ·intro h64
      try simp at h64
      rw [if_neg (by omega)] at hq
      obtain ⟨m, rfl⟩ : ∃ m : Nat, n = m := ⟨n.toNat, by omega⟩
      simp only [Int.toNat_natCast] at hq
      have hsl : (s.take (k + m)).drop k = (s.drop k).take m := by rw [List.drop_take, Nat.add_sub_cancel_left]
      have hsl2 : (s.take ((k : Int) + m).toNat).drop k = (s.drop k).take m := by rw [show ((k : Int) + m).toNat = k + m by omega]; exact hsl
      refine AW.skip ?_
      refine rgn [] [[], [], [], [], [], [], [0, 6, 10, 65, 71], [], [0, 5, 6, 10]] ?_
      iterate 9 refine op1 tok ?_ (h := by intro C; conv => lhs; simp [hsl2])
      refine qA ?_
      refine rgz [] [[], [], [0, 5, 75], [0, 5, 6]] ?_
      iterate 4 refine op1 tok ?_
      refine qA ?_
      exact ⟨(k + m, out ++ (s.drop k).take m, g), ⟨by simp only []; omega, hq, by simp only []; omega, by simp only [List.length_append, List.length_take]; omega, by simp only []; omega⟩, by simp only []; omega, qB (by simp), rfl, by simp, by simp⟩
  ·intro h22
   try simp at h22
   rw [List.drop_of_length_le (by omega), unqG_none] at hq
   rw [hq]
   refine AW.exit ?_
   simp
   refine rgn [] [[], [], []] ?_
   iterate 3 refine op1 tok ?_
   refine qA ?_
   exact AW.ret ⟨.inr rfl, _, _, by (conv => lhs; simp), trivial, by simp⟩
theorem qFV (b : UInt8) (n : Nat) (hn : n < 256) : ((b.toNat : Int) = (n : Int)) ↔ b = UInt8.ofNat n := by
 constructor
 ·intro e; exact UInt8.toNat_inj.1 (by rw [UInt8.toNat_ofNat']; omega)
 ·rintro rfl; rw [UInt8.toNat_ofNat']; omega
theorem qKV (s : List UInt8) (k : Nat) : zO s k = ((s.drop k).takeWhile qG).length := rfl
theorem qHV (l : List UInt8) : l = l.takeWhile qG ++ l.dropWhile qG := (List.takeWhile_append_dropWhile).symm
theorem qZC (s : List UInt8) (k : Nat) : ∀ i, i ≤ zO s k → upM s k i = (qBT ((s.drop k).take i) : Int)
 | 0, _ => by simp [upM, qBT]
 | i + 1, h => by
  have hd := uI (s := s) (k := k) (i := i) (by omega)
  have hg : (s.drop k)[i]? = some (s.getD (k + i) 0) := by
   rw [List.getElem?_drop, List.getD_eq_getElem?_getD]
   have : k + i < s.length := hd.1
   simp [List.getElem?_eq_getElem this]
  rw [upM, qZC s k i (by omega), List.take_add_one, hg]
  simp only [Option.toList_some, qBT, List.foldl_append, List.foldl_cons, List.foldl_nil]
  have hb : qM s (k + i) = ((s.getD (k + i) 0).toNat : Int) := rfl
  omega
theorem qIL {s : List UInt8} {k : Nat} {b : UInt8} {t : List UInt8} (h : s.drop k = b :: t) : s.drop (k + 1) = t := by
 rw [← List.drop_drop, h]; rfl
theorem sign_drop {s : List UInt8} {k : Nat} : s.drop (wS s k) = yC (s.drop k) ∧ (k < s.length ∧ qM s k = 45 ↔ (s.drop k).head? = some 45) := by
 cases h : s.drop k with
 | nil =>
  have : ¬ k < s.length := by have := List.drop_eq_nil_iff.1 h; omega
  refine ⟨?_, by simp; omega⟩
  unfold wS yC
  rw [if_neg (by omega), h]; simp
 | cons b t =>
  obtain ⟨h1, h2⟩ := qAL h
  have e45 : qM s k = 45 ↔ b = 45 := by rw [h2]; exact qFV b 45 (by decide)
  have e43 : qM s k = 43 ↔ b = 43 := by rw [h2]; exact qFV b 43 (by decide)
  refine ⟨?_, by simp [h1, e45]⟩
  unfold wS yC
  simp only [h1, e45, e43, true_and, List.head?_cons, Option.some.injEq, List.drop_succ_cons, List.drop_zero]
  split
  ·exact qIL h
  ·exact h
theorem qRD (s : List UInt8) (k : Nat) (hk : k ≤ s.length) (neg : Bool) (digits : List UInt8) (scale : Nat) :
  qCV s neg digits scale (qDL s k) = match qBL (s.drop k) with
   | none => jZ
   | some up => xT neg digits (scale - up) := by
 cases h : s.drop k with
 | nil =>
  have : ¬ k < s.length := by have := List.drop_eq_nil_iff.1 h; omega
  simp only [qDL, qBL]
  rw [if_neg (by omega)]
  simp only [qCV]
  rw [if_pos (by omega)]
 | cons b t =>
  obtain ⟨h1, h2⟩ := qAL h
  have e1 : qM s k = 101 ↔ b = 101 := by rw [h2]; exact qFV b 101 (by decide)
  have e2 : qM s k = 69 ↔ b = 69 := by rw [h2]; exact qFV b 69 (by decide)
  simp only [qDL, qBL, h1, true_and, e1, e2]
  by_cases hb : b = 101 ∨ b = 69
  ·rw [if_pos hb, if_neg (show ¬ (b ≠ 101 ∧ b ≠ 69) from fun h => by rcases hb with hb | hb; exact h.1 hb; exact h.2 hb)]
   obtain ⟨sd, sh⟩ := sign_drop (s := s) (k := k + 1)
   rw [qIL h] at sd sh
   have hrun := qKV s (wS s (k + 1))
   have hup := qZC s (wS s (k + 1)) _ (Nat.le_refl _)
   rw [sd] at hrun hup
   have hsp := qHV (yC t)
   have hlen : (s.drop (wS s (k + 1))).length = (yC t).length := by rw [sd]
   rw [List.length_drop] at hlen
   have hl2 := congrArg List.length hsp
   rw [List.length_append, ← hrun] at hl2
   generalize wS s (k + 1) = sg at *
   have htk : (yC t).take (zO s sg) = (yC t).takeWhile qG := by
    conv => lhs; rw [hsp, hrun]
    exact List.take_left
   rw [htk] at hup
   rw [hup, ← hrun]
   by_cases hD : zO s sg < 1 ∨ 2 < zO s sg
   ·rw [if_pos hD, if_pos (.inr hD)]
    rfl
   ·rw [if_neg hD]
    by_cases hE : (yC t).dropWhile qG = []
    ·rw [if_neg (show ¬ ((yC t).dropWhile qG ≠ [] ∨ zO s sg < 1 ∨ 2 < zO s sg) from fun h => h.elim (fun h => h hE) hD)]
     rw [hE, List.length_nil] at hl2
     simp only [qCV]
     rw [if_pos (show sg + zO s sg = s.length by omega)]
     simp only [sh]
    ·rw [if_pos (show (yC t).dropWhile qG ≠ [] ∨ zO s sg < 1 ∨ 2 < zO s sg from .inl hE)]
     have := List.length_pos_iff.2 hE
     simp only [qCV]
     rw [if_neg (show ¬ sg + zO s sg = s.length by omega)]
  ·rw [if_neg hb, if_pos (show b ≠ 101 ∧ b ≠ 69 from by simp only [not_or] at hb; exact hb)]
   simp only [qCV]
   rw [if_neg (by omega)]
theorem tail_eq (s : List UInt8) (k : Nat) (hk : k ≤ s.length) (neg : Bool) (dg : List UInt8) :
  qIX s neg (qDM s k dg) = match qAJ (s.drop k) with
   | none => jZ
   | some (P, r) => (match qBL r with
    | none => jZ
    | some up => xT neg (dg ++ P) (P.length - up)) := by
 cases h : s.drop k with
 | nil =>
  have : ¬ k < s.length := by have := List.drop_eq_nil_iff.1 h; omega
  simp only [qDM, qAJ]
  rw [if_neg (by omega), if_neg (by simp)]
  simp only [qIX]
  rw [qRD s k hk, h]
  simp
 | cons b t =>
  obtain ⟨h1, h2⟩ := qAL h
  have e1 : qM s k = 46 ↔ b = 46 := by rw [h2]; exact qFV b 46 (by decide)
  simp only [qDM, qAJ, h1, true_and, e1, List.head?_cons, Option.some.injEq, List.drop_succ_cons, List.drop_zero]
  by_cases hb : b = 46
  ·rw [if_pos hb, if_pos hb]
   have hd := qIL h
   have hrun := qKV s (k + 1)
   rw [hd] at hrun
   have hsp := qHV t
   have hin := qGI s (k + 1) (by omega)
   by_cases hP : t.takeWhile qG = []
   ·rw [if_pos hP, if_pos (by rw [hrun, hP]; rfl)]
    rfl
   ·rw [if_neg hP, if_neg (by rw [hrun]; have := List.length_pos_iff.2 hP; omega)]
    simp only [qIX]
    rw [qRD s _ hin]
    have hd2 : s.drop (k + 1 + zO s (k + 1)) = t.dropWhile qG := by
     rw [← List.drop_drop, hd, hrun]
     conv => lhs; arg 2; rw [hsp]
     exact List.drop_left
    have ht2 : (s.take (k + 1 + zO s (k + 1))).drop (k + 1) = t.takeWhile qG := by
     rw [List.drop_take, hd, show k + 1 + zO s (k + 1) - (k + 1) = (t.takeWhile qG).length by omega]
     conv => lhs; arg 2; rw [hsp]
     exact List.take_left
    rw [hd2, ht2, hrun]
  ·rw [if_neg hb, if_neg hb]
   simp only [qIX]
   rw [qRD s k hk, h]
   simp
theorem parse_eq (s : List UInt8) : qEI s = wC s := by
 have hb : xU s = s.drop (a0M s) ∧ qLP s = jK s ∧ a0M s ≤ s.length := by
  cases s with
  | nil => exact ⟨rfl, rfl, by decide⟩
  | cons b t =>
   have : jK (b :: t) = decide (b = 45) := by
    unfold jK
    rw [show qM (b :: t) 0 = (b.toNat : Int) from rfl]
    rw [Bool.eq_iff_iff]
    simp
    exact qFV b 45 (by decide)
   refine ⟨?_, by unfold qLP; rw [this]; simp, by unfold a0M; split <;> simp⟩
   unfold xU a0M
   rw [this]
   by_cases hb : b = 45
   ·simp [hb]
   ·simp [hb]
 obtain ⟨h1, h2, h3⟩ := hb
 unfold qEI wC
 rw [h1, h2]
 have hrun := qKV s (a0M s)
 have hin := qGI s (a0M s) h3
 have hsp := qHV (s.drop (a0M s))
 have ht2 : (s.take (a0M s + zO s (a0M s))).drop (a0M s) = (s.drop (a0M s)).takeWhile qG := by
  rw [List.drop_take, show a0M s + zO s (a0M s) - a0M s = ((s.drop (a0M s)).takeWhile qG).length by omega]
  conv => lhs; arg 2; rw [hsp]
  exact List.take_left
 have hd2 : s.drop (a0M s + zO s (a0M s)) = (s.drop (a0M s)).dropWhile qG := by
  rw [← List.drop_drop, hrun]
  conv => lhs; arg 2; rw [hsp]
  exact List.drop_left
 rw [tail_eq s _ hin, ht2, hd2]
 generalize hW : (s.drop (a0M s)).takeWhile qG = W at *
 have hc : (zO s (a0M s) = 0 ∨ (1 < zO s (a0M s) ∧ qM s (a0M s) = 48)) ↔ (W = [] ∨ (1 < W.length ∧ W.head? = some 48)) := by
  rw [hrun]
  cases W with
  | nil => simp
  | cons b W =>
   have e : s.drop (a0M s) = b :: (W ++ (s.drop (a0M s)).dropWhile qG) := hsp
   obtain ⟨q1, q2⟩ := qAL e
   rw [q2]
   simp
   intro _
   exact qFV b 48 (by decide)
 by_cases hC : W = [] ∨ (1 < W.length ∧ W.head? = some 48)
 ·rw [if_pos (hc.2 hC)]
  cases qAJ ((s.drop (a0M s)).dropWhile qG) with
  | none => rfl
  | some q =>
   obtain ⟨P, r⟩ := q
   simp only
   cases qBL r with
   | none => rfl
   | some up => simp only [qNN]; rw [if_pos hC]
 ·rw [if_neg (fun h => hC (hc.1 h))]
  cases qAJ ((s.drop (a0M s)).dropWhile qG) with
  | none => rfl
  | some q =>
   obtain ⟨P, r⟩ := q
   simp only
   cases qBL r with
   | none => rfl
   | some up => simp only [qNN]; rw [if_neg hC]
@[simp] def rqC (s : List UInt8) (q : RQ) : List V := [.p (.str s), .p (.int .i64 q.pos), .p (.int .i64 q.nodes), .p (.bool q.bad), .p (.bool q.deep), .p (.bool q.big)]
attribute [local simp] wE
theorem getD_some {s : List UInt8} {k : Nat} (h : k < s.length) : s[k]? = some (s.getD k 0) := by rw [List.getD_eq_getElem?_getD, List.getElem?_eq_getElem h]; rfl
theorem bl_at (c : UInt8) : qMC c = true ↔ ((((c.toNat : Int) = 32 ∨ (c.toNat : Int) = 9) ∨ (c.toNat : Int) = 10) ∨ (c.toNat : Int) = 13) := by
 rw [show ((c.toNat : Int) = 32) = (c = 32) from propext (zS c 32 (by decide)), show ((c.toNat : Int) = 9) = (c = 9) from propext (zS c 9 (by decide)), show ((c.toNat : Int) = 10) = (c = 10) from propext (zS c 10 (by decide)), show ((c.toNat : Int) = 13) = (c = 13) from propext (zS c 13 (by decide))]
 simp only [qMC, Bool.or_eq_true, beq_iff_eq]
 constructor
 ·rintro (((h | h) | h) | h) <;> simp [h]
 ·rintro (((h | h) | h) | h) <;> simp [h]
theorem kU (s : List UInt8) (q : RQ) (hs : s.length ≤ 1000000000) (hp : q.pos ≤ 6000000000) : AX Tryz.prog G 180 [.ptr 2 0] [(2, .vars 137 (rqC s q))] (.tuple []) [2] [(2, .vars 137 (rqC s (blQ s q)))] := by
 refine AX.introU tok 900 Tryz.func180 (by kernel_rfl) rfl rfl ?_
 simp only [Tryz.f180, qK, List.map_cons, List.map_nil]
 have hbl : blQ s q = ⟨q.pos + blL (s.drop q.pos), q.nodes, q.bad, q.deep, q.big⟩ := rfl
 rw [hbl]
 have htw := fun k => vT (p := qMC) (l := s.drop q.pos) (n := k)
 have hbe : (List.takeWhile qMC (s.drop q.pos)).length = blL (s.drop q.pos) := rfl
 rw [hbe] at htw
 have hble := (bl_drop (s.drop q.pos)).2
 rw [List.length_drop] at hble
 generalize blL (s.drop q.pos) = B at *
 refine AW.block ?_
 refine AW.loop (α := Nat) (fun k => k ≤ B) (fun k => ⟨qW 67 [(0, .ptr 2 0)], [2], [(2, .vars 137 [.p (.str s), .p (.int .i64 (q.pos + k : Nat)), .p (.int .i64 q.nodes), .p (.bool q.bad), .p (.bool q.deep), .p (.bool q.big)])], 900⟩) (fun k => B - k) (0) (by omega) ⟨qB (by simp), rfl, by simp, by simp⟩ ?_
 rintro k hk
 have hlt := htw k hk
 have hg := fun h => getD_some (s := s) (k := q.pos + k) h
 have hba := bl_at (s.getD (q.pos + k) 0)
 generalize s.getD (q.pos + k) 0 = c at *
 refine AW.seq ?_
 refine AW.seqDrawS tok mixed 58 [[0], [2], [3], [4], [0], [6], [7], [8], [9], [5, 10], [11], [0, 12], [13, 12], [14, 12], [15, 12], [0, 12], [17, 12], [18, 12], [19, 12], [16, 20, 12], [21, 12], [22, 12], [0, 23], [24, 23], [25, 23], [26, 23], [0, 23], [28, 23], [29, 23], [30, 23], [27, 31, 23], [32, 23], [23, 33, 12], [34, 12], [0, 35], [36, 35], [37, 35], [38, 35], [0, 35], [40, 35], [41, 35], [42, 35], [39, 43, 35], [44, 35], [35, 45, 12], [46, 12], [0, 47], [48, 47], [49, 47], [50, 47], [0, 47], [52, 47], [53, 47], [54, 47], [51, 55, 47], [56, 47], [47, 57, 12], [12, 58]] [.int .u8 c.toNat, .int .u8 c.toNat, .int .u8 c.toNat, .int .u8 c.toNat] [] (by kernel_rfl) ?_
 iterate 11 refine d1 ?_ (hv := by first | with_reducible exact True.intro | (first | (intros; exact ⟨by assumption, by omega, c, hg (by omega), rfl⟩) | (intros; exact ⟨by omega, by omega, c, hg (by omega), rfl⟩); done) | omega | simp | (simp +contextual; omega))
 iterate 11 refine d2 12 rfl rfl ?_ (hv := by first | with_reducible exact True.intro | (first | (intros; exact ⟨by assumption, by omega, c, hg (by omega), rfl⟩) | (intros; exact ⟨by omega, by omega, c, hg (by omega), rfl⟩); done) | omega | simp | (simp +contextual; omega))
 iterate 10 refine d2 23 rfl rfl ?_ (hv := by first | with_reducible exact True.intro | (first | (intros; exact ⟨by assumption, by omega, c, hg (by omega), rfl⟩) | (intros; exact ⟨by omega, by omega, c, hg (by omega), rfl⟩); done) | omega | simp | (simp +contextual; omega))
 iterate 2 refine d2 12 rfl rfl ?_ (hv := by first | with_reducible exact True.intro | (first | (intros; exact ⟨by assumption, by omega, c, hg (by omega), rfl⟩) | (intros; exact ⟨by omega, by omega, c, hg (by omega), rfl⟩); done) | omega | simp | (simp +contextual; omega))
 iterate 10 refine d2 35 rfl rfl ?_ (hv := by first | with_reducible exact True.intro | (first | (intros; exact ⟨by assumption, by omega, c, hg (by omega), rfl⟩) | (intros; exact ⟨by omega, by omega, c, hg (by omega), rfl⟩); done) | omega | simp | (simp +contextual; omega))
 iterate 2 refine d2 12 rfl rfl ?_ (hv := by first | with_reducible exact True.intro | (first | (intros; exact ⟨by assumption, by omega, c, hg (by omega), rfl⟩) | (intros; exact ⟨by omega, by omega, c, hg (by omega), rfl⟩); done) | omega | simp | (simp +contextual; omega))
 iterate 10 refine d2 47 rfl rfl ?_ (hv := by first | with_reducible exact True.intro | (first | (intros; exact ⟨by assumption, by omega, c, hg (by omega), rfl⟩) | (intros; exact ⟨by omega, by omega, c, hg (by omega), rfl⟩); done) | omega | simp | (simp +contextual; omega))
 refine d2 12 rfl rfl ?_ (hv := by first | with_reducible exact True.intro | (first | (intros; exact ⟨by assumption, by omega, c, hg (by omega), rfl⟩) | (intros; exact ⟨by omega, by omega, c, hg (by omega), rfl⟩); done) | omega | simp | (simp +contextual; omega))
 refine d1 ?_ (hv := by first | with_reducible exact True.intro | (first | (intros; exact ⟨by assumption, by omega, c, hg (by omega), rfl⟩) | (intros; exact ⟨by omega, by omega, c, hg (by omega), rfl⟩); done) | omega | simp | (simp +contextual; omega))
 refine DGo.nil (by kernel_rfl) ⟨by kernel_rfl, ?_⟩
 refine qE.nil ?_
 refine cnd ?_ ?_
 ·intro h59
  try simp at h59
  have hkb : k < B := hlt.2 ⟨c, by rw [List.getElem?_drop]; exact hg (by omega), hba.2 h59.2⟩
  refine AW.skip ?_
  refine AW.block ?_
  refine rgz [] [[], [], [], [], [], [0, 64, 65], [], [0]] ?_
  iterate 8 refine op1 tok ?_
  refine qA ?_
  exact ⟨k + 1, by omega, by omega, qB (by simp [show (q.pos : Int) + ((k : Int) + 1) = (q.pos : Int) + k + 1 from by omega]), rfl, by simp [show (q.pos : Int) + ((k : Int) + 1) = (q.pos : Int) + k + 1 from by omega], by simp [show (q.pos : Int) + ((k : Int) + 1) = (q.pos : Int) + k + 1 from by omega]⟩
 ·intro h59
  try simp at h59
  have hkb : k = B := by
   rcases Nat.lt_or_ge k B with h | h
   ·obtain ⟨b, hb1, hb2⟩ := hlt.1 h
    rw [List.getElem?_drop] at hb1
    have hl := (List.getElem?_eq_some_iff.1 hb1).1
    rw [hg hl] at hb1
    cases hb1
    exact absurd (hba.1 hb2) (by have := h59 (by omega); omega)
   ·omega
  subst hkb
  refine AW.exit ?_
  simp
  exact ⟨.inl rfl, _, _, by (conv => lhs; simp), trivial, by simp, by simp, by simp, by simp⟩
theorem qBE (s : List UInt8) (q : RQ) (hs : s.length ≤ 1000000000) (hp : q.pos ≤ 6000000000) : AX Tryz.prog G 181 [.ptr 2 0] [(2, .vars 137 (rqC s q))] (.p (.int .u8 (nxQ s q).toNat)) [2] [(2, .vars 137 (rqC s q))] := by
 refine AX.introU tok 900 Tryz.func181 (by kernel_rfl) rfl rfl ?_
 simp only [Tryz.f181, qK, List.map_cons, List.map_nil]
 have hn : nxQ s q = s.getD q.pos 0 := rfl
 have hg := fun h => getD_some (s := s) (k := q.pos) h
 have hge : ¬ q.pos < s.length → s.getD q.pos 0 = 0 := fun h => by rw [List.getD_eq_getElem?_getD, List.getElem?_eq_none (by omega)]; rfl
 rw [hn]
 generalize s.getD q.pos 0 = c at *
 refine rgn [] [[0]] ?_
 refine op1 tok ?_
 refine qA ?_
 refine AW.seq ?_
 refine AW.seqDrawS tok mixed 10 [[0], [3], [4], [5], [0], [7], [8], [9], [10], [6, 11]] [] [] (by kernel_rfl) ?_
 iterate 10 refine d1 ?_
 refine DGo.nil (by kernel_rfl) ⟨by kernel_rfl, ?_⟩
 refine qE.nil ?_
 refine cnd ?_ ?_
 ·intro h12
  try simp at h12
  have hc := hg (by omega)
  refine AW.seqDrawS tok mixed 9 [[0], [13], [14], [15], [0], [17], [18], [19], [16, 20]] [.int .u8 c.toNat] [] (by kernel_rfl) ?_
  iterate 9 refine d1 ?_ (hv := by first | with_reducible exact True.intro | (exact ⟨c, hc, rfl⟩; done) | omega | simp | (simp +contextual; omega))
  refine DGo.nil (by kernel_rfl) ⟨by kernel_rfl, ?_⟩
  refine qE.run [[2]] ?_
  refine op1 tok ?_
  refine qA ?_
  exact AW.ret ⟨.inr rfl, _, _, by (conv => lhs; simp), trivial, by simp, by simp, by simp, by simp⟩
 ·intro h12
  try simp at h12
  have hc := hge (by omega)
  subst hc
  refine AW.skip ?_
  refine rgn [] [[]] ?_
  refine op1 tok ?_
  refine qA ?_
  exact AW.ret ⟨.inr rfl, _, _, by (conv => lhs; simp), trivial, by simp, by simp, by simp, by simp⟩
theorem wordQ_ax (s : List UInt8) (q : RQ) (w : List UInt8) (hs : s.length ≤ 1000000000) (hp : q.pos ≤ s.length) (hw : w.length ≤ 100) : AX Tryz.prog G 185 [.ptr 2 0, .p (.str w)] [(2, .vars 137 (rqC s q))] (.p (.bool (vR s w q).1)) [2] [(2, .vars 137 (rqC s (vR s w q).2))] := by
 refine AX.introU tok 900 Tryz.func185 (by kernel_rfl) rfl rfl ?_
 simp only [Tryz.f185, qK, List.map_cons, List.map_nil]
 have hwq : vR s w q = if (s.drop q.pos).take w.length = w then (true, wE q w.length) else (false, q) := rfl
 rw [hwq]
 have hsl : (s.take (q.pos + w.length)).drop q.pos = (s.drop q.pos).take w.length := by rw [List.drop_take, Nat.add_sub_cancel_left]
 have hln : (s.drop q.pos).take w.length = w → q.pos + w.length ≤ s.length := fun h => by
  have := congrArg List.length h
  simp at this; omega
 have hti : ((q.pos : Int) + (w.length : Int)).toNat = q.pos + w.length := by omega
 refine rgn [] [[0, 1]] ?_
 refine op1 tok ?_
 refine qA ?_
 refine AW.seq ?_
 refine AW.seqDrawS tok mixed 33 [[0], [5], [6], [7], [8], [0], [10], [11], [12], [9, 13], [1], [15], [14, 16], [17], [0, 18], [19, 18], [20, 18], [21, 18], [0, 18], [23, 18], [24, 18], [25, 18], [0, 18], [27, 18], [28, 18], [29, 18], [1, 18], [31, 18], [30, 32, 18], [22, 26, 33, 18], [1, 18], [34, 35, 18], [18, 36]] [] [] (by kernel_rfl) ?_
 iterate 14 refine d1 ?_ (h := by intro C; conv => lhs; simp [hti, hsl]) (hv := by first | with_reducible exact True.intro | (first | omega | (intros; omega); done) | omega | simp | (simp +contextual; omega))
 iterate 18 refine d2 18 rfl rfl ?_ (h := by intro C; conv => lhs; simp [hti, hsl]) (hv := by first | with_reducible exact True.intro | (first | omega | (intros; omega); done) | omega | simp | (simp +contextual; omega))
 refine d1 ?_ (h := by intro C; conv => lhs; simp [hti, hsl]) (hv := by first | with_reducible exact True.intro | (first | omega | (intros; omega); done) | omega | simp | (simp +contextual; omega))
 refine DGo.nil (by kernel_rfl) ⟨by kernel_rfl, ?_⟩
 refine qE.nil ?_
 refine cnd ?_ ?_
 ·intro h37
  try simp at h37
  rw [if_neg (by
   intro h
   have h2 := hln h
   rcases h37 with h' | h'
   ·omega
   ·exact h' h)]
  refine rgn [] [[]] ?_
  refine op1 tok ?_
  refine qA ?_
  exact AW.ret ⟨.inr rfl, _, _, by (conv => lhs; simp), trivial, by simp, by simp, by simp, by simp⟩
 ·intro h37
  try simp at h37
  rw [if_pos h37.2]
  have h2 := hln h37.2
  refine AW.skip ?_
  refine rgn [] [[], [], [], [], [1, 38, 42], [], [], [38, 45], [], [], [48]] ?_
  iterate 11 refine op1 tok ?_
  refine qA ?_
  refine rgn [] [[]] ?_
  refine op1 tok ?_
  refine qA ?_
  exact AW.ret ⟨.inr rfl, _, _, by (conv => lhs; simp), trivial, by simp, by simp, by simp, by simp⟩
theorem end5_ev (s : List UInt8) (hs : s.length ≤ 1000000000000) : AFn Tryz.prog G 214 [.str s] (.int .i64 (qDF s)) := by
 refine AFn.introU tok Tryz.func214 (by kernel_rfl) rfl rfl ?_
 simp only [Tryz.f214, qK, List.map_cons, List.map_nil]
 refine rgn [] [[0]] ?_
 refine op1 tok ?_
 refine qA ?_
 refine AW.seq ?_
 refine rgn [] [[]] ?_
 refine op1 tok ?_
 refine qA ?_
 refine AW.block ?_
 refine AW.loop (α := Nat) (fun i => qDF s = qBV s i ∧ i ≤ s.length + 2) (fun i => ⟨qW 24 [(0, .p (.str s)), (3, .p (.int .i64 i))], [], [], 0⟩) (fun i => s.length + 2 - i) (1) ⟨qWZ s, by omega⟩ ⟨qB (by simp), rfl, by simp, by simp⟩ ?_
 rintro i ⟨hi, hil⟩
 rw [hi]
 refine AW.seq ?_
 refine rgn [] [[], [], [], [0, 3, 7]] ?_
 iterate 4 refine op1 tok ?_
 refine qA ?_
 refine cnd ?_ ?_
 ·intro h7
  try simp at h7
  obtain ⟨c, hc⟩ : ∃ c, s[i]? = some c := ⟨s[i], by simp [show i < s.length by omega]⟩
  have hst := qTU hc
  rw [hst]
  have hcl := c.toNat_lt
  refine AW.skip ?_
  refine AW.seq ?_
  refine AW.block ?_
  refine AW.seq ?_
  refine rgn [.int .u8 c.toNat] [[], [], [], [0, 3, 13]] ?_
  iterate 4 refine op1 tok ?_ (hv := by first | with_reducible exact True.intro | (first | exact ⟨by omega, _, hc, rfl⟩ | simp [hc]; done) | omega | simp | (simp +contextual; omega))
  refine qA ?_
  refine cnd ?_ ?_
  ·intro h13
   try simp at h13
   rw [if_pos (show c = 34 from UInt8.toNat_inj.1 (by show c.toNat = 34; omega))]
   refine rgn [] [[], [], [2]] ?_
   iterate 3 refine op1 tok ?_
   refine qA ?_
   exact AW.ret ⟨.inr rfl, _, _, by (conv => lhs; simp), trivial, by simp⟩
  ·intro h13
   try simp at h13
   rw [if_neg (show ¬ c = 34 by rintro rfl; exact h13 rfl)]
   rw [if_neg (show ¬ c = 34 by rintro rfl; exact h13 rfl)] at hst
   refine AW.skip ?_
   refine rgn [.int .u8 c.toNat] [[], [], [], [0, 3, 19]] ?_
   iterate 4 refine op1 tok ?_ (hv := by first | with_reducible exact True.intro | (first | exact ⟨by omega, _, hc, rfl⟩ | simp [hc]; done) | omega | simp | (simp +contextual; omega))
   refine qA ?_
   refine cnd ?_ ?_
   ·intro h19
    try simp at h19
    rw [if_pos (show c = 92 from UInt8.toNat_inj.1 (by show c.toNat = 92; omega))]
    rw [if_pos (show c = 92 from UInt8.toNat_inj.1 (by show c.toNat = 92; omega))] at hst
    refine rgz [] [[], [], [0, 3]] ?_
    iterate 3 refine op1 tok ?_
    refine qA ?_
    refine rgz [] [[], [], [0, 3]] ?_
    iterate 3 refine op1 tok ?_
    refine qA ?_
    exact ⟨i + 2, ⟨rfl, by omega⟩, by omega, qB (by simp [(show (i : Int) + 1 + 1 = i + 2 by omega)]), rfl, by simp [(show (i : Int) + 1 + 1 = i + 2 by omega)], by simp [(show (i : Int) + 1 + 1 = i + 2 by omega)]⟩
   ·intro h19
    try simp at h19
    rw [if_neg (show ¬ c = 92 by rintro rfl; exact h19 rfl)]
    rw [if_neg (show ¬ c = 92 by rintro rfl; exact h19 rfl)] at hst
    refine AW.skip ?_
    refine rgz [] [[], [], [0, 3]] ?_
    iterate 3 refine op1 tok ?_
    refine qA ?_
    exact ⟨i + 1, ⟨rfl, by omega⟩, by omega, qB (by simp), rfl, by simp, by simp⟩
 ·intro h7
  try simp at h7
  have hend : qBV s i = s.length := by
   unfold qBV; split
   ·rw [show i = s.length by omega]; simp [xG]
   ·rfl
  refine AW.exit ?_
  simp
  refine rgn [] [[], [], [2]] ?_
  iterate 3 refine op1 tok ?_
  refine qA ?_
  exact AW.ret ⟨.inr rfl, _, _, by (conv => lhs; simp), trivial, by simp [hend]⟩
theorem qLE (s : List UInt8) (q : RQ) (hs : s.length ≤ 1000000000) (hp : q.pos ≤ s.length) : AX Tryz.prog G 182 [.ptr 2 0] [(2, .vars 137 (rqC s q))] (.p (.str (zE s q).2)) [2] [(2, .vars 137 (rqC s (zE s q).1))] := by
 refine AX.introU tok 900 Tryz.func182 (by kernel_rfl) rfl rfl ?_
 simp only [Tryz.f182, qK, List.map_cons, List.map_nil]
 have hu := qTE (G := G) (s.drop q.pos) (by simp; omega)
 have hpr := qAN (s.drop q.pos)
 have hue := qIS (s.drop q.pos)
 have hen := end5_ev (G := G) (s.drop q.pos) (by simp; omega)
 have hsk := qKS (s.drop q.pos)
 have hq : zE s q = if (zK (s.drop q.pos)).2.2 = 3 then ({ q with pos := q.pos + qDF (s.drop q.pos), big := true }, [])
  else ({ q with pos := q.pos + (zK (s.drop q.pos)).2.1, bad := Bool.or q.bad (decide ((zK (s.drop q.pos)).2.2 ≠ 0)) }, (zK (s.drop q.pos)).1) := rfl
 rw [hq]
 have hdl : (s.drop q.pos).length ≤ 1000000000 := by simp; omega
 generalize zK (s.drop q.pos) = u at *
 obtain ⟨us, un, ue⟩ := u
 simp only at hu hpr hue ⊢
 refine rgn [] [[0]] ?_
 refine op1 tok ?_
 refine qA ?_
 refine AW.seqDrawS tok mixed 16 [[0], [7], [8], [9], [0], [11], [12], [13], [10, 14], [15], [16], [6], [6], [6], [17], [18]] [.nilp, .tup [.str us, .int .i64 un, .int .i64 ue]] [] (by kernel_rfl) ?_
 iterate 16 refine d1 ?_ (hv := by first | with_reducible exact True.intro | (first | exact hu | omega; done) | omega | simp | (simp +contextual; omega))
 refine DGo.nil (by kernel_rfl) ⟨by kernel_rfl, ?_⟩
 refine qE.run [[0, 3, 4, 5]] ?_
 refine op1 tok ?_
 refine qA ?_
 refine AW.seq ?_
 refine rgn [] [[], [0, 3, 4, 5, 21]] ?_
 iterate 2 refine op1 tok ?_
 refine qA ?_
 refine cnd ?_ ?_
 ·intro h21
  try simp at h21
  rw [if_pos h21]
  refine rgn [] [[], [], [], [0]] ?_
  iterate 4 refine op1 tok ?_
  refine qA ?_
  refine AW.seqDrawS tok mixed 10 [[0], [25], [26], [27], [0], [29], [30], [31], [28, 32], [33]] [.nilp, .int .i64 (qDF (s.drop q.pos))] [] (by kernel_rfl) ?_
  iterate 10 refine d1 ?_ (hv := by first | with_reducible exact True.intro | (first | exact hen | omega; done) | omega | simp | (simp +contextual; omega))
  refine DGo.nil (by kernel_rfl) ⟨by kernel_rfl, ?_⟩
  refine qE.run [[0, 4]] ?_
  refine op1 tok ?_
  refine qA ?_
  refine rgz [] [[]] ?_
  refine op1 tok ?_
  refine qA ?_
  refine rgn [] [[], [], [], [], [3, 4, 40, 44], [], [], [3, 46, 47], [], [3]] ?_
  iterate 10 refine op1 tok ?_
  refine qA ?_
  refine rgn [] [[], [2]] ?_
  iterate 2 refine op1 tok ?_
  refine qA ?_
  exact AW.ret ⟨.inr rfl, _, _, by (conv => lhs; simp), trivial, by simp, by simp, by simp, by simp⟩
 ·intro h21
  try simp at h21
  rw [if_neg h21]
  refine rgn [] [[], [0, 3, 4, 36]] ?_
  iterate 2 refine op1 tok ?_
  refine qA ?_
  refine cnd ?_ ?_
  ·intro h36
   try simp at h36
   rw [decide_eq_true h36]
   refine rgz [] [[], [], [], [0, 3, 4]] ?_
   iterate 4 refine op1 tok ?_
   refine qA ?_
   refine rgn [] [[], [], [], [], [3, 4, 40, 44], [], [], [3, 46, 47], [], [3]] ?_
   iterate 10 refine op1 tok ?_
   refine qA ?_
   refine rgn [] [[], [2]] ?_
   iterate 2 refine op1 tok ?_
   refine qA ?_
   exact AW.ret ⟨.inr rfl, _, _, by (conv => lhs; simp), trivial, by simp, by simp, by simp, by simp⟩
  ·intro h36
   try simp at h36
   have hd0 : decide (ue ≠ 0) = false := by simp [h36]
   rw [hd0]
   refine AW.skip ?_
   refine rgn [] [[], [], [], [], [3, 4, 40, 44], [], [], [3, 46, 47], [], [3]] ?_
   iterate 10 refine op1 tok ?_
   refine qA ?_
   refine rgn [] [[], [2]] ?_
   iterate 2 refine op1 tok ?_
   refine qA ?_
   exact AW.ret ⟨.inr rfl, _, _, by (conv => lhs; simp), trivial, by simp, by simp, by simp, by simp⟩
theorem qXK (c : UInt8) : AFn Tryz.prog G 216 [.int .u8 c.toNat] (.bool (kC c)) := by
 refine AFn.introU tok Tryz.func216 (by kernel_rfl) rfl rfl ?_
 simp only [Tryz.f216, qK, List.map_cons, List.map_nil]
 have key : ∀ k : Fin 256, kC (UInt8.ofNat k.val) = (((((decide (48 ≤ k.val) && decide (k.val ≤ 57)) || decide (k.val = 45)) || decide (k.val = 43)) || decide (k.val = 46)) || decide (k.val = 101) || decide (k.val = 69)) := by decide +kernel
 have hk := key ⟨c.toNat, c.toNat_lt⟩
 simp only [UInt8.ofNat_toNat] at hk
 have e1 : decide ((48 : Int) ≤ (c.toNat : Int)) = decide (48 ≤ c.toNat) := by rw [decide_eq_decide]; omega
 have e2 : decide ((c.toNat : Int) ≤ 57) = decide (c.toNat ≤ 57) := by rw [decide_eq_decide]; omega
 have e3 : decide ((c.toNat : Int) = 45) = decide (c.toNat = 45) := by rw [decide_eq_decide]; omega
 have e4 : decide ((c.toNat : Int) = 43) = decide (c.toNat = 43) := by rw [decide_eq_decide]; omega
 have e5 : decide ((c.toNat : Int) = 46) = decide (c.toNat = 46) := by rw [decide_eq_decide]; omega
 have e6 : decide ((c.toNat : Int) = 101) = decide (c.toNat = 101) := by rw [decide_eq_decide]; omega
 have e7 : decide ((c.toNat : Int) = 69) = decide (c.toNat = 69) := by rw [decide_eq_decide]; omega
 rw [hk]
 refine rgn [] [[0]] ?_
 refine op1 tok ?_
 refine qA ?_
 refine rgn [] [[], [], [], [], [], [0, 8], [], [], [], [0, 12], [], [], [], [0, 16], [], [], [], [0, 20], [], [], [], [0, 24], [], [], [], [28], [2]] ?_
 iterate 27 first | refine op1 tok ?_ | refine op2 tok ?_
 refine qA ?_
 exact AW.ret ⟨.inr rfl, _, _, by (conv => lhs; simp), trivial, by (simp [e1, e2, e3, e4, e5, e6, e7, Bool.or_assoc])⟩
end Go.Proofs.YtdojfdaglbphlaaGreatDoor
