import Derived.Test.YtcfcfblbpnpclaaGreatDoorM4
import Derived.Test.YtcfcfblbpnpclaaGreatDoorM3
import Derived.Maps.RangeRun
namespace Go.Proofs.YtcfcfblbpnpclaaGreatDoor.Sy
open Go
section
variable {P:Program} {T:Tab} {G:qK} {Q:Exit→St→Prop} {st st':St}
theorem Turned.refl (w:World) (b:Nat):Turned w w b:=⟨rfl,rfl,rfl,rfl,fun _ _=>rfl⟩
end
set_option linter.unusedSimpArgs false
section
variable {P:Program} {T:Tab} {G:qK} {Q:Exit→St→Prop} {st st':St}
end
section
variable {P:Program} {T:Tab} {G:qK} {Q:Exit→St→Prop} {st st':St}
theorem Rel.freezeAll {c:Ctx} {μ:Mu} {tmps:Array Value} {w:World}:∀ (ids:List Nat) {M:qQ} {st:St},Rel c M μ st tmps w→∃ M',Rel c M' μ (freezeAll st ids) tmps w
 | [],M,_,r=>⟨M,r⟩
 | i::l,M,st,r=>by
  obtain ⟨M1,r1⟩:=r.freeze i
  exact Rel.freezeAll l r1
end
section
variable {P:Program} {T:Tab} {G:qK}
theorem AX.ren {f:FuncId} {xs:List V} {H:List (Nat × Box)} {r:V} {ps:List Nat} {H':List (Nat × Box)} (i j:Nat) (h:AX P G f xs H r ps H') (hf:(⟨[r],ps,H',0⟩:St).fresh j=true):AX P G f xs H (r.ren i j) (ps.filter (· != i)) (qBP i j H'):=by
 refine ⟨h.1,fun M μ w vs hg rel=>(h.2 M μ w vs hg rel).mono ?_⟩
 rintro e w' ⟨v,M',μ',rfl,r'⟩
 have:=r'.ren (i:=i) hf
 exact ⟨v,M',_,rfl,by simpa only [St.ren,V.renL] using this⟩
end
section
variable {P:Program} {T:Tab} {G:qK} {Q:Exit→St→Prop} {l:List Oper} {m:Nat} {tss:List (List Nat)} {sms:List Sm}
inductive DRun (P:Program) (G:qK) (st0:St):List Oper→List (List Nat)→St→List Sm→St→Prop
 | nil {tss:List (List Nat)} {st:St}:(st.H.map (·.1)).Nodup→DRun P G st0 [] tss st [] st
 | one {o : Oper} {rest : List Oper} {ts : List Nat} {tss : List (List Nat)} {st st2 : St} {s : Sm} {zs : List Sm} : o.guard = none → (st.H.map (·.1)).Nodup → Facts st0 s → (∀ p ∈ s.H, p ∈ st.H) →
   (∀ c M μ st' tmps w R K,wN G c→Rel c M μ st' tmps w→zT st'.tmps (qW st.tmps ts)→(∀ id bx,(id,bx)∈s.H→(id,bx)∈st'.H)→(∀ n∈s.new,({ st' with H:=qU (s.H.map (·.1)) st'.H }:St).fresh n=true) →
    (∀ u w' M' μ' H2,Rel c M' μ' { st' with H:=H2 } tmps w'→RV M' μ' u s.x→(∀ p,p∈H2↔p∈s.H'∨(p∈st'.H∧p.1 ∉ s.H.map (·.1)))→K (Act.put ⟨tmps,[]⟩ o.dst u) w')→o.wp P ⟨tmps,[]⟩ w K R) →
   DRun P G st0 rest tss (st.after o.dst s) zs st2→DRun P G st0 (o::rest) (ts::tss) st (s::zs) st2
theorem DRun.len {st0:St} {rest:List Oper} {ts:List (List Nat)} {st st2:St} {zs:List Sm} (h:DRun P G st0 rest ts st zs st2):zs.length=rest.length:=by
 induction h with
 | nil=>rfl
 | one _ _ _ _ _ _ ih=>simp [ih]
theorem DRun.told (hchk : zD l m tss = true) (hconf : yY l m (sms.map Sm.sum) = true) {st0 : St} {rest : List Oper} {ts : List (List Nat)} {st st2 : St} {zs : List Sm} (h : DRun P G st0 rest ts st zs st2) : ∀ k : Nat,
  rest=(l.take m).drop k→ts=tss.drop k→zs=sms.drop k→k≤m→sms.length=m→st.pins=st0.pins→st.base=st0.base→DoneD l m sms st0 (fun j=>decide (j<k)) st.tmps st.H →
  (∀ i,k≤i→i<m→Told P G l m sms st0 i)∧st2.pins=st0.pins∧st2.base=st0.base∧DoneD l m sms st0 (fun j=>decide (j<m)) st2.tmps st2.H∧(st2.H.map (·.1)).Nodup:=by
 induction h with
 | @nil ts st hnd =>
  intro k hr _ hz hk hxl hp hb D
  have hkm:k=m:=by
   have h3:(List.drop k (List.take m l)).length=0:=by rw [← hr]; rfl
   have:=kR hchk
   simp at h3
   omega
  subst hkm
  exact ⟨fun i h1 h2=>by omega,hp,hb,D,hnd⟩
 | @one o rest t1 tss1 st st2 s zs hgd hnd F hsub hgo _ ih =>
  intro k hr hts hz hk hxl hp hb D
  have hkm:k<m:=by
   have h3:(List.drop k (List.take m l)).length=rest.length+1:=by rw [← hr]; rfl
   simp at h3
   omega
  obtain ⟨o',ho',htk,hsep⟩:=wU hchk hkm
  have hoo:o=o':=by
   have h3:(List.drop k (List.take m l))[0]?=some o:=by rw [← hr]; rfl
   rw [List.getElem?_drop,List.getElem?_take,Nat.add_zero,if_pos hkm,ho'] at h3
   cases h3; rfl
  subst hoo
  have hrest:rest=(l.take m).drop (k+1):=by
   have:=congrArg (List.drop 1) hr
   simpa [List.drop_drop,Nat.add_comm] using this
  have ht1:t1=o.looksAt l.toArray:=by
   have h3:(List.drop k tss)[0]?=some t1:=by rw [← hts]; rfl
   rw [List.getElem?_drop,Nat.add_zero,htk] at h3
   cases h3; rfl
  have hts1:tss1=tss.drop (k+1):=by
   have:=congrArg (List.drop 1) hts
   simpa [List.drop_drop,Nat.add_comm] using this
  have hdk:zN l k=o.dst:=by simp [zN,ho']
  have hxk:sms[k]?=some s:=by
   have h3:(List.drop k sms)[0]?=some s:=by rw [← hz]; rfl
   rw [List.getElem?_drop,Nat.add_zero] at h3; exact h3
  have hz':zs=sms.drop (k+1):=by
   have:=congrArg (List.drop 1) hz
   simpa [List.drop_drop,Nat.add_comm] using this
  have D':DoneD l m sms st0 (fun j=>decide (j<k+1)) (st.after o.dst s).tmps (st.after o.dst s).H:=by
   have:=D.go hchk hconf (DC.below hchk k) (L':=fun j=>decide (j<k+1)) hkm hdk hxk (by simp) F (fun j=>by
    by_cases h1:j<k
    ·simp [h1,show j<k+1 by omega]
    by_cases h2:j=k
    ·simp [h2]
    simp [h1,h2,show ¬ j<k+1 by omega]) hsub hnd (H2:=s.H'++qU (s.H.map (·.1)) st.H) (fun p=>by rw [List.mem_append,zW])
   have e1:(st.after o.dst s).tmps=qBQ st.tmps o.dst s.x:=by cases hq:o.dst <;> rfl
   rw [e1]; exact this
  have e2:(st.after o.dst s).pins=st.pins:=by cases hq:o.dst <;> rfl
  have e3:(st.after o.dst s).base=st.base:=by cases hq:o.dst <;> rfl
  obtain ⟨h1,h2,h3⟩:=ih (k+1) hrest hts1 hz' hkm hxl (e2.trans hp) (e3.trans hb) D'
  refine ⟨fun i hi1 hi2 => ?_,h2,h3⟩
  rcases Nat.eq_or_lt_of_le hi1 with e | e
  ·subst e
   subst ht1
   exact ⟨o,s,st.tmps,st.H,ho',hxk,D,F,hsub,uF ho' hgd hgo⟩
  exact h1 i e hi2
theorem AW.runDraw1 (hmix : P.follows .mixedOrders = true) (m : Nat) (tss : List (List Nat)) {id : Nat} {st st1 : St} {sms : List Sm} (hchk : zD l m tss = true)
  (h1:DRun P G st (l.take m) tss st sms st1) (hconf:yY l m (sms.map Sm.sum)=true) (hlate:qS P G l.toArray Q (l.drop m) st1) :
  AW P G (.region id l.toArray true) Q st:=by
 intro c M μ tmps w hg r
 refine wp_region_any hmix ?_
 have hml:=kR hchk
 have hxl:sms.length=m:=by
  rw [h1.len]; simp; omega
 obtain ⟨hgo,hp2,_,D2,hnd2⟩:=h1.told hchk hconf 0 (by simp) (by simp) (by simp) (Nat.zero_le _) hxl rfl rfl (DoneD.put0 st)
 have hsize:l.toArray.size=l.length:=by simp
 refine qAX hchk hconf st (fun i hi=>hgo i (Nat.zero_le _) hi) st1 hp2 D2 hnd2 hlate hg _ _ _ M μ st.tmps st.H tmps _ rfl ?_ (by simp) (fun j _ hj=>by simp [Array.getD]) (fun j o _ h=>by simp [Array.getD] at h) ?_ (r.same ⟨rfl,rfl,rfl,Nat.le_refl _,fun _ _=>rfl⟩)
 ·rw [hsize]
  exact Nat.le_trans (List.length_filter_le _ _) (by simp)
 have:(fun j=>(Array.replicate l.toArray.size false).getD j false)=fun j=>decide (j<0):=by
  funext j; simp [Array.getD]
 rw [this]; exact DoneD.put0 st
def qJ (P:Program) (G:qK) (st0:St) (l:List Oper) (tss:List (List Nat)) (st:St) (acc:yM) (K:yM→St→Prop):Prop:=∃ sms st1,DRun P G st0 l tss st sms st1∧K (acc++sms.map Sm.sum) st1
variable {K:yM→St→Prop} {st st' st0:St} {rest:List Oper} {ts:List Nat} {orc orc':List PD} {acc:yM} {o:Oper} {sm:qKV} {v:Know→Prop}
theorem qJ.nil (hn:ndB st.H=true) (k:K acc st):qJ P G st0 [] tss st acc K:=⟨_,_,.nil (zB hn),by simpa using k⟩
theorem qJ.one (hT : TOK P T) (h : ∀ C, uH C T G st0 ts o st orc = some (v C, st', sm, orc')) (hv : v (kn P G)) (hgd : o.guard = none) (hn : ndB st.H = true) (k : qJ P G st0 rest tss st' (acc ++ [sm]) K) :
  qJ P G st0 (o::rest) (ts::tss) st acc K:=by
 have h1:=h (kn P G)
 unfold uH at h1
 split at h1
 ·rename_i v1 s orc1 h2
  simp only [Option.some.injEq,Prod.mk.injEq] at h1
  obtain ⟨h3,rfl,rfl,rfl⟩:=h1
  obtain ⟨sms,st1,e,hk⟩:=k
  have S:=kY hT (zB hn) h2 (h3 ▸ hv)
  exact ⟨s::sms,st1,.one hgd (zB hn) ⟨S.q,S.good,S.ps,S.new⟩ (fun p hp=>jX st _ p (S.H p hp)) S.goes e,by simpa using hk⟩
 cases h1
theorem r1 (hT : TOK P T) (k : qJ P G st0 rest tss st' (acc ++ [sm]) K) (h : ∀ C, uH C T G st0 ts o st orc = some (v C, st', sm, orc') := by intro C; conv => lhs; simp) (hv : v (kn P G) := by first | with_reducible exact True.intro | omega | simp | (simp +contextual; omega)) (hgd : o.guard = none := by rfl) (hn : ndB st.H = true := by kernel_rfl) :
  qJ P G st0 (o::rest) (ts::tss) st acc K:=qJ.one hT h hv hgd hn k
theorem qJ.call {x : Operand} {args : Array Operand} {tys : Array TypeId} {f : FuncId} {xs : List V} {H : List (Nat × Box)} {r : V} {ps : List Nat} {H' : List (Nat × Box)} (new : List Nat) (hc : AX P G f xs H r ps H') (ho : o.op = .call { callee := .value x, args := args, argTypes := tys }) (hgd : o.guard = none)
  (hcx:CX G ⟨qW st.tmps ts,H.map (·.1),H,st.base⟩ x args.toList f xs H r ps H') (hrest:(St.rest ⟨qW st.tmps ts,H.map (·.1),H,st.base⟩ H ps).H=[]) (hpins:∀ i∈ps,i∈(St.rest ⟨qW st.tmps ts,H.map (·.1),H,st.base⟩ H ps).pins)
  (hsub:∀ p∈H,p∈st.H) (hnew:∀ n∈new,st0.fresh n=true) (hky:∀ i,qI i H'=true→i∈H.map (·.1)∨i∈new) (hgood:∀ i∈V.ids r++zP H',i∈ps∨i∈new) (hn:ndB st.H=true) (hst:st.after o.dst ⟨r,H,H',ps,new,false⟩=st')
  (k:qJ P G st0 rest tss st' (acc++[(Sm.mk r H H' ps new false).sum]) K):qJ P G st0 (o::rest) (ts::tss) st acc K:=by
 subst hst
 obtain ⟨sms,st1,e,hk⟩:=k
 have hsn:(H.map (·.1)).Nodup:=hcx.2.2.2.2.1
 have y:=qY ho hc hcx
 refine ⟨⟨r,H,H',ps,new,false⟩::sms,st1,.one hgd (zB hn) ⟨fun h=>absurd h (by simp),hgood,hky,hnew⟩ hsub (fun c M μ st' tmps w R K hG rel hle hbox hnw k => ?_) e,by simpa using hk⟩
 exact wS (s:=⟨r,H,H',ps,new,false⟩) (small:=⟨qW st.tmps ts,H.map (·.1),H,st.base⟩) (s':=({ St.rest (⟨qW st.tmps ts,H.map (·.1),H,st.base⟩:St) H ps with H:=H'++(St.rest (⟨qW st.tmps ts,H.map (·.1),H,st.base⟩:St) H ps).H }:St)) rfl hsn (by show H'=H'++_; rw [hrest,List.append_nil]) (fun i hi=>hpins i hi) hky hgood y c M μ st' tmps w R K hG rel hle hbox hnw k
theorem AW.drawR (hmix : P.follows .mixedOrders = true) (m : Nat) (tss : List (List Nat)) (orc2 : List PD) {id : Nat} {l : List Oper} (hchk : zD l m tss = true)
  (h:qJ P G st (l.take m) tss st [] fun sums st1=>yY l m sums=true∧qC P G l.toArray Q (l.drop m) st1 orc2):AW P G (.region id l.toArray true) Q st:=by
 obtain ⟨sms,st1,e,hc,hl⟩:=h
 exact AW.runDraw1 hmix m tss hchk e (by simpa using hc) hl
theorem AW.seqDrawR (hmix : P.follows .mixedOrders = true) (m : Nat) (tss : List (List Nat)) (orc2 : List PD) {id : Nat} {l : List Oper} {b : Code} (hchk : zD l m tss = true)
  (h:qJ P G st (l.take m) tss st [] fun sums st1=>yY l m sums=true∧qC P G l.toArray (andThen (AW P G b Q) Q) (l.drop m) st1 orc2):AW P G (.seq (.region id l.toArray true) b) Q st :=
 AW.seq (AW.drawR hmix m tss orc2 hchk h)
end
end Go.Proofs.YtcfcfblbpnpclaaGreatDoor.Sy
