import Derived.Test.YtgcbapchinideaaGreatDoorK1
import Derived.Test.YtgcbapchinideaaGreatDoorM3
import Derived.Test.YtgcbapchinideaaGreatDoorM4
import Derived.Lib.AppendZerosOnto
import Derived.Scope
import Derived.Control
namespace Go.Proofs.YtgcbapchinideaaGreatDoor.Sy
open Go
section
variable {P:Program} {T:Tab} {G:qG} {Q:Exit→St→Prop} {st st':St}
theorem Rel.freezeAll {c:Ctx} {μ:Mu} {tmps:Array Value} {w:World}:∀ (ids:List Nat) {M:qQ} {st:St},Rel c M μ st tmps w→∃ M',Rel c M' μ (freezeAll st ids) tmps w
 | [],M,_,r=>⟨M,r⟩
 | i::l,M,st,r=>by
  obtain ⟨M1,r1⟩:=r.freeze i
  exact Rel.freezeAll l r1
end
section
variable {P:Program} {T:Tab} {G:qG}
theorem AX.ren {f:FuncId} {xs:List V} {H:List (Nat × Box)} {r:V} {ps:List Nat} {H':List (Nat × Box)} (i j:Nat) (h:AX P G f xs H r ps H') (hf:(⟨[r],ps,H',0⟩:St).fresh j=true):AX P G f xs H (r.ren i j) (ps.filter (· != i)) (qGB i j H'):=by
 refine ⟨h.1,fun M μ w vs hg rel=>(h.2 M μ w vs hg rel).mono ?_⟩
 rintro e w' ⟨v,M',μ',rfl,r'⟩
 have:=r'.ren (i:=i) hf
 exact ⟨v,M',_,rfl,by simpa only [St.ren,V.renL] using this⟩
end
section
variable {P:Program} {T:Tab} {G:qG} {Q:Exit→St→Prop} {l:List Oper} {m:Nat} {tss:List (List Nat)} {sms:List Sm}
inductive DRun (P:Program) (G:qG) (st0:St):List Oper→List (List Nat)→St→List Sm→St→Prop
 | nil {tss:List (List Nat)} {st:St}:(st.H.map (·.1)).Nodup→DRun P G st0 [] tss st [] st
 | one {o : Oper} {rest : List Oper} {ts : List Nat} {tss : List (List Nat)} {st st2 : St} {s : Sm} {zs : List Sm} : o.guard = none → (st.H.map (·.1)).Nodup → Facts st0 s → (∀ p ∈ s.H, p ∈ st.H) →
   (∀ c M μ st' tmps w R K,yZ G c→Rel c M μ st' tmps w→wL st'.tmps (zN st.tmps ts)→(∀ id bx,(id,bx)∈s.H→(id,bx)∈st'.H)→(∀ n∈s.new,({ st' with H:=qU (s.H.map (·.1)) st'.H }:St).fresh n=true) →
    (∀ u w' M' μ' H2,Rel c M' μ' { st' with H:=H2 } tmps w'→RV M' μ' u s.x→(∀ p,p∈H2↔p∈s.H'∨(p∈st'.H∧p.1 ∉ s.H.map (·.1)))→K (Act.put ⟨tmps,[]⟩ o.dst u) w')→o.wp P ⟨tmps,[]⟩ w K R) →
   DRun P G st0 rest tss (st.after o.dst s) zs st2→DRun P G st0 (o::rest) (ts::tss) st (s::zs) st2
theorem DRun.len {st0:St} {rest:List Oper} {ts:List (List Nat)} {st st2:St} {zs:List Sm} (h:DRun P G st0 rest ts st zs st2):zs.length=rest.length:=by
 induction h with
 | nil=>rfl
 | one _ _ _ _ _ _ ih=>simp [ih]
theorem DRun.told (hchk : zC l m tss = true) (hconf : kV l m (sms.map Sm.sum) = true) {st0 : St} {rest : List Oper} {ts : List (List Nat)} {st st2 : St} {zs : List Sm} (h : DRun P G st0 rest ts st zs st2) : ∀ k : Nat,
  rest=(l.take m).drop k→ts=tss.drop k→zs=sms.drop k→k≤m→sms.length=m→st.pins=st0.pins→st.base=st0.base→DoneD l m sms st0 (fun j=>decide (j<k)) st.tmps st.H →
  (∀ i,k≤i→i<m→Told P G l m sms st0 i)∧st2.pins=st0.pins∧st2.base=st0.base∧DoneD l m sms st0 (fun j=>decide (j<m)) st2.tmps st2.H∧(st2.H.map (·.1)).Nodup:=by
 induction h with
 | @nil ts st hnd =>
  intro k hr _ hz hk hxl hp hb D
  have hkm:k=m:=by
   have h3:(List.drop k (List.take m l)).length=0:=by rw [← hr]; rfl
   have:=xW hchk
   simp at h3
   omega
  subst hkm
  exact ⟨fun i h1 h2=>by omega,hp,hb,D,hnd⟩
 | @one o rest t1 tss1 st st2 s zs hgd hnd F hsub hgo _ ih =>
  intro k hr hts hz hk hxl hp hb D
  have hkm:k<m:=by
   have h3:(List.drop k (List.take m l)).length=rest.length+1:=by rw [← hr]; rfl
   simp at h3
   omega
  obtain ⟨o',ho',htk,hsep⟩:=kJ hchk hkm
  have hoo:o=o':=by
   have h3:(List.drop k (List.take m l))[0]?=some o:=by rw [← hr]; rfl
   rw [List.getElem?_drop,List.getElem?_take,Nat.add_zero,if_pos hkm,ho'] at h3
   cases h3; rfl
  subst hoo
  have hrest:rest=(l.take m).drop (k+1):=by
   have:=congrArg (List.drop 1) hr
   simpa [List.drop_drop,Nat.add_comm] using this
  have ht1:t1=o.looksAt l.toArray:=by
   have h3:(List.drop k tss)[0]?=some t1:=by rw [← hts]; rfl
   rw [List.getElem?_drop,Nat.add_zero,htk] at h3
   cases h3; rfl
  have hts1:tss1=tss.drop (k+1):=by
   have:=congrArg (List.drop 1) hts
   simpa [List.drop_drop,Nat.add_comm] using this
  have hdk:zY l k=o.dst:=by simp [zY,ho']
  have hxk:sms[k]?=some s:=by
   have h3:(List.drop k sms)[0]?=some s:=by rw [← hz]; rfl
   rw [List.getElem?_drop,Nat.add_zero] at h3; exact h3
  have hz':zs=sms.drop (k+1):=by
   have:=congrArg (List.drop 1) hz
   simpa [List.drop_drop,Nat.add_comm] using this
  have D':DoneD l m sms st0 (fun j=>decide (j<k+1)) (st.after o.dst s).tmps (st.after o.dst s).H:=by
   have:=D.go hchk hconf (DC.below hchk k) (L':=fun j=>decide (j<k+1)) hkm hdk hxk (by simp) F (fun j=>by
    by_cases h1:j<k
    ·simp [h1,show j<k+1 by omega]
    by_cases h2:j=k
    ·simp [h2]
    simp [h1,h2,show ¬ j<k+1 by omega]) hsub hnd (H2:=s.H'++qU (s.H.map (·.1)) st.H) (fun p=>by rw [List.mem_append,wP])
   have e1:(st.after o.dst s).tmps=qGC st.tmps o.dst s.x:=by cases hq:o.dst <;> rfl
   rw [e1]; exact this
  have e2:(st.after o.dst s).pins=st.pins:=by cases hq:o.dst <;> rfl
  have e3:(st.after o.dst s).base=st.base:=by cases hq:o.dst <;> rfl
  obtain ⟨h1,h2,h3⟩:=ih (k+1) hrest hts1 hz' hkm hxl (e2.trans hp) (e3.trans hb) D'
  refine ⟨fun i hi1 hi2 => ?_,h2,h3⟩
  rcases Nat.eq_or_lt_of_le hi1 with e | e
  ·subst e
   subst ht1
   exact ⟨o,s,st.tmps,st.H,ho',hxk,D,F,hsub,qDO ho' hgd hgo⟩
  exact h1 i e hi2
theorem AW.runDraw1 (hmix : P.follows .mixedOrders = true) (m : Nat) (tss : List (List Nat)) {id : Nat} {st st1 : St} {sms : List Sm} (hchk : zC l m tss = true)
  (h1:DRun P G st (l.take m) tss st sms st1) (hconf:kV l m (sms.map Sm.sum)=true) (hlate:qR P G l.toArray Q (l.drop m) st1) :
  AW P G (.region id l.toArray true) Q st:=by
 intro c M μ tmps w hg r
 refine wp_region_any hmix ?_
 have hml:=xW hchk
 have hxl:sms.length=m:=by
  rw [h1.len]; simp; omega
 obtain ⟨hgo,hp2,_,D2,hnd2⟩:=h1.told hchk hconf 0 (by simp) (by simp) (by simp) (Nat.zero_le _) hxl rfl rfl (DoneD.put0 st)
 have hsize:l.toArray.size=l.length:=by simp
 refine qFI hchk hconf st (fun i hi=>hgo i (Nat.zero_le _) hi) st1 hp2 D2 hnd2 hlate hg _ _ _ M μ st.tmps st.H tmps _ rfl ?_ (by simp) (fun j _ hj=>by simp [Array.getD]) (fun j o _ h=>by simp [Array.getD] at h) ?_ (r.same ⟨rfl,rfl,rfl,Nat.le_refl _,fun _ _=>rfl⟩)
 ·rw [hsize]
  exact Nat.le_trans (List.length_filter_le _ _) (by simp)
 have:(fun j=>(Array.replicate l.toArray.size false).getD j false)=fun j=>decide (j<0):=by
  funext j; simp [Array.getD]
 rw [this]; exact DoneD.put0 st
def zI (P:Program) (G:qG) (st0:St) (l:List Oper) (tss:List (List Nat)) (st:St) (acc:vR) (K:vR→St→Prop):Prop:=∃ sms st1,DRun P G st0 l tss st sms st1∧K (acc++sms.map Sm.sum) st1
variable {K:vR→St→Prop} {st st' st0:St} {rest:List Oper} {ts:List Nat} {orc orc':List PD} {acc:vR} {o:Oper} {sm:qVH} {v:Know→Prop}
theorem zI.nil (hn:ndB st.H=true) (k:K acc st):zI P G st0 [] tss st acc K:=⟨_,_,.nil (zV hn),by simpa using k⟩
theorem zI.one (hT : TOK P T) (h : ∀ C, qDR C T G st0 ts o st orc = some (v C, st', sm, orc')) (hv : v (kn P G)) (hgd : o.guard = none) (hn : ndB st.H = true) (k : zI P G st0 rest tss st' (acc ++ [sm]) K) :
  zI P G st0 (o::rest) (ts::tss) st acc K:=by
 have h1:=h (kn P G)
 unfold qDR at h1
 split at h1
 ·rename_i v1 s orc1 h2
  simp only [Option.some.injEq,Prod.mk.injEq] at h1
  obtain ⟨h3,rfl,rfl,rfl⟩:=h1
  obtain ⟨sms,st1,e,hk⟩:=k
  have S:=vJ hT (zV hn) h2 (h3 ▸ hv)
  exact ⟨s::sms,st1,.one hgd (zV hn) ⟨S.q,S.good,S.ps,S.new⟩ (fun p hp=>uV st _ p (S.H p hp)) S.goes e,by simpa using hk⟩
 cases h1
theorem r1 (hT : TOK P T) (k : zI P G st0 rest tss st' (acc ++ [sm]) K) (h : ∀ C, qDR C T G st0 ts o st orc = some (v C, st', sm, orc') := by intro C; conv => lhs; simp) (hv : v (kn P G) := by first | with_reducible exact True.intro | omega | simp | (simp +contextual; omega)) (hgd : o.guard = none := by rfl) (hn : ndB st.H = true := by kernel_rfl) :
  zI P G st0 (o::rest) (ts::tss) st acc K:=zI.one hT h hv hgd hn k
theorem zI.call {x : Operand} {args : Array Operand} {tys : Array TypeId} {f : FuncId} {xs : List V} {H : List (Nat × Box)} {r : V} {ps : List Nat} {H' : List (Nat × Box)} (new : List Nat) (hc : AX P G f xs H r ps H') (ho : o.op = .call { callee := .value x, args := args, argTypes := tys }) (hgd : o.guard = none)
  (hcx:CX G ⟨zN st.tmps ts,H.map (·.1),H,st.base⟩ x args.toList f xs H r ps H') (hrest:(St.rest ⟨zN st.tmps ts,H.map (·.1),H,st.base⟩ H ps).H=[]) (hpins:∀ i∈ps,i∈(St.rest ⟨zN st.tmps ts,H.map (·.1),H,st.base⟩ H ps).pins)
  (hsub:∀ p∈H,p∈st.H) (hnew:∀ n∈new,st0.fresh n=true) (hky:∀ i,qE i H'=true→i∈H.map (·.1)∨i∈new) (hgood:∀ i∈V.ids r++yY H',i∈ps∨i∈new) (hn:ndB st.H=true) (hst:st.after o.dst ⟨r,H,H',ps,new,false⟩=st')
  (k:zI P G st0 rest tss st' (acc++[(Sm.mk r H H' ps new false).sum]) K):zI P G st0 (o::rest) (ts::tss) st acc K:=by
 subst hst
 obtain ⟨sms,st1,e,hk⟩:=k
 have hsn:(H.map (·.1)).Nodup:=hcx.2.2.2.2.1
 have y:=qPE ho hc hcx
 refine ⟨⟨r,H,H',ps,new,false⟩::sms,st1,.one hgd (zV hn) ⟨fun h=>absurd h (by simp),hgood,hky,hnew⟩ hsub (fun c M μ st' tmps w R K hG rel hle hbox hnw k => ?_) e,by simpa using hk⟩
 exact xS (s:=⟨r,H,H',ps,new,false⟩) (small:=⟨zN st.tmps ts,H.map (·.1),H,st.base⟩) (s':=({ St.rest (⟨zN st.tmps ts,H.map (·.1),H,st.base⟩:St) H ps with H:=H'++(St.rest (⟨zN st.tmps ts,H.map (·.1),H,st.base⟩:St) H ps).H }:St)) rfl hsn (by show H'=H'++_; rw [hrest,List.append_nil]) (fun i hi=>hpins i hi) hky hgood y c M μ st' tmps w R K hG rel hle hbox hnw k
theorem AW.drawR (hmix : P.follows .mixedOrders = true) (m : Nat) (tss : List (List Nat)) (orc2 : List PD) {id : Nat} {l : List Oper} (hchk : zC l m tss = true)
  (h:zI P G st (l.take m) tss st [] fun qJT st1=>kV l m qJT=true∧qH P G l.toArray Q (l.drop m) st1 orc2):AW P G (.region id l.toArray true) Q st:=by
 obtain ⟨sms,st1,e,hc,hl⟩:=h
 exact AW.runDraw1 hmix m tss hchk e (by simpa using hc) hl
theorem AW.seqDrawR (hmix : P.follows .mixedOrders = true) (m : Nat) (tss : List (List Nat)) (orc2 : List PD) {id : Nat} {l : List Oper} {b : Code} (hchk : zC l m tss = true)
  (h:zI P G st (l.take m) tss st [] fun qJT st1=>kV l m qJT=true∧qH P G l.toArray (andThen (AW P G b Q) Q) (l.drop m) st1 orc2):AW P G (.seq (.region id l.toArray true) b) Q st :=
 AW.seq (AW.drawR hmix m tss orc2 hchk h)
end
set_option linter.unusedSimpArgs false
set_option linter.unusedVariables false
section
variable {P:Program} {T:Tab} {G:qG} {l:List Oper} {tss:List (List Nat)} {K:vR→St→Prop} {st st' st0:St} {rest:List Oper} {ts:List Nat} {acc:vR} {o:Oper}
end
end Go.Proofs.YtgcbapchinideaaGreatDoor.Sy
namespace Go.Proofs.YtgcbapchinideaaGreatDoor
open Sy Go
set_option maxRecDepth 100000
set_option maxHeartbeats 4000000
set_option linter.unusedSimpArgs false
set_option linter.unusedVariables false
variable {G:qG}
theorem qRI (code m:Int):AFn Tryz.prog G 69 [.int .i64 code,.int .u64 m] ((zG code m).enc):=by
 refine AFn.introU tok Tryz.func69 (by kernel_rfl) rfl rfl ?_
 simp only [Tryz.f69,qN,List.map_cons,List.map_nil]
 have e:zG code m = .mk 8 m dc0 [] [] [] code:=rfl
 rw [e]
 refine rgn [] [[]] ?_
 refine op1 tok ?_
 refine qA (rgn [] [[],[],[4,7],[4]] ?_)
 iterate 4 refine op1 tok ?_
 refine qA ?_
 exact AW.ret (qI (k:=by simp [dc0]))
def xD (v:Val):Bool × Bool:=if v.kind=8 then (false,false) else if v.kind=1∨v.kind=2 then (false,true) else (true,true)
theorem qPH (v:Val):AFn Tryz.prog G 33 [v.enc] (.tup [.bool (xD v).1,.bool (xD v).2]):=by
 refine AFn.introU tok Tryz.func33 (by kernel_rfl) rfl rfl ?_
 simp only [Tryz.f33,qN,List.map_cons,List.map_nil]
 refine rgn [] [[],[],[1]] ?_
 iterate 3 refine op1 tok ?_
 refine qA (AW.seq (rgn [] [[],[5]] ?_))
 iterate 2 refine op1 tok ?_
 refine qA (AW.block (rgn [] [[],[5,6]] ?_))
 iterate 2 refine op1 tok ?_
 refine qA (cnd ?_ ?_)
 ·intro h6
  try simp at h6
  refine rgn [] [[],[]] ?_
  iterate 2 refine op1 tok ?_
  refine qA ?_
  exact AW.ret (qI (k:=by (first | (exfalso; omega) | (simp [xD, *]; done))))
 intro h6
 try simp at h6
 refine AW.seq (rgn [] [[],[5,8]] ?_)
 iterate 2 refine op1 tok ?_
 refine qA (cnd ?_ ?_)
 ·intro h8
  try simp at h8
  refine AW.skip (cnd ?_ ?_)
  ·intro h8
   try simp at h8
   refine rgn [] [[],[]] ?_
   iterate 2 refine op1 tok ?_
   refine qA ?_
   exact AW.ret (qI (k:=by (first | (exfalso; omega) | (simp [xD, *]; done))))
  intro h8
  try simp at h8
  refine AW.skip (rgn [] [[],[]] ?_)
  iterate 2 refine op1 tok ?_
  refine qA ?_
  exact AW.ret (qI (k:=by (first | (exfalso; omega) | (simp [xD, *]; done))))
 intro h8
 try simp at h8
 refine rgz [] [[],[8]] ?_
 iterate 2 refine op1 tok ?_
 refine qA (cnd ?_ ?_)
 ·intro h8
  try simp at h8
  refine rgn [] [[],[]] ?_
  iterate 2 refine op1 tok ?_
  refine qA ?_
  exact AW.ret (qI (k:=by (first | (exfalso; omega) | (simp [xD, *]; done))))
 intro h8
 try simp at h8
 refine AW.skip (rgn [] [[],[]] ?_)
 iterate 2 refine op1 tok ?_
 refine qA ?_
 exact AW.ret (qI (k:=by (first | (exfalso; omega) | (simp [xD, *]; done))))
structure Item where
 kind:Int
 many:Int
 mask:Int
 num:List UInt8
 text:List UInt8
 keys:List (List UInt8)
@[simp] def Item.enc (x:Item):PD := .agg [.int .i64 x.kind,.int .i64 x.many,.int .u64 x.mask,.str x.num,.str x.text,.sl 1 (x.keys.map PD.str)]
def zJ (a:Int):Nat:=(a % 2 ^ 64).toNat &&& 7
theorem qBM (a:Int):zJ a<8:=Nat.and_lt_two_pow _ (n:=3) (by decide)
theorem qHE (a:Int):IntKind.i64.wrap (((a % 2 ^ IntKind.i64.bits).toNat &&& 7 % 2 ^ IntKind.i64.bits:Nat):Int)=(zJ a:Int):=by
 have h:=qBM a
 have e:((a % 2 ^ IntKind.i64.bits).toNat &&& 7 % 2 ^ IntKind.i64.bits:Nat)=zJ a:=rfl
 rw [e]
 simp [IntKind.wrap,IntKind.bits,IntKind.signed]; omega
def xG (s:List UInt8):Dc:=if (kP (yD s)).2=0 then (kP (yD s)).1 else ⟨false,[55],0⟩
def qKW (alone:List Val) (x:Item):Nat:=min (zJ x.many) alone.length
def qT (alone:List Val) (x:Item):List Val:=if zJ x.kind=5∨zJ x.kind=6 then alone.drop (alone.length-qKW alone x) else []
def qW (alone:List Val) (x:Item):List Val:=if zJ x.kind=5∨zJ x.kind=6 then alone.take (alone.length-qKW alone x) else alone
def zE (alone:List Val) (x:Item):Val :=
 .mk (zJ x.kind+1) x.mask (if zJ x.kind=3 then xG x.num else dc0) (if zJ x.kind=4 then xK x.text else [])
  (if zJ x.kind=6 then uC x.keys (qT alone x).length else []) (qT alone x) (if zJ x.kind=7 then 40 else 0)
def qAG (alone:List Val) (x:Item):List Val:=qW alone x++[zE alone x]
def qJE (l:List Item):List Val:=(l.take 80).foldl qAG []
def vN (l:List Item):Val:=(qJE l).getLastD qRV
def kO (l:List Item) (k:Nat):List Val:=(l.take k).foldl qAG []
theorem xC {l:List Item} {k:Nat} {x:Item} (h:l[k]?=some x):kO l (k+1)=qAG (kO l k) x:=by
 unfold kO; rw [List.take_add_one,h]; simp
theorem qQF (a:List Val) (x:Item):(qAG a x).length≤a.length+1:=by
 unfold qAG qW; split <;> simp <;> omega
theorem qAX (l:List Item):∀ k,(kO l k).length≤k
 | 0=>by simp [kO]
 | k+1=>by
  cases h:l[k]? with
  | none =>
   have h1:kO l (k+1)=kO l k:=by unfold kO; rw [List.take_add_one,h]; simp
   have:=qAX l k
   rw [h1]; omega
  | some x =>
   rw [xC h]
   have:=qQF (kO l k) x
   have:=qAX l k
   omega
theorem qTZ (l:List Item) (hl:∀ x∈l,x.keys.length≤140737488351232):AFn Tryz.prog G 10 [.sl 6 (l.map Item.enc)] ((vN l).enc):=by
 refine AFn.introU tok Tryz.func10 (by kernel_rfl) rfl rfl ?_
 simp only [Tryz.f10,qN,List.map_cons,List.map_nil]
 refine rgn [] [[]] ?_
 refine op1 tok ?_
 refine qA (rgn [] [[],[0,2,3]] ?_)
 iterate 2 refine op1 tok ?_
 refine qA (AW.seq (rgn [] [[]] ?_))
 refine op1 tok ?_
 refine qA (AW.block ?_)
 refine AW.loop (α:=Nat) (fun k=>k≤l.length∧k≤80) (fun k=>⟨qV 121 [(0,.p (.sl 6 (l.map Item.enc))),(2,.ptr 2 0),(3,.ms 11),(4,.p (.int .i64 k))],[],[(11,.row 31 9 ((kO l k).map Val.enc)),(2,.vars 31 [.p (.int .i64 0),.p (.int .u64 0),.p (.bool false),.p (.str []),.p (.int .i64 0),.p (.str []),.nilsl,.nilsl,.p (.int .i64 0)])],0⟩) (fun k=>l.length-k) (0) ⟨by omega,by omega⟩ ⟨qD (by simp),rfl,by simp [kO],by simp⟩ ?_
 rintro k ⟨hk,hk8⟩
 have hal:=qAX l k
 generalize haa:kO l k=alone at *
 refine AW.seq (rgn [] [[],[],[],[],[0,2,3,4,16],[],[],[0,2,3,4,19]] ?_)
 iterate 5 refine op1 tok ?_
 iterate 2 refine op2 tok ?_
 refine op1 tok ?_
 refine qA (cnd ?_ ?_)
 ·intro h19
  try simp at h19
  obtain ⟨x,hx⟩:∃ x,l[k]?=some x:=⟨l[k],by simp [h19.1]⟩
  have hsh:=qJZ (G:=G) x.num
  have hpa:=qTU (G:=G) (yD x.num) (by have:=qAN x.num; omega)
  have hwo:=qNX (G:=G) x.text
  have h3k:=qBM x.kind
  have hxl:=hl x (List.mem_of_getElem? hx)
  refine AW.skip (AW.seq (AW.block (rgn [x.enc] [[],[],[],[],[0,2,3,4,26],[],[0,2,3,4,5]] ?_)))
  iterate 7 refine op1 tok ?_ (h:=by intro C; conv=>lhs; simp [qHE]) (hv:=by first | with_reducible exact True.intro | (simp [hx]; done) | omega | simp | (simp +contextual; omega))
  refine qA (rgn [x.enc] [[],[],[],[],[0,2,3,4,29,32],[],[],[0,2,3,4,35],[],[0,2,3,4,6]] ?_)
  iterate 10 refine op1 tok ?_ (hv:=by first | with_reducible exact True.intro | (simp [hx]; done) | omega | simp | (simp +contextual; omega))
  refine qA ?_
  refine AW.join (α:=Unit) (fun _=>True) (fun a=>⟨qV 121 [(0,.p (.sl 6 (l.map Item.enc))),(2,.ptr 2 0),(3,.ms 11),(4,.p (.int .i64 k)),(6,.ptr 6 0)],[],[(11,.row 31 9 ((qW alone x).map Val.enc)),(2,.vars 31 [.p (.int .i64 0),.p (.int .u64 0),.p (.bool false),.p (.str []),.p (.int .i64 0),.p (.str []),.nilsl,.nilsl,.p (.int .i64 0)]),(6,.vars 31 [.p (.int .i64 (zJ x.kind+1)),.p (.int .u64 x.mask),.p (.bool (zE alone x).num.neg),.p (.str (zE alone x).num.digits),.p (.int .i64 (zE alone x).num.scale),.p (.str (zE alone x).text),.p (.sl 1 []),.p (.sl 9 ((qT alone x).map Val.enc)),.p (.int .i64 (zE alone x).code)])],0⟩) ?_ ?_
  ·
   refine AW.seqRegionO [] ?_
   refine qH.fill 6 [none,none,none,none,none,none,some 1,some 9] (by conv=>lhs; simp) ?_
   refine qH.run [[],[0,2,3,4,6,37]] ?_
   iterate 2 refine op1 tok ?_
   refine qA (AW.block (rgn [] [[],[0,2,3,4,6,37,38]] ?_))
   iterate 2 refine op1 tok ?_
   refine qA (cnd ?_ ?_)
   ·intro h38
    try simp at h38
    have hq:zJ x.kind=3:=by omega
    refine rgn [x.enc,.nilp,.str (yD x.num),.nilp,.tup [(kP (yD x.num)).1.enc,.int .i64 (kP (yD x.num)).2]] [[],[],[],[],[0,2,3,4,6,45],[],[],[],[],[0,2,3,4,6,48,49],[],[],[0,2,3,4,6,7,8]] ?_
    iterate 13 refine op1 tok ?_ (hv:=by first | with_reducible exact True.intro | (first | exact hsh | exact hpa | simp [hx]; done) | omega | simp | (simp +contextual; omega))
    refine qA (AW.seq (rgn [] [[],[0,2,3,4,6,7,51]] ?_))
    iterate 2 refine op1 tok ?_
    refine qA (cnd ?_ ?_)
    ·intro h51
     try simp at h51
     refine rgz [] [[],[0,2,3,4,6,7]] ?_
     iterate 2 refine op1 tok ?_
     refine qA (rgz [] [[],[],[0,2,3,4,6]] ?_)
     iterate 3 refine op1 tok ?_
     refine qA ?_
     exact ⟨(),trivial,qD (by simp [qW,zE,qT,xG,dc0,Val.num,Val.text,Val.code,Val.keys,Val.kids,hq,h51]),rfl,by simp [qW,zE,qT,xG,dc0,Val.num,Val.text,Val.code,Val.keys,Val.kids,hq,h51],by simp [qW,zE,qT,xG,dc0,Val.num,Val.text,Val.code,Val.keys,Val.kids,hq,h51]⟩
    intro h51
    try simp at h51
    refine AW.skip (rgz [] [[],[],[0,2,3,4,6]] ?_)
    iterate 3 refine op1 tok ?_
    refine qA ?_
    exact ⟨(),trivial,qD (by simp [qW,zE,qT,xG,dc0,Val.num,Val.text,Val.code,Val.keys,Val.kids,hq,h51]),rfl,by simp [qW,zE,qT,xG,dc0,Val.num,Val.text,Val.code,Val.keys,Val.kids,hq,h51],by simp [qW,zE,qT,xG,dc0,Val.num,Val.text,Val.code,Val.keys,Val.kids,hq,h51]⟩
   intro h38
   try simp at h38
   refine rgn [] [[],[0,2,3,4,6,37,55]] ?_
   iterate 2 refine op1 tok ?_
   refine qA (cnd ?_ ?_)
   ·intro h55
    try simp at h55
    have hq:zJ x.kind=4:=by omega
    refine rgz [x.enc,.nilp,.str (xK x.text)] [[],[],[],[],[0,2,3,4,6,61],[],[],[0,2,3,4,6]] ?_
    iterate 8 refine op1 tok ?_ (hv:=by first | with_reducible exact True.intro | (first | exact hwo | simp [hx]; done) | omega | simp | (simp +contextual; omega))
    refine qA ?_
    exact ⟨(),trivial,qD (by simp [qW,zE,qT,xG,dc0,Val.num,Val.text,Val.code,Val.keys,Val.kids,hq]),rfl,by simp [qW,zE,qT,xG,dc0,Val.num,Val.text,Val.code,Val.keys,Val.kids,hq],by simp [qW,zE,qT,xG,dc0,Val.num,Val.text,Val.code,Val.keys,Val.kids,hq]⟩
   intro h55
   try simp at h55
   refine rgn [] [[],[0,2,3,4,6,37,64]] ?_
   iterate 2 refine op1 tok ?_
   refine qA (cnd ?_ ?_)
   ·intro h64
    try simp at h64
    have hq:zJ x.kind=7:=by omega
    refine rgz [] [[],[0,2,3,4,6]] ?_
    iterate 2 refine op1 tok ?_
    refine qA ?_
    exact ⟨(),trivial,qD (by simp [qW,zE,qT,xG,dc0,Val.num,Val.text,Val.code,Val.keys,Val.kids,hq]),rfl,by simp [qW,zE,qT,xG,dc0,Val.num,Val.text,Val.code,Val.keys,Val.kids,hq],by simp [qW,zE,qT,xG,dc0,Val.num,Val.text,Val.code,Val.keys,Val.kids,hq]⟩
   intro h64
   try simp at h64
   refine AW.join (α:=Unit) (fun _=>True) (fun a=>⟨qV 121 [(0,.p (.sl 6 (l.map Item.enc))),(2,.ptr 2 0),(3,.ms 11),(4,.p (.int .i64 k)),(6,.ptr 6 0),(67,.p (.bool (decide (zJ x.kind=5∨zJ x.kind=6))))],[],[(11,.row 31 9 (alone.map Val.enc)),(2,.vars 31 [.p (.int .i64 0),.p (.int .u64 0),.p (.bool false),.p (.str []),.p (.int .i64 0),.p (.str []),.nilsl,.nilsl,.p (.int .i64 0)]),(6,.vars 31 [.p (.int .i64 (zJ x.kind+1)),.p (.int .u64 x.mask),.p (.bool false),.p (.str []),.p (.int .i64 0),.p (.str []),.p (.sl 1 []),.p (.sl 9 []),.p (.int .i64 0)])],0⟩) ?_ ?_
   ·
    refine rgn [] [[],[0,2,3,4,6,37,67]] ?_
    iterate 2 refine op1 tok ?_
    refine qA (cnd ?_ ?_)
    ·intro h67
     try simp at h67
     refine AW.skip ?_
     exact ⟨(),trivial,qD (by simp [show (zJ x.kind=5∨zJ x.kind=6)=True from eq_true (by omega),h67]),rfl,by simp [show (zJ x.kind=5∨zJ x.kind=6)=True from eq_true (by omega),h67],by simp [show (zJ x.kind=5∨zJ x.kind=6)=True from eq_true (by omega),h67]⟩
    intro h67
    try simp at h67
    refine rgz [] [[],[0,2,3,4,6,67]] ?_
    iterate 2 refine op1 tok ?_
    refine qA ?_
    exact ⟨(),trivial,qD (by simp [show (zJ x.kind=5∨zJ x.kind=6)=(zJ x.kind=6) from propext (by omega),show ((zJ x.kind:Int)+1=7)=(zJ x.kind=6) from propext (by omega)]),rfl,by simp [show (zJ x.kind=5∨zJ x.kind=6)=(zJ x.kind=6) from propext (by omega),show ((zJ x.kind:Int)+1=7)=(zJ x.kind=6) from propext (by omega)],by simp [show (zJ x.kind=5∨zJ x.kind=6)=(zJ x.kind=6) from propext (by omega),show ((zJ x.kind:Int)+1=7)=(zJ x.kind=6) from propext (by omega)]⟩
   ·
    rintro a hI
    refine cnd ?_ ?_
    ·intro h67
     try simp at h67
     have hmany:=qBM x.many
     have hkn:((alone.length:Int)-if alone.length<zJ x.many then (alone.length:Int) else (zJ x.many:Int)).toNat=alone.length-qKW alone x:=by unfold qKW; split <;> omega
     have hq3:¬ zJ x.kind=3:=by omega
     have hq4:¬ zJ x.kind=4:=by omega
     have hq7:¬ zJ x.kind=7:=by omega
     refine rgn [x.enc] [[],[],[],[],[0,2,3,4,6,74],[],[],[],[0,2,3,4,6,78],[0,2,3,4,6,9]] ?_
     iterate 10 refine op1 tok ?_ (h:=by intro C; conv=>lhs; simp [qHE]) (hv:=by first | with_reducible exact True.intro | (simp [hx]; done) | omega | simp | (simp +contextual; omega))
     refine qA (rgn [] [[],[],[],[0,2,3,4,6,82],[0,2,3,4,6,10]] ?_)
     iterate 5 refine op1 tok ?_
     refine qA ?_
     refine AW.seqRegionO [] ?_
     refine qH.freeze 11 (by conv=>lhs; simp) ?_
     refine qH.run [[],[],[],[],[0,2,3,4,6,10,87],[],[0,2,3,4,6,10]] ?_
     iterate 7 refine op1 tok ?_
     refine qA (rgz [] [[],[],[],[0,2,4,6,89,92],[]] ?_)
     iterate 5 refine op1 tok ?_
     refine kD ?_
     refine qH.take 89 11 (by conv=>lhs; simp) ?_
     refine qH.freeze 83 (by conv=>lhs; simp) ?_
     refine qH.run [[0,2,3,4,6]] ?_
     refine op1 tok ?_
     refine qA ?_
     exact ⟨(),trivial,qD (by simp [qW,zE,qT,xG,dc0,Val.num,Val.text,Val.code,Val.keys,Val.kids,hq3,hq4,hq7,hkn,h67,show List.take alone.length (alone.map Val.enc)=alone.map Val.enc from List.take_of_length_le (by simp)]),rfl,by simp [qW,zE,qT,xG,dc0,Val.num,Val.text,Val.code,Val.keys,Val.kids,hq3,hq4,hq7,hkn,h67,show List.take alone.length (alone.map Val.enc)=alone.map Val.enc from List.take_of_length_le (by simp)],by simp [qW,zE,qT,xG,dc0,Val.num,Val.text,Val.code,Val.keys,Val.kids,hq3,hq4,hq7,hkn,h67,show List.take alone.length (alone.map Val.enc)=alone.map Val.enc from List.take_of_length_le (by simp)]⟩
    intro h67
    try simp at h67
    have hq3:¬ zJ x.kind=3:=by omega
    have hq4:¬ zJ x.kind=4:=by omega
    have hq7:¬ zJ x.kind=7:=by omega
    refine AW.skip ?_
    exact ⟨(),trivial,qD (by simp [qW,zE,qT,xG,dc0,Val.num,Val.text,Val.code,Val.keys,Val.kids,hq3,hq4,hq7,h67]),rfl,by simp [qW,zE,qT,xG,dc0,Val.num,Val.text,Val.code,Val.keys,Val.kids,hq3,hq4,hq7,h67],by simp [qW,zE,qT,xG,dc0,Val.num,Val.text,Val.code,Val.keys,Val.kids,hq3,hq4,hq7,h67]⟩
  ·
   rintro a hI
   refine AW.join (α:=Unit) (fun _=>True) (fun a=>⟨qV 121 [(0,.p (.sl 6 (l.map Item.enc))),(2,.ptr 2 0),(3,.ms 11),(4,.p (.int .i64 k)),(6,.ptr 6 0)],[],[(11,.row 31 9 ((qW alone x).map Val.enc)),(2,.vars 31 [.p (.int .i64 0),.p (.int .u64 0),.p (.bool false),.p (.str []),.p (.int .i64 0),.p (.str []),.nilsl,.nilsl,.p (.int .i64 0)]),(6,.vars 31 [.p (.int .i64 (zE alone x).kind),.p (.int .u64 (zE alone x).mask),.p (.bool (zE alone x).num.neg),.p (.str (zE alone x).num.digits),.p (.int .i64 (zE alone x).num.scale),.p (.str (zE alone x).text),.p (.sl 1 ((zE alone x).keys.map PD.str)),.p (.sl 9 ((zE alone x).kids.map Val.enc)),.p (.int .i64 (zE alone x).code)])],0⟩) ?_ ?_
   ·
    refine rgn [] [[],[],[0,2,3,4,6,96]] ?_
    iterate 3 refine op1 tok ?_
    refine qA (cnd ?_ ?_)
    ·intro h96
     try simp at h96
     have hq:zJ x.kind=6:=by omega
     have hkl:(qT alone x).length≤100000:=by unfold qT; split <;> simp <;> omega
     have hna:=qRZ (G:=G) x.keys (qT alone x).length hxl hkl
     refine AW.runDrawK tok mixed [0,2,3,4,6] 9 [[0],[4],[97,98],[99],[100],[6],[102],[103],[101,104]] [x.enc,.nilp,.sl 1 ((uC x.keys (qT alone x).length).map PD.str)] [] (by kernel_rfl) (by intro C; conv=>lhs; simp) (by first | (simp [hx]; done) | (simp [hx]; exact hna)) (by simp [Sm.sum,Sm.foot,Sm.tch,Sm.refs]; kernel_rfl) (by intro C; conv=>lhs; simp) (by first | with_reducible exact True.intro | omega | simp | (simp +contextual; omega)) ?_
     exact ⟨(),trivial,qD (by simp [zE,Val.kind,Val.mask,Val.keys,Val.kids,hq]),rfl,by simp [zE,Val.kind,Val.mask,Val.keys,Val.kids,hq],by simp [zE,Val.kind,Val.mask,Val.keys,Val.kids,hq]⟩
    intro h96
    try simp at h96
    have hq:¬ zJ x.kind=6:=by omega
    refine AW.skip ?_
    exact ⟨(),trivial,qD (by simp [zE,Val.kind,Val.mask,Val.keys,Val.kids,hq]),rfl,by simp [zE,Val.kind,Val.mask,Val.keys,Val.kids,hq],by simp [zE,Val.kind,Val.mask,Val.keys,Val.kids,hq]⟩
   ·
    rintro a hI
    have hrl:(qW alone x).length≤alone.length:=by unfold qW; split <;> simp <;> omega
    refine rgz [(zE alone x).enc] [[],[],[],[0,2,4,110],[0,2,3,4]] ?_
    iterate 5 refine op1 tok ?_ (hv:=by first | with_reducible exact True.intro | (first | (simp; done) | (simp; omega) | omega; done) | omega | simp | (simp +contextual; omega))
    refine qA (rgz [] [[],[],[0,2,3,4]] ?_)
    iterate 3 refine op1 tok ?_
    refine qA ?_
    exact ⟨k+1,⟨by omega,by omega⟩,by omega,qD (by simp [haa,xC hx,qAG]),rfl,by simp [haa,xC hx,qAG],by simp [haa,xC hx,qAG]⟩
 intro h19
 try simp at h19
 have hfin:qJE l=alone:=by
  rw [← haa]; unfold qJE kO
  congr 1
  by_cases h:k=80
  ·rw [h]
  have hkl:k=l.length:=by omega
  rw [hkl,List.take_length,List.take_of_length_le (by omega)]
 refine AW.exit ?_
 simp
 refine AW.seq (rgn [] [[],[],[2,3,113]] ?_)
 iterate 3 refine op1 tok ?_
 refine qA (cnd ?_ ?_)
 ·intro h113
  try simp at h113
  have hB:vN l=qRV:=by simp [vN,hfin,h113]
  refine rgn [] [[],[2]] ?_
  iterate 2 refine op1 tok ?_
  refine qA ?_
  exact AW.ret (qI (k:=by simp [hB,qRV,dc0,Val.kind,Val.mask,Val.num,Val.text,Val.keys,Val.kids,Val.code]))
 intro h113
 try simp at h113
 have hlast:alone[alone.length-1]?=some (vN l):=by
  rw [vN,hfin,List.getLastD_eq_getLast?,List.getLast?_eq_getElem?]
  have:alone.length-1<alone.length:=by
   have:alone≠[]:=h113
   have:=List.length_pos_iff.2 this; omega
  simp [this]
 have hpos:0<alone.length:=List.length_pos_iff.2 h113
 refine AW.skip (rgn [(vN l).enc] [[],[],[],[],[2,119],[],[2]] ?_)
 iterate 7 refine op1 tok ?_ (hv:=by first | with_reducible exact True.intro | (simp [hlast]; done) | omega | simp | (simp +contextual; omega))
 exact qA (AW.ret qI)
theorem qMS {v : Val} (h1 : 1 ≤ v.kind ∧ v.kind ≤ 8 ∧ v.kids.length ≤ 200) (h2 : v.kind = 8 ↔ v.code ≠ 0) (h3 : v.kind = 4 → yX v.num = true) (h3' : v.kind ≠ 4 → v.num = dc0)
  (h4:v.kind=5→xJ v.text=true) (h4':v.kind≠5→v.text=[]) (h5:v.kind=7→v.keys.length=v.kids.length∧qBP v.keys=true) (h5':v.kind≠7→v.keys=[]) (h6:v.kids=[]∨v.kind=6∨v.kind=7)
  (h7:∀ k∈v.kids,kK k=true):kK v=true:=by
 rw [vD]
 simp only [Bool.and_eq_true,uA]
 refine ⟨⟨by simp [vP]; omega,⟨⟨⟨⟨?_, ?_⟩, ?_⟩, ?_⟩, ?_⟩⟩,List.all_eq_true.2 h7⟩
 ·unfold qOX
  by_cases h:v.kind=8
  ·simp [h,h2.1 h]
  ·have : v.code = 0 := by by_cases hc : v.code = 0; · exact hc
                           ·exact (h (h2.2 hc)).elim
   simp [h,this]
 ·unfold qRT
  by_cases h:v.kind=4
  ·rw [if_pos h]; exact h3 h
  rw [if_neg h,h3' h]; simp [dc0]
 ·unfold qNY
  by_cases h:v.kind=5
  ·rw [if_pos h]; exact h4 h
  rw [if_neg h,h4' h]; simp
 ·unfold qCL
  by_cases h:v.kind=7
  ·rw [if_pos h,(h5 h).1,(h5 h).2]; simp
  rw [if_neg h,h5' h]; simp
 unfold qON
 rcases h6 with h | h | h <;> simp [h]
theorem qMG {s:List UInt8} (h:s.all zA=true):(qP s).all zA=true:=by
 rw [List.all_eq_true] at h ⊢
 exact fun b hb=>h b ((List.dropWhile_sublist _).subset hb)
theorem qJX {s:List UInt8} (h:qP s≠[]):qO (qP s) 0≠48:=by
 induction s with
 | nil=>exact (h rfl).elim
 | cons b s ih =>
  by_cases hb:b=48
  ·have e:qP (b::s)=qP s:=by simp [qP,hb]
   rw [e] at h ⊢; exact ih h
  have e:qP (b::s)=b::s:=by simp [qP,hb]
  rw [e]
  intro h2
  simp [qO] at h2
  exact hb (UInt8.toNat_inj.1 (by show b.toNat=48; omega))
theorem qEI:∀ (k:Nat) (d:List UInt8),(∃ r,d=(wC d k).1++r)∧((wC d k).2=0∨(wC d k).1.getLast?≠some 48)
 | 0,d=>⟨⟨[],by simp [wC]⟩,.inl rfl⟩
 | k+1,d=>by
  simp only [wC]
  split
  ·obtain ⟨⟨r,hr⟩,h2⟩:=qEI k d.dropLast
   refine ⟨⟨r++d.drop (d.length-1), ?_⟩,h2⟩
   have e:d.dropLast++d.drop (d.length-1)=d:=by rw [List.dropLast_eq_take,List.take_append_drop]
   rw [← List.append_assoc,← hr,e]
  rename_i h; exact ⟨⟨[],by simp⟩,.inr h⟩
theorem qCZ {neg:Bool} {digits:List UInt8} {scale:Nat} (hd:digits.all zA=true) (h:(wM neg digits scale).2=0):yX (wM neg digits scale).1=true:=by
 unfold wM at h ⊢
 simp only at h ⊢
 obtain ⟨⟨r,hr⟩,hl⟩:=qEI scale (qP digits)
 generalize wC (qP digits) scale=x at *
 split
 ·decide +kernel
 rename_i hne
 rw [if_neg hne] at h
 split
 ·rename_i hb; rw [if_pos hb] at h; simp at h
 rename_i hb
 have hpos:0<x.1.length:=List.length_pos_iff.2 hne
 have hall:x.1.all zA=true:=by
  have:=qMG hd
  rw [hr,List.all_append,Bool.and_eq_true] at this; exact this.1
 have hh:qO x.1 0≠48:=by
  have h1:=qJX (s:=digits) (by rw [hr]; simp [hne])
  rw [hr] at h1
  obtain ⟨c,d,hx⟩:∃ c d,x.1=c::d:=by
   cases hx:x.1 with
   | nil=>exact (hne hx).elim
   | cons c d=>exact ⟨c,d,rfl⟩
  rw [hx] at h1 ⊢
  simpa [qO] using h1
 rw [qQM (by simp only []; omega) hall]
 simp only
 rw [if_neg (by intro e; rw [e] at hh; exact hh rfl)]
 have hlast:x.2=0∨qO x.1 (x.1.length-1)≠48:=hl.imp id fun h h2=>h ((uQ hpos).1 h2)
 simp [hh]
 exact hlast
theorem qLX (n:Nat):(wV n).all zA=true:=List.all_eq_true.2 fun b hb=>by rw [(List.mem_replicate.1 hb).2]; rfl
theorem qQD {neg:Bool} {digits:List UInt8} {sc:Int} (hd:digits.all zA=true) (h:(qBO neg digits sc).2=0):yX (qBO neg digits sc).1=true:=by
 unfold qBO at h ⊢
 split
 ·rename_i hs; rw [if_pos hs] at h; exact qCZ (by rw [List.all_append,hd,qLX]; rfl) h
 rename_i hs; rw [if_neg hs] at h; exact qCZ hd h
theorem qOD (s:List UInt8) (k:Nat):((s.take (k+zD s k)).drop k).all zA=true:=by
 have e:(s.take (k+zD s k)).drop k=(s.drop k).takeWhile fun b=>jN b.toNat:=by
  rw [List.drop_take,show k+zD s k-k=zD s k by omega]
  unfold zD
  have:∀ (l:List UInt8) (p:UInt8→Bool),l.take (l.takeWhile p).length=l.takeWhile p:=by
   intro l p
   induction l with
   | nil=>rfl
   | cons a l ih => rw [List.takeWhile_cons]; split
                    ·simp [ih]
                    rfl
  exact this _ _
 rw [e,List.all_eq_true]
 have:∀ (l:List UInt8) (p:UInt8→Bool) (b:UInt8),b∈l.takeWhile p→p b=true:=by
  intro l p b
  induction l with
  | nil=>intro h; simp at h
  | cons a l ih =>
   intro h
   rw [List.takeWhile_cons] at h
   split at h
   ·rename_i ha
    rcases List.mem_cons.1 h with rfl | h
    ·exact ha
    exact ih h
   simp at h
 exact fun b hb=>this _ _ b hb
theorem qGV {s:List UInt8} {neg:Bool} {digits:List UInt8} {scale:Nat} (hd:digits.all zA=true):∀ o,(vZ s neg digits scale o).2=0→yX (vZ s neg digits scale o).1=true
 | none,h=>by simp [vZ,xB] at h
 | some (k,up),h=>by
  simp only [vZ] at h ⊢
  split
  ·rename_i hk; rw [if_pos hk] at h; exact qQD hd h
  rename_i hk; rw [if_neg hk] at h; simp [xB] at h
theorem qNT {s:List UInt8} (h:(kP s).2=0):yX (kP s).1=true:=by
 unfold kP at h ⊢
 split
 ·rename_i hb; rw [if_pos hb] at h; simp [xB] at h
 rename_i hb
 rw [if_neg hb] at h
 have hd:=qOD s (a0M s)
 revert h
 generalize (s.take (a0M s+zD s (a0M s))).drop (a0M s)=d0 at *
 generalize a0M s+zD s (a0M s)=k
 intro h
 unfold qBJ at h ⊢
 split
 ·rename_i hp
  rw [if_pos hp] at h
  split
  ·rename_i hz; rw [if_pos hz] at h; simp [qJS,xB] at h
  rename_i hz
  rw [if_neg hz] at h
  exact qGV (by rw [List.all_append,hd,qOD]; rfl) _ h
 rename_i hp
 rw [if_neg hp] at h
 exact qGV hd _ h
theorem qJN (s:List UInt8):xJ (xK s)=true:=by
 have hl:=qGK s
 unfold xJ
 rw [qJO]
 have:jE (xK s)=true:=by
  unfold xK
  split
  ·assumption
  decide +kernel
 rw [this]; simp; omega
theorem qMA {n:Nat} (h:n≤4096) (hv:jE (jK n)=true):xJ (jK n)=true:=by
 unfold xJ; rw [qJO,hv]; simp [jK]; omega
theorem qMZ:∀ n,n≤9→jE (jK n)=true:=by decide +kernel
theorem qMP {l:List (List UInt8)} {i many:Nat} (hi:i≤l.length+many) (hm:many≤8):xJ (yP l i)=true:=by
 unfold yP
 split
 ·exact qJN _
 exact qMA (by omega) (qMZ _ (by omega))
theorem vB {l : List (List UInt8)} {many : Nat} (hm : many ≤ 8) : ∀ (f i : Nat) (out : List (List UInt8)), i + f = l.length + many + 1 → out.Nodup → (∀ s ∈ out, xJ s = true) → out.length ≤ many → (∀ t, 1 ≤ t → t + l.length ≤ i → jK t ∈ out) →
  (kG l many f i out).Nodup∧(∀ s∈kG l many f i out,xJ s=true)∧(kG l many f i out).length=many
 | 0,i,out,hf,_,_,h3,h4=>by
  have:=qOP (out:=out) (n:=many+1) fun t h1 h2=>h4 t h1 (by omega)
  omega
 | f+1,i,out,hf,h1,h2,h3,h4=>by
  simp only [kG]
  split
  ·rename_i hlt
   have hw:=qMP (l:=l) (i:=i) (many:=many) (by omega) hm
   have hk:∀ t,1≤t→t+l.length≤i+1→jK t∈qCW out (yP l i):=by
    intro t h5 h6
    by_cases h7:t+l.length≤i
    ·have:=h4 t h5 h7
     unfold qCW; split
     ·exact this
     simp [this]
    have:jK t=yP l i:=by simp only [yP]; rw [dif_neg (by omega)]; congr 1; omega
    rw [this]; unfold qCW; split
    ·assumption
    simp
   unfold qCW at hk ⊢
   split at hk
   ·rename_i hin
    rw [if_pos hin]
    exact vB hm f (i+1) out (by omega) h1 h2 h3 hk
   rename_i hin
   rw [if_neg hin]
   refine vB hm f (i+1) (out++[yP l i]) (by omega) ?_ (fun s hs => ?_) (by simp; omega) hk
   ·rw [List.nodup_append]
    exact ⟨h1,by simp,by intro a ha b hb; simp at hb; subst hb; rintro rfl; exact hin ha⟩
   rcases List.mem_append.1 hs with h | h
   ·exact h2 s h
   simp at h; rw [h]; exact hw
  exact ⟨h1,h2,by omega⟩
theorem qMQ {l:List (List UInt8)} {many:Nat} (hm:many≤8):qBP (uC l many)=true∧(uC l many).length=many:=by
 obtain ⟨h1,h2,h3⟩:=vB (l:=l) hm (l.length+many+1) 0 [] (by omega) List.nodup_nil (by simp) (by simp) (by intro t h1 h2; omega)
 exact ⟨by unfold qBP; simp only [Bool.and_eq_true,List.all_eq_true,decide_eq_true_eq]; exact ⟨h2,h1⟩,h3⟩
theorem qRU (s:List UInt8):yX (xG s)=true:=by
 unfold xG
 split
 ·rename_i h; exact qNT h
 decide +kernel
theorem qBQ (alone:List Val) (x:Item):(qT alone x).length≤8:=by
 have:=qBM x.many
 unfold qT qKW; split
 ·simp; omega
 simp
theorem qIR {alone:List Val} {x:Item} {k:Val} (h:k∈qT alone x):k∈alone:=by
 unfold qT at h; split at h
 ·exact List.mem_of_mem_drop h
 cases h
theorem qQE {alone:List Val} (x:Item) (ha:∀ v∈alone,kK v=true):kK (zE alone x)=true:=by
 have hk:=qBM x.kind
 have hn:=qMQ (l:=x.keys) (qBQ alone x)
 have hl:=qBQ alone x
 have hkid:¬ (zJ x.kind=5∨zJ x.kind=6)→qT alone x=[]:=fun h=>by unfold qT; rw [if_neg h]
 have hmem:=fun k (hk:k∈qT alone x)=>ha k (qIR hk)
 unfold zE
 generalize qT alone x=kids at *
 refine qMS ?_ ?_ ?_ ?_ ?_ ?_ ?_ ?_ ?_ ?_ <;> simp only [Val.kind_mk,Val.num_mk,Val.text_mk,Val.keys_mk,Val.kids_mk,Val.code_mk]
 ·omega
 ·by_cases h:zJ x.kind=7
  ·simp [h]
  simp [h]; omega
 ·intro h; rw [if_pos (by omega)]; exact qRU _
 ·intro h; rw [if_neg (by omega)]
 ·intro h; rw [if_pos (by omega)]; exact qJN _
 ·intro h; rw [if_neg (by omega)]
 ·intro h; rw [if_pos (by omega)]; exact ⟨hn.2,hn.1⟩
 ·intro h; rw [if_neg (by omega)]
 ·by_cases h:zJ x.kind=5∨zJ x.kind=6
  ·right; omega
  left; exact hkid h
 exact hmem
theorem qQS (l:List Item):kK (vN l)=true:=by
 have key:∀ (l:List Item) (alone:List Val),(∀ v∈alone,kK v=true)→∀ v∈l.foldl qAG alone,kK v=true:=by
  intro l
  induction l with
  | nil=>exact fun alone h=>h
  | cons x l ih =>
   intro alone h
   refine ih _ fun v hv => ?_
   unfold qAG at hv
   rcases List.mem_append.1 hv with hv | hv
   ·unfold qW at hv; split at hv
    ·exact h v (List.mem_of_mem_take hv)
    exact h v hv
   simp at hv; rw [hv]; exact qQE x h
 unfold vN
 rw [List.getLastD_eq_getLast?]
 cases hx:(qJE l).getLast? with
 | none=>decide +kernel
 | some v=>exact key _ [] (by simp) v (List.mem_of_getLast? hx)
theorem wJ (code m:Int):AFn Tryz.prog G 34 [.agg [.int .u64 m],.int .i64 code] ((zG code m).enc):=by
 refine AFn.introU tok Tryz.func34 (by kernel_rfl) rfl rfl ?_
 simp only [Tryz.f34,qN,List.map_cons,List.map_nil]
 have hf:=qRI (G:=G) code m
 simp only [Val.enc_def] at hf
 refine rgn [] [[],[1,2,4]] ?_
 iterate 2 refine op1 tok ?_
 refine qA (rgn [.nilp,(zG code m).enc] [[],[],[],[4,8],[4]] ?_)
 iterate 5 refine oq1 tok hf ?_
 exact qA (AW.ret qI)
theorem qSA (m:Int):AFn Tryz.prog G 129 [.agg [.int .u64 m]] ((qRW m).enc):=by
 refine AFn.introU tok Tryz.func129 (by kernel_rfl) rfl rfl ?_
 simp only [Tryz.f129,qN,List.map_cons,List.map_nil]
 have e:qRW m = .mk 1 m dc0 [] [] [] 0:=rfl
 rw [e]
 refine rgn [] [[],[1,2]] ?_
 iterate 2 refine op1 tok ?_
 refine qA (rgn [] [[],[],[],[2]] ?_)
 iterate 4 refine op1 tok ?_
 refine qA ?_
 exact AW.ret (qI (k:=by simp [dc0]))
theorem qGZ (x:Bool) (m:Int):AFn Tryz.prog G 35 [.agg [.int .u64 m],.bool x] ((vX x m).enc):=by
 refine AFn.introU tok Tryz.func35 (by kernel_rfl) rfl rfl ?_
 simp only [Tryz.f35,qN,List.map_cons,List.map_nil]
 have e:vX x m = .mk (if x=true then 3 else 2) m dc0 [] [] [] 0:=rfl
 rw [e]
 refine rgn [] [[],[1,2,4]] ?_
 iterate 2 refine op1 tok ?_
 refine qA (AW.seq (rgn [] [[2,4,5]] ?_))
 refine op1 tok ?_
 refine qA (cnd ?_ ?_)
 ·intro h5
  try simp at h5
  rw [if_pos h5]
  refine rgn [] [[],[],[],[4]] ?_
  iterate 4 refine op1 tok ?_
  refine qA ?_
  exact AW.ret (qI (k:=by simp [dc0]))
 intro h5
 try simp at h5
 rw [if_neg (by rw [h5]; simp)]
 refine AW.skip (rgn [] [[],[],[],[4]] ?_)
 iterate 4 refine op1 tok ?_
 refine qA ?_
 exact AW.ret (qI (k:=by simp [dc0]))
theorem uD (s:List UInt8) (m:Int):AFn Tryz.prog G 36 [.agg [.int .u64 m],.str s] ((wB s m).enc):=by
 refine AFn.introU tok Tryz.func36 (by kernel_rfl) rfl rfl ?_
 simp only [Tryz.f36,qN,List.map_cons,List.map_nil]
 have hf:=wJ (G:=G) 3 m
 have e:wB s m=if 4096<s.length then zG 3 m else .mk 5 m dc0 s [] [] 0:=rfl
 rw [e]
 simp only [Val.enc_def] at hf
 refine rgn [] [[],[1,2,4]] ?_
 iterate 2 refine op1 tok ?_
 refine qA (AW.seq (rgn [] [[],[],[1,2,4,7]] ?_))
 iterate 3 refine op1 tok ?_
 refine qA (cnd ?_ ?_)
 ·intro h7
  try simp at h7
  rw [if_pos (by omega)]
  refine rgn [.nilp,(zG 3 m).enc] [[],[],[4]] ?_
  iterate 3 refine oq1 tok hf ?_
  exact qA (AW.ret qI)
 intro h7
 try simp at h7
 rw [if_neg (by omega)]
 refine AW.skip (rgn [] [[],[],[],[4,13],[4]] ?_)
 iterate 5 refine op1 tok ?_
 refine qA ?_
 exact AW.ret (qI (k:=by simp [dc0]))
theorem vC (r:Dc × Int) (m:Int):AFn Tryz.prog G 41 [.agg [.int .u64 m],r.1.enc,.int .i64 r.2] ((qGD r m).enc):=by
 refine AFn.introU tok Tryz.func41 (by kernel_rfl) rfl rfl ?_
 simp only [Tryz.f41,qN,List.map_cons,List.map_nil]
 have hf:=wJ (G:=G) r.2 m
 have e:qGD r m=if r.2=0 then .mk 4 m r.1 [] [] [] 0 else zG r.2 m:=rfl
 rw [e]
 simp only [Val.enc_def] at hf
 refine rgn [] [[],[],[2,3,4,6]] ?_
 iterate 3 refine op1 tok ?_
 refine qA (AW.seq (rgn [] [[],[2,3,4,6,8]] ?_))
 iterate 2 refine op1 tok ?_
 refine qA (cnd ?_ ?_)
 ·intro h8
  try simp at h8
  rw [if_neg (by simpa using h8)]
  refine rgn [.nilp,(zG r.2 m).enc] [[],[],[6,11],[6]] ?_
  iterate 4 refine oq1 tok hf ?_
  exact qA (AW.ret qI)
 intro h8
 try simp at h8
 rw [if_pos (by simpa using h8)]
 refine AW.skip (rgn [] [[],[],[],[6,15],[6]] ?_)
 iterate 5 refine op1 tok ?_
 refine qA ?_
 exact AW.ret (qI (k:=by simp [dc0]))
theorem qEX (l:List Val) (m:Int) (hl:∀ v∈l,Few v) (hn:l.length≤1000000):AFn Tryz.prog G 40 [.agg [.int .u64 m],.sl 9 (l.map Val.enc)] ((kT l m).enc):=by
 refine AFn.introU tok Tryz.func40 (by kernel_rfl) rfl rfl ?_
 simp only [Tryz.f40,qN,List.map_cons,List.map_nil]
 have hf:=wJ (G:=G) 3 m
 have hc:=qQQ (G:=G) (.mk 6 m dc0 [] [] l 0) (.mk (by simp) (by simpa using hn) (by simpa using hl))
 have e:kT l m=if 200<l.length then zG 3 m else .mk 6 m dc0 [] [] l 0:=rfl
 rw [e]
 simp only [Val.enc_def] at hf hc
 refine rgn [] [[],[1,2,4]] ?_
 iterate 2 refine op1 tok ?_
 refine qA (AW.seq (rgn [] [[],[],[1,2,4,7]] ?_))
 iterate 3 refine op1 tok ?_
 refine qA (cnd ?_ ?_)
 ·intro h7
  try simp at h7
  rw [if_pos (by omega)]
  refine rgn [.nilp,(zG 3 m).enc] [[],[],[4]] ?_
  iterate 3 refine oq1 tok hf ?_
  exact qA (AW.ret qI)
 intro h7
 try simp at h7
 rw [if_neg (by omega)]
 refine AW.skip (rgn [.nilp,(Val.mk 6 m dc0 [] [] l 0).enc] [[],[],[],[4,13],[],[4]] ?_)
 iterate 6 refine op1 tok ?_ (hv:=by first | with_reducible exact True.intro | ((simp [dc0] at hc ⊢; exact hc); done) | omega | simp | (simp +contextual; omega))
 exact qA (AW.ret qI)
end Go.Proofs.YtgcbapchinideaaGreatDoor
namespace Go.Proofs.YtgcbapchinideaaGreatDoor.Sy
open Go
set_option linter.unusedSimpArgs false
set_option linter.unusedVariables false
section
variable {P:Program} {T:Tab} {G:qG} {st:St}
end
section
variable {P:Program} {T:Tab} {G:qG} {st:St}
end
section
variable {P:Program} {T:Tab} {G:qG} {Q:Exit→St→Prop} {st:St}
theorem RowOf.drop {M:qQ} {sz:Nat} {es:List PD} {news:List Value} (h:RowOf M sz es news) (n:Nat):RowOf M sz (es.drop n) (news.drop (n * sz)) where
 len:=by rw [List.length_drop,List.length_drop,h.len,Nat.sub_mul]
 one:=fun u hu=>h.one u (List.mem_of_mem_drop hu)
 elem:=fun i e he=>h.elem (n+i) e (by rwa [List.getElem?_drop] at he)
 get:=fun i e j d u he hd hu=>by
  rw [List.getElem?_drop] at he hu
  exact h.get (n+i) e j d u he hd (by rw [← hu]; congr 1; rw [Nat.add_mul]; omega)
end
section
variable {P:Program} {T:Tab} {G:qG} {l:List Oper} {tss:List (List Nat)} {K:vR→St→Prop} {st st' st0:St} {rest:List Oper} {ts:List Nat} {acc:vR} {o:Oper}
theorem zI.y (Hs H' : List (Nat × Box)) (x : V) (q : Bool) (hgd : o.guard = none) (y : qS P G o ⟨zN st.tmps ts, Hs.map (·.1), Hs, st.base⟩ x ⟨zN st.tmps ts, Hs.map (·.1), H', st.base⟩) (hq : q = true → H' = Hs) (hsub : ∀ p ∈ Hs, p ∈ st.H)
  (hids:∀ i∈V.ids x++yY H',i∈Hs.map (·.1)) (hn:ndB st.H=true) (hns:ndB Hs=true) (hst:st.after o.dst ⟨x,Hs,H',Hs.map (·.1),[],q⟩=st') (k:zI P G st0 rest tss st' (acc++[(Sm.mk x Hs H' (Hs.map (·.1)) [] q).sum]) K):zI P G st0 (o::rest) (ts::tss) st acc K:=by
 subst hst
 obtain ⟨sms,st1,e,hk⟩:=k
 have hgood:∀ i∈V.ids x++yY H',i∈Hs.map (·.1)∨i∈([]:List Nat):=fun i hi => .inl (hids i hi)
 have hky:∀ i,qE i H'=true→i∈Hs.map (·.1)∨i∈([]:List Nat):=fun i hi => .inl (hids i (List.mem_append.2 (.inr (jL hi))))
 refine ⟨⟨x,Hs,H',Hs.map (·.1),[],q⟩::sms,st1,.one hgd (zV hn) ⟨hq,hgood,hky,by simp⟩ hsub (fun c M μ st' tmps w R K hG rel hle hbox hnw k => ?_) e,by simpa using hk⟩
 exact xS (s:=⟨x,Hs,H',Hs.map (·.1),[],q⟩) (small:=⟨zN st.tmps ts,Hs.map (·.1),Hs,st.base⟩) (s':=⟨zN st.tmps ts,Hs.map (·.1),H',st.base⟩) rfl (zV hns) rfl (fun i hi=>hi) hky hgood y c M μ st' tmps w R K hG rel hle hbox hnw k
end
section
variable {P:Program} {T:Tab} {G:qG} {Q:Exit→St→Prop} {st:St}
end
section
variable {P:Program} {T:Tab} {G:qG} {l:List Oper} {tss:List (List Nat)} {K:vR→St→Prop} {st st' st0:St} {rest:List Oper} {ts:List Nat} {acc:vR} {o:Oper}
theorem zI.yNew (Hs H' : List (Nat × Box)) (x : V) (new : List Nat) (hgd : o.guard = none) (y : qS P G o ⟨zN st.tmps ts, Hs.map (·.1), Hs, st.base⟩ x ⟨zN st.tmps ts, Hs.map (·.1), H', st.base⟩) (hsub : ∀ p ∈ Hs, p ∈ st.H)
  (hids:∀ i∈V.ids x++yY H',i∈Hs.map (·.1)∨i∈new) (hnew:∀ n∈new,st0.fresh n=true) (hn:ndB st.H=true) (hns:ndB Hs=true) (hst:st.after o.dst ⟨x,Hs,H',Hs.map (·.1),new,false⟩=st') (k:zI P G st0 rest tss st' (acc++[(Sm.mk x Hs H' (Hs.map (·.1)) new false).sum]) K):zI P G st0 (o::rest) (ts::tss) st acc K:=by
 subst hst
 obtain ⟨sms,st1,e,hk⟩:=k
 have hky:∀ i,qE i H'=true→i∈Hs.map (·.1)∨i∈new:=fun i hi=>hids i (List.mem_append.2 (.inr (jL hi)))
 refine ⟨⟨x,Hs,H',Hs.map (·.1),new,false⟩::sms,st1,.one hgd (zV hn) ⟨fun h=>absurd h (by simp),hids,hky,hnew⟩ hsub (fun c M μ st' tmps w R K hG rel hle hbox hnw k => ?_) e,by simpa using hk⟩
 exact xS (s:=⟨x,Hs,H',Hs.map (·.1),new,false⟩) (small:=⟨zN st.tmps ts,Hs.map (·.1),Hs,st.base⟩) (s':=⟨zN st.tmps ts,Hs.map (·.1),H',st.base⟩) rfl (zV hns) rfl (fun i hi=>hi) hky hids y c M μ st' tmps w R K hG rel hle hbox hnw k
end
section
variable {P:Program} {T:Tab} {G:qG} {o:Oper} {st st1 st':St} {x:V}
theorem AX.ofFn {f:FuncId} {al:List PD} {r:PD} {xs:List V} (h:AFn P G f al r) (hfit:V.fitsL [] xs al):AX P G f xs [] (.p r) [] []:=by
 refine ⟨h.1,fun M μ w vs hg rel => ?_⟩
 have hl:=V.fitsL_len hfit
 have hs:vs.size=al.length:=by have:=rel.slots.1; simp only at this; omega
 refine (h.2 M w vs hg rel.mem hs fun i u d hu hd => ?_).mono ?_
 ·have hi:i<xs.length:=by have:=(List.getElem?_eq_some_iff.1 hd).1; omega
  exact yV (rel.slots.2 i u _ hu (List.getElem?_eq_getElem hi)) (V.fitsL_get hfit (List.getElem?_eq_getElem hi) hd)
 rintro e w' ⟨v,M',rfl,hv,hmem,hM,hold,hbel⟩
 have r2:=rel.grows (Grows.of_below hbel) hM hmem hold
 refine ⟨v,M',μ,rfl,{ r2 with slots:=⟨by simp,fun i u y hu hy => ?_⟩ }⟩
 match i with
 | 0=>simp at hu hy; subst hu; subst hy; exact .p hv
 | i+1=>simp at hy
theorem AFn.of_AX {f:FuncId} {args:List PD} {k e sz:Nat} {es:List PD} (h:AX P G f (args.map .p) [] (.ms k) [] [(k,.row e sz es)]):AFn P G f args (.sl sz es):=by
 refine ⟨h.1,fun M w vs hg hmem hsz hrd=>(h.2 M (fun _=>default) w vs hg (Rel.plain _ hmem hsz hrd)).mono ?_⟩
 rintro e' w' ⟨v,M',μ',rfl,r1⟩
 obtain ⟨M2,r'⟩:=r1.freeze k
 have hno:∀ b, ¬ wF (fun _=>(default:Loc)) [] b:=fun b ⟨i,hi,_⟩=>by simp [qE] at hi
 have hv:=r'.slots.2 0 v (.p (.sl sz es)) (by simp) (by simp)
 cases hv with
 | p hv=>exact ⟨v,M2,rfl,hv,r'.mem,r'.ext,fun b o hb=>r'.old b o fun hm=>hm.elim (fun h=>by simp at h; omega) (hno b),⟨r'.below.os,r'.below.tape,r'.below.output,r'.below.size,fun j hj=>r'.below.block j fun hm=>hm.elim (fun h=>by simp at h; omega) (hno j)⟩⟩
theorem qS.freeze (id:Nat) (h:st.freeze id=st1) (y:qS P G o st1 x st'):qS P G o st x st':=fun c M μ tmps w hg rel=>by
 subst h
 obtain ⟨M1,r1⟩:=rel.freeze id
 exact y c M1 μ tmps w hg r1
theorem qS.plain {id e sz:Nat} {es:List PD} (y:qS P G o st (.ms id) { st with H:=(id,.row e sz es)::st.H }):qS P G o st (.p (.sl sz es)) st:=fun c M μ tmps w hg rel=>by
 have h:=y c M μ tmps w hg rel
 revert h
 generalize (execOp (Act.eval ⟨tmps,[]⟩) o).run P w=r0
 have key:∀ u w',(∃ M' μ',Rel c M' μ' { st with H:=(id,.row e sz es)::st.H } tmps w'∧RV M' μ' u (.ms id))→∃ M' μ',Rel c M' μ' st tmps w'∧RV M' μ' u (.p (.sl sz es)):=by
  rintro u w' ⟨M1,μ1,r,hu⟩
  have hm:(id,Box.row e sz es)∈({ st with H:=(id,.row e sz es)::st.H }:St).H:=List.mem_cons_self
  have hk:qE id ({ st with H:=(id,.row e sz es)::st.H }:St).H=true:=qC.2 ⟨_,hm⟩
  have hid:∀ i,qE i st.H=true→i≠id:=fun i hi he=>by
   subst he
   obtain ⟨b,hb⟩:=qC.1 hi
   have:=r.nodup
   simp only [List.map_cons,List.nodup_cons] at this
   exact this.1 (List.mem_map.2 ⟨_,hb,rfl⟩)
  have hup:∀ i,qE i st.H=true→qE i ({ st with H:=(id,.row e sz es)::st.H }:St).H=true:=fun i hi=>by
   obtain ⟨b,hb⟩:=qC.1 hi
   exact qC.2 ⟨b,List.mem_cons_of_mem _ hb⟩
  let M2:qQ:=fun b o=>if (μ1 id).blk=some b then w'.cell? ⟨b,o,none⟩ else M1 b o
  have e1:∀ b o,(μ1 id).blk=some b→M2 b o=w'.cell? ⟨b,o,none⟩:=fun b o h=>if_pos h
  have e2:∀ b o,(μ1 id).blk≠some b→M2 b o=M1 b o:=fun b o h=>if_neg h
  have hM:∀ b o v,M1 b o=some v→M2 b o=some v:=by
   intro b o v hv
   by_cases h:(μ1 id).blk=some b
   ·rw [e1 b o h]; exact r.mem b o v hv
   rw [e2 b o h]; exact hv
  have hd:Rd M2 (μ1 id).val (.sl sz es):=uX (r.box id _ hm) hM fun b h o v hv=>by rw [e1 b o h]; exact hv
  refine ⟨M2,μ1,⟨?_,fun b o v hv=>hM _ _ _ (r.ext b o v hv),fun b o hb => ?_,⟨r.slots.1,fun i u x hu hx=>(r.slots.2 i u x hu hx).mono hM fun _ _=>rfl⟩,r.pins,fun i bx hi=>(r.box i bx (List.mem_cons_of_mem _ hi)).mono hM rfl (fun _ _=>rfl) (fun _ _=>rfl), ?_,fun i j b hi hj=>r.inj i j b (hup i hi) (hup j hj),fun i b hi hib => ?_,r.size,r.below⟩, ?_⟩
  ·intro b o v hv
   by_cases h:(μ1 id).blk=some b
   ·rw [e1 b o h] at hv; exact hv
   rw [e2 b o h] at hv; exact r.mem b o v hv
  ·rw [e2 b o fun h=>hb (r.own id b hk h).1]; exact r.old b o hb
  ·have:=r.nodup
   simp only [List.map_cons,List.nodup_cons] at this
   exact this.2
  ·have h3:=r.own i b (hup i hi) hib
   exact ⟨h3.1,h3.2.1,fun o=>by rw [e2 b o fun h=>hid i hi (r.inj i id b (hup i hi) hk hib h)]; exact h3.2.2 o⟩
  cases hu with
  | ms h1 h2=>exact .p (h1 ▸ hd)
 intro h
 cases r0 with
 | halt x w'=>exact h.elim
 | ok n w' =>
  cases n <;> simp only [qNU] at h ⊢
  case value v=>exact key _ _ h
  case skip=>exact key _ _ h
  case enter f args =>
   refine h.mono ?_
   rintro e w'' ⟨v,rfl,hn⟩
   exact ⟨v,rfl,key _ _ hn⟩
end
section
variable {P:Program} {T:Tab} {G:qG} {l:List Oper} {tss:List (List Nat)} {K:vR→St→Prop} {st st' st0:St} {rest:List Oper} {ts:List Nat} {acc:vR} {o:Oper}
theorem zI.plainRow (hT : TOK P T) (orc : List PD) {t el : TypeId} {n : Nat} {parts : Array (Nat × Operand)} (ho : o.op = .buildSlice t n parts) (hgd : o.guard = none) (hl : parts.toList.length = n) (ht : zK T t = some (.sl el)) {ti : TI} (hti : T el = some ti)
  {zs:List V} (hzs:ti.zero.cells=some zs) (hzl:zs.length=ti.size) {orc' es:List PD} {q:Prop} (hpt:kS ⟨zN st.tmps ts,[],[],st.base⟩ G ti.size 0 parts.toList orc=some (q,es,orc')) (hq:q) (hb:n * ti.size≤16777216)
  (hn2:n≤16777216) (id:Nat) (hf:(⟨zN st.tmps ts,[],[],st.base⟩:St).fresh id=true) (hn:ndB st.H=true) (hst:st.after o.dst ⟨.p (.sl ti.size es),[],[],[],[],false⟩=st')
  (k:zI P G st0 rest tss st' (acc++[(Sm.mk (.p (.sl ti.size es)) [] [] [] [] false).sum]) K):zI P G st0 (o::rest) (ts::tss) st acc K :=
 zI.yNew [] [] (.p (.sl ti.size es)) [] hgd (qS.plain (qAZ hT ho hl ht hti hzs hzl hpt hq hb hn2 id hf)) (fun _ h=>by cases h) (fun i hi=>by simp [V.ids,yY] at hi) (fun _ h=>by cases h) hn (by decide) hst k
end
section
variable {P:Program} {T:Tab} {G:qG} {Q:Exit→St→Prop}
def qVV (s s':St):Prop:=∀ c M μ tmps w,Rel c M μ s tmps w→Rel c M μ s' tmps w
theorem qVV.of {s s':St} (h:St.Le s s'):qVV s s':=fun _ _ _ _ _ r=>r.weaken h
variable {st:St}
end
set_option maxHeartbeats 4000000
section
variable {P:Program} {T:Tab} {G:qG} {Q:Exit→St→Prop}
theorem qUD (hT:TOK P T) {st:St} {o:Oper} {orc orc':List PD} {v:Prop} {x:V} (h:qEU T G st o.op orc=some (v,x,orc')) (hv:v):qS P G o st x st:=by
 intro c M μ tmps w hg r
 obtain ⟨u,e,hu⟩:=qDI hT hg r h hv
 rw [e]
 exact ⟨M,μ,r,hu⟩
def dd (b:Bool) (v:V):V:=if b=true then v else .dead
@[simp] theorem qZL (v:V):dd true v=v:=rfl
@[simp] theorem qZG (v:V):dd false v = .dead:=rfl
end
section
variable {P:Program} {T:Tab} {G:qG} {st:St}
end
section
variable {P:Program} {G:qG} {st st' st0:St} {rest:List Oper} {ts:List Nat} {tss:List (List Nat)} {acc:vR} {o:Oper} {K:vR→St→Prop}
theorem zI.q (ids : List Nat) (x : V) (hgd : o.guard = none) (y : qS P G o ⟨zN st.tmps ts, ids, [], st.base⟩ x ⟨zN st.tmps ts, ids, [], st.base⟩) (hids : ∀ i ∈ V.ids x, i ∈ ids) (hn : ndB st.H = true)
  (hst:st.after o.dst ⟨x,[],[],ids,[],true⟩=st') (k:zI P G st0 rest tss st' (acc++[(Sm.mk x [] [] ids [] true).sum]) K):zI P G st0 (o::rest) (ts::tss) st acc K:=by
 subst hst
 obtain ⟨sms,st1,e,hk⟩:=k
 have hgood:∀ i∈V.ids x++yY ([]:List (Nat × Box)),i∈ids∨i∈([]:List Nat):=fun i hi => .inl (hids i (by simpa [yY] using hi))
 refine ⟨⟨x,[],[],ids,[],true⟩::sms,st1,.one hgd (zV hn) ⟨fun _=>rfl,hgood,fun i hi=>by simp [qE] at hi,by simp⟩ (by simp) (fun c M μ st' tmps w R K hG rel hle hbox hnw k => ?_) e,by simpa using hk⟩
 exact xS (s:=⟨x,[],[],ids,[],true⟩) (small:=⟨zN st.tmps ts,ids,[],st.base⟩) (s':=⟨zN st.tmps ts,ids,[],st.base⟩) rfl (by simp) rfl (fun i hi=>hi) (fun i hi=>by simp [qE] at hi) hgood y c M μ st' tmps w R K hG rel hle hbox hnw k
end
section
variable {P:Program} {G:qG} {Q:Exit→St→Prop} {st:St}
end
end Go.Proofs.YtgcbapchinideaaGreatDoor.Sy
namespace Go.Proofs.YtgcbapchinideaaGreatDoor
open Sy Go
set_option maxRecDepth 100000
set_option maxHeartbeats 4000000
set_option linter.unusedSimpArgs false
set_option linter.unusedVariables false
variable {G:qG}
theorem qLC (s:List UInt8) (m:Int):Few (wB s m):=by
 unfold wB zG
 split <;> exact .mk (by simp) (by simp) (by simp)
theorem qUI (s:List UInt8):AX Tryz.prog G 36 [.agg [.p (.int .u64 0)],.p (.str s)] [] (.p (wB s 0).enc) [] [] :=
 AX.ofFn (uD s 0) (by simp [V.fitsL,V.fits])
theorem qOV (ws:List (List UInt8)) (m:Int) (hn:ws.length≤1000000):AX Tryz.prog G 66 [.p (.agg [.int .u64 m]),.p (.sl 1 (ws.map PD.str)),.func (.func 36) [.agg [.p (.int .u64 0)]] []] [] (.agg (kT (ws.map fun s=>wB s 0) m).cells) [] []:=by
 refine AX.introU tok 900 Tryz.func66 (by kernel_rfl) rfl rfl ?_
 simp only [Tryz.f66,qN,List.map_cons,List.map_nil]
 have hl:=qEX (G:=G) (ws.map fun s=>wB s 0) m (by simp [qLC]) (by simpa using hn)
 generalize hws:(ws.map fun s=>wB s 0)=vs at *
 have hvl:vs.length=ws.length:=by rw [← hws]; simp
 have hvg:∀ (k:Nat) s,ws[k]?=some s→vs[k]?=some (wB s 0):=fun k s h=>by rw [← hws,List.getElem?_map,h]; rfl
 simp only [Val.enc_def] at hl
 refine rgn [] [[],[1,2,3,6]] ?_
 iterate 2 refine op1 tok ?_
 refine qA (rgn [] [[]] ?_)
 refine op1 tok ?_
 refine qA (AW.seq (rgn [] [[],[],[2,3,6,7,10,11,12]] ?_))
 iterate 3 refine op1 tok ?_
 refine qA (AW.block ?_)
 refine AW.beginE 7 50 31 9 (by simp) (by simp) (by conv=>lhs; simp) ?_
 refine AW.loop (α:=Nat) (fun k=>k≤ws.length) (fun k=>⟨qV 26 [(2,.func (.func 36) [.agg [.p (.int .u64 0)]] []),(3,.ptr 903 0),(6,.ptr 906 0),(7,.ms 50),(10,.p (.sl 1 (ws.map PD.str))),(11,.p (.int .i64 ws.length)),(12,.p (.int .i64 k))],[],[(903,.vars 61 [.p (.int .u64 m)]),(906,.vars 31 [.p (.int .i64 0),.p (.int .u64 0),.p (.bool false),.p (.str []),.p (.int .i64 0),.p (.str []),.nilsl,.nilsl,.p (.int .i64 0)]),(50,.row 31 9 ((vs.map Val.enc).take k))],900⟩) (fun k=>ws.length-k) (0) (by omega) ⟨qD (by simp),rfl,by simp,by simp⟩ ?_
 rintro k hk
 refine rgn [] [[]] ?_
 refine op1 tok ?_
 refine qA (AW.seq (cnd ?_ ?_))
 ·intro h13
  try simp at h13
  obtain ⟨s,hs⟩:∃ s,ws[k]?=some s:=⟨ws[k]'(by omega),by simp [show k<ws.length by omega]⟩
  have hv:=hvg k s hs
  have hgp:(vs.map Val.enc)[k]?=some (wB s 0).enc:=by rw [List.getElem?_map,hv]; rfl
  have htk:(vs.map Val.enc).take k++[(wB s 0).enc]=(vs.map Val.enc).take (k+1):=by rw [List.take_add_one,hgp]; rfl
  have hw:=qUI (G:=G) s
  simp only [Val.enc_def] at htk hw
  refine AW.skip (AW.seq (AW.block (rgn [.str s] [[],[],[2,3,6,7,9,10,11,12]] ?_)))
  iterate 3 refine op1 tok ?_ (hv:=by first | with_reducible exact True.intro | ((simp [hs]); done) | omega | simp | (simp +contextual; omega))
  refine qA (rgz [(wB s 0).enc] [[],[],[]] ?_)
  iterate 3 refine op1 tok ?_
  refine kD ?_
  refine qH.stepK [2,3,6,10,11,12,16,19] (qPE rfl hw (by simp)) (by conv=>lhs; simp) rfl ?_
  refine qH.run [[],[],[2,3,6,7,10,11,12]] ?_
  iterate 3 refine op1 tok ?_
  refine qA (rgz [] [[],[2,3,6,7,10,11,12]] ?_)
  iterate 2 refine op1 tok ?_
  refine qA ?_
  exact ⟨k+1,by omega,by omega,qD (by simp [htk]),rfl,by simp [htk],by simp [htk]⟩
 intro h13
 try simp at h13
 obtain rfl:k=ws.length:=by omega
 have hall:(vs.map Val.enc).take ws.length=vs.map Val.enc:=List.take_of_length_le (by simp [hvl])
 simp only [hall]
 refine AW.exit ?_
 simp
 refine rgn [.nilp,(kT vs m).enc] [[]] ?_
 refine op1 tok ?_ (hv:=by first | with_reducible exact True.intro | (first | exact hl | (simp at hl ⊢; exact hl); done) | omega | simp | (simp +contextual; omega))
 refine kD ?_
 refine qH.freeze 50 (by conv=>lhs; simp) ?_
 refine qH.run [[],[6,25],[6]] ?_
 iterate 3 refine op1 tok ?_ (hv:=by first | with_reducible exact True.intro | (first | exact hl | (simp at hl ⊢; exact hl); done) | omega | simp | (simp +contextual; omega))
 refine qA ?_
 exact AW.ret qDP
theorem qZF:qPB Tryz.prog 226 Extern.BytealgIndexByte.indexByte:=fun args w=>run_callFunc_extern Tryz.func226 (by kernel_rfl) (by kernel_rfl) (by kernel_rfl) (by kernel_rfl) args w
@[simp] theorem qFX (s:List UInt8) (n:Int):AFn Tryz.prog G 198 [.str s,.int .u8 n] (.int .i64 (Lib.indexByte s n.toNat.toUInt8)):=by
 refine AFn.intro tok Tryz.func198 (by kernel_rfl) rfl ?_
 simp only [Tryz.f198,St.start]
 refine AW.seqRun tok [] (by intro C; conv=>lhs; simp) trivial ?_
 refine AW.seqRunX tok 2 [] [] rfl rfl (by intro C; conv=>lhs; simp) trivial (qJL (s:=s) (n:=n) (p:=True) (q:=True) (r:=True) qZF rfl (by simp) trivial (by simp) trivial (by simp) trivial) (by intro C; conv=>lhs; simp) trivial ?_
 exact AW.ret ⟨.inr rfl,_,_,by (conv=>lhs; simp),trivial,by simp⟩
@[simp] theorem qVL (s:List UInt8) (n:Int):AFn Tryz.prog G 155 [.str s,.int .u8 n] (.int .i64 (Lib.indexByte s n.toNat.toUInt8)):=by
 refine AFn.intro tok Tryz.func155 (by kernel_rfl) rfl ?_
 simp only [Tryz.f155,St.start]
 refine AW.seqRun tok [] (by intro C; conv=>lhs; simp) trivial ?_
 refine AW.seqRun tok [.tup [.str s,.int .u8 n],.int .i64 (Lib.indexByte s n.toNat.toUInt8)] (by intro C; conv=>lhs; simp) (by simp) ?_
 exact AW.ret ⟨.inr rfl,_,_,by (conv=>lhs; simp),trivial,by simp⟩
theorem qST {s:List UInt8} {k:Nat} (h:k<s.length):s[k]?=some (s.getD k 0):=by simp [List.getD_eq_getElem?_getD,h]
theorem qDS (s:List UInt8) (c:UInt8):AFn Tryz.prog G 173 [.str s,.int .u8 c.toNat] (.str (s.dropWhile (fun b=>b == c))):=by
 refine AFn.introU tok Tryz.func173 (by kernel_rfl) rfl rfl ?_
 simp only [Tryz.f173,qN,List.map_cons,List.map_nil]
 refine rgn [] [[0,1]] ?_
 refine op1 tok ?_
 refine qA (AW.seq (AW.block ?_))
 refine AW.loop (α:=List UInt8) (fun r=>r.dropWhile (fun b=>b == c)=s.dropWhile (fun b=>b == c)) (fun r=>⟨qV 17 [(0,.p (.str r)),(1,.p (.int .u8 c.toNat))],[],[],0⟩) (fun r=>r.length) (s) rfl ⟨qD (by simp),rfl,by simp,by simp⟩ ?_
 rintro r hr
 have hix:0<r.length→r[0]?=some (r.getD 0 0):=fun h=>qST h
 refine AW.seq (rgn [.int .u8 (r.getD 0 0).toNat] [[],[],[],[],[],[0,1,8,10],[],[],[0,1,13]] ?_)
 iterate 4 refine op1 tok ?_ (hv:=by first | with_reducible exact True.intro | (first | exact fun h=>⟨h,_,hix (by omega),rfl⟩ | simp; done) | omega | simp | (simp +contextual; omega))
 iterate 4 refine op2 tok ?_ (hv:=by first | with_reducible exact True.intro | (first | exact fun h=>⟨h,_,hix (by omega),rfl⟩ | simp; done) | omega | simp | (simp +contextual; omega))
 refine op1 tok ?_ (hv:=by first | with_reducible exact True.intro | (first | exact fun h=>⟨h,_,hix (by omega),rfl⟩ | simp; done) | omega | simp | (simp +contextual; omega))
 refine qA (cnd ?_ ?_)
 ·intro h13
  try simp at h13
  obtain ⟨b,r,rfl⟩:∃ b r',r=b::r':=by
   cases r with
   | nil=>simp at h13
   | cons b r=>exact ⟨b,r,rfl⟩
  have hb:b=c:=UInt8.toNat_inj.1 (by have:=h13.2; simp at this; omega)
  subst hb
  have hr2:List.dropWhile (fun b'=>b' == b) r=List.dropWhile (fun b'=>b' == b) s:=by rw [← hr]; simp
  refine AW.skip (AW.block (rgz [] [[],[],[0,1]] ?_))
  iterate 3 refine op1 tok ?_
  refine qA ?_
  exact ⟨r,hr2,by simp,qD (by simp),rfl,by simp,by simp⟩
 intro h13
 try simp at h13
 have hr3:s.dropWhile (fun b=>b == c)=r:=by
  rw [← hr]
  cases r with
  | nil=>rfl
  | cons b r =>
   have hb:b≠c:=by rintro rfl; simp at h13
   simp [hb]
 rw [hr3]
 refine AW.exit ?_
 simp
 refine rgn [] [[],[4]] ?_
 iterate 2 refine op1 tok ?_
 exact qA (AW.ret qI)
theorem qJV (s:List UInt8) (c:UInt8):(decide (1≤(s.length:Int)) && decide (List.drop (s.length-1) s=[c]))=decide (s.getLast?=some c):=by
 by_cases h:s=[]
 ·subst h; simp
 obtain ⟨a,b,rfl⟩:∃ a b,s=a++[b]:=⟨s.dropLast,s.getLast h,(List.dropLast_concat_getLast h).symm⟩
 rw [Bool.eq_iff_iff]
 simp
 intro _; omega
theorem qFY (s:List UInt8) (c:UInt8):AFn Tryz.prog G 104 [.str s,.str [c]] (.bool (decide (s.getLast?=some c))):=by
 refine AFn.introU tok Tryz.func104 (by kernel_rfl) rfl rfl ?_
 simp only [Tryz.f104,qN,List.map_cons,List.map_nil]
 refine AW.strFactU (i:=0) rfl (by decide) ?_
 intro hlen
 have hsuf:(decide (1≤(s.length:Int)) && decide (List.drop (s.length-1) s=[c]))=decide (s.getLast?=some c):=qJV s c
 refine rgn [] [[0,1]] ?_
 refine op1 tok ?_
 refine qA (rgn [] [[],[],[],[],[0,1,9],[],[],[],[],[],[1,10,11,13,15],[],[1,10,17],[],[],[20],[4]] ?_)
 iterate 6 refine op1 tok ?_
 iterate 9 refine op2 tok ?_
 iterate 2 refine op1 tok ?_
 refine qA ?_
 exact AW.ret (qI (k:=by simp [hsuf]))
theorem qJJ (s:List UInt8) (c:UInt8):AFn Tryz.prog G 73 [.str s,.str [c]] (.bool (decide (s.getLast?=some c))):=by
 refine AFn.introU tok Tryz.func73 (by kernel_rfl) rfl rfl ?_
 simp only [Tryz.f73,qN,List.map_cons,List.map_nil]
 refine rgn [] [[0,1]] ?_
 refine op1 tok ?_
 refine qA (rgn [.nilp,.bool (decide (s.getLast?=some c))] [[],[],[7],[4]] ?_)
 iterate 4 refine op1 tok ?_ (hv:=by first | with_reducible exact True.intro | (exact qFY s c; done) | omega | simp | (simp +contextual; omega))
 exact qA (AW.ret qI)
theorem qJI (s:List UInt8) (c:UInt8) (hc:c.toNat<128):AFn Tryz.prog G 136 [.str s,.str [c]] (.str (s.dropWhile (fun b=>b == c))):=by
 refine AFn.introU tok Tryz.func136 (by kernel_rfl) rfl rfl ?_
 simp only [Tryz.f136,qN,List.map_cons,List.map_nil]
 refine rgn [] [[0,1]] ?_
 refine op1 tok ?_
 refine qA (AW.seq (rgn [] [[],[],[],[],[],[0,1,12]] ?_))
 iterate 3 refine op1 tok ?_
 iterate 2 refine op2 tok ?_
 refine op1 tok ?_
 refine qA (cnd ?_ ?_)
 ·intro h12
  try simp at h12
  subst h12
  refine rgn [] [[],[4]] ?_
  iterate 2 refine op1 tok ?_
  exact qA (AW.ret qI)
 intro h12
 try simp at h12
 refine AW.skip (AW.seq (rgn [.int .u8 c.toNat] [[],[],[],[],[],[0,1,17,19],[],[0,1,21]] ?_))
 iterate 4 refine op1 tok ?_ (hv:=by first | with_reducible exact True.intro | (simp; done) | omega | simp | (simp +contextual; omega))
 iterate 3 refine op2 tok ?_ (hv:=by first | with_reducible exact True.intro | (simp; done) | omega | simp | (simp +contextual; omega))
 refine op1 tok ?_ (hv:=by first | with_reducible exact True.intro | (simp; done) | omega | simp | (simp +contextual; omega))
 refine qA (cnd ?_ ?_)
 ·intro h21
  try simp at h21
  refine rgn [.int .u8 c.toNat,.nilp,.str (s.dropWhile (fun b=>b == c))] [[],[],[],[25],[4]] ?_
  iterate 5 refine op1 tok ?_ (hv:=by first | with_reducible exact True.intro | (first | exact qDS s c | simp; done) | omega | simp | (simp +contextual; omega))
  exact qA (AW.ret qI)
 intro h21
 try simp at h21
 omega
theorem qVA (s:List UInt8):(qP s).length≤s.length:=(List.dropWhile_sublist _).length_le
theorem qOK (neg:Bool) (digits:List UInt8) (scale:Nat) (hd:digits.length≤10000000000) (hs:scale≤10000000000):AFn Tryz.prog G 95 [.bool neg,.str digits,.int .i64 scale] (.tup [(wM neg digits scale).1.enc,.int .i64 (wM neg digits scale).2]):=by
 refine AFn.introU tok Tryz.func95 (by kernel_rfl) rfl rfl ?_
 simp only [Tryz.f95,qN,List.map_cons,List.map_nil]
 have hstr:(qP digits).length≤digits.length:=qVA digits
 refine rgn [] [[],[0,1,2,6]] ?_
 iterate 2 refine op1 tok ?_
 refine qA (rgn [.nilp,.str (qP digits)] [[],[],[0,1,2,6]] ?_)
 iterate 3 refine op1 tok ?_ (hv:=by first | with_reducible exact True.intro | (exact qJI digits 48 (by decide); done) | omega | simp | (simp +contextual; omega))
 refine qA (AW.seq (AW.block ?_))
 refine AW.loop (α:=List UInt8 × Nat) (fun a=>wC (qP digits) scale=wC a.1 a.2∧a.2≤scale∧a.1.length≤digits.length) (fun a=>⟨qV 40 [(0,.p (.bool neg)),(1,.p (.str a.1)),(2,.p (.int .i64 a.2)),(6,.ptr 6 0)],[],[(6,.vars 26 [.p (.bool false),.p (.str []),.p (.int .i64 0)])],0⟩) (fun a=>a.2) ((qP digits,scale)) ⟨rfl,Nat.le_refl _,hstr⟩ ⟨qD (by simp),rfl,by simp,by simp⟩ ?_
 rintro ⟨d,k⟩ ⟨ht,hk,hdl⟩
 simp only at ht hk hdl
 have hsf:=qJJ (G:=G) d 48
 refine AW.seq (rgn [.nilp,.bool (decide (d.getLast?=some 48))] [[],[],[],[],[],[0,1,2,6,15]] ?_)
 iterate 3 refine op1 tok ?_ (hv:=by first | with_reducible exact True.intro | (first | exact fun h=>⟨h,hsf⟩ | simp; done) | omega | simp | (simp +contextual; omega))
 iterate 2 refine op2 tok ?_ (hv:=by first | with_reducible exact True.intro | (first | exact fun h=>⟨h,hsf⟩ | simp; done) | omega | simp | (simp +contextual; omega))
 refine op1 tok ?_ (hv:=by first | with_reducible exact True.intro | (first | exact fun h=>⟨h,hsf⟩ | simp; done) | omega | simp | (simp +contextual; omega))
 refine qA (cnd ?_ ?_)
 ·intro h15
  try simp at h15
  obtain ⟨k,rfl⟩:∃ k',k=k'+1:=⟨k-1,by omega⟩
  have hl:d.getLast?=some 48:=by simpa using h15.2
  have hpos:0<d.length:=by cases d with
   | nil=>simp at hl
   | cons=>simp
  have ht':wC (qP digits) scale=wC d.dropLast k:=by rw [ht]; simp only [wC]; rw [if_pos hl]
  refine AW.skip (AW.block (rgz [] [[],[],[],[],[0,2,6,20],[],[],[],[0,1,2,6]] ?_))
  iterate 9 refine op1 tok ?_ (hv:=by first | with_reducible exact True.intro | (omega; done) | omega | simp | (simp +contextual; omega))
  refine qA ?_
  exact ⟨(d.dropLast,k),⟨ht',by simp only []; omega,by simp; omega⟩,by simp,qD (by simp [jC]),rfl,by simp [jC],by simp [jC]⟩
 intro h15
 try simp at h15
 have htl:wC (qP digits) scale=(d,k):=by
  rw [ht]
  cases k with
  | zero=>rfl
  | succ k =>
   simp only [wC]
   rw [if_neg]
   intro hl
   have:=h15 (by omega)
   simp [hl] at this
 have hN:wM neg digits scale=if d=[] then (⟨false,[48],0⟩,0) else if 60<d.length∨60<k then (⟨false,[],0⟩,3) else (⟨neg,d,k⟩,0):=by unfold wM; simp only [htl]
 rw [hN]
 refine AW.exit ?_
 simp
 refine AW.seq (AW.block (rgn [] [[],[],[0,1,2,6,23]] ?_))
 iterate 3 refine op1 tok ?_
 refine qA (cnd ?_ ?_)
 ·intro h23
  try simp at h23
  subst h23
  refine rgn [] [[],[],[6,7]] ?_
  iterate 3 refine op1 tok ?_
  exact qA (AW.ret qI)
 intro h23
 try simp at h23
 rw [if_neg h23]
 refine rgn [] [[],[],[],[],[],[0,1,2,6,31,33],[],[0,1,2,6,27]] ?_
 iterate 4 refine op1 tok ?_
 iterate 2 refine op2 tok ?_
 iterate 2 refine op1 tok ?_
 refine qA (cnd ?_ ?_)
 ·intro h27
  try simp at h27
  rw [if_pos (by omega)]
  refine rgn [] [[],[],[6,7]] ?_
  iterate 3 refine op1 tok ?_
  exact qA (AW.ret qI)
 intro h27
 try simp at h27
 rw [if_neg (by omega)]
 refine AW.skip (rgn [] [[],[],[],[6,39],[],[6,7]] ?_)
 iterate 6 refine op1 tok ?_
 exact qA (AW.ret qI)
theorem qUO (l:List UInt8) (hl:l.length≤1000000):AX Tryz.prog G 94 [.ms 90] [(90,.row 5 1 (qY l))] (.tuple []) [90] [(90,.row 5 1 (qY l.reverse))]:=by
 refine AX.introU tok 700 Tryz.func94 (by kernel_rfl) rfl rfl ?_
 simp only [Tryz.f94,qN,List.map_cons,List.map_nil]
 refine rgn [] [[],[],[],[],[0,2,3]] ?_
 iterate 5 refine op1 tok ?_
 refine qA (AW.block ?_)
 refine AW.loop (α:=Nat) (fun k=>k≤l.length) (fun k=>⟨qV 28 [(0,.ms 90),(2,.p (.int .i64 k)),(3,.p (.int .i64 ((l.length:Int)-1-k)))],[90],[(90,.row 5 1 (qY (qGA l k)))],700⟩) (fun k=>l.length-k) (0) (by omega) ⟨qD (by simp),rfl,by simp [qPS],by simp⟩ ?_
 rintro k hk
 have hlen:=xO l k
 refine AW.seq (rgn [] [[],[],[0,2,3,9]] ?_)
 iterate 3 refine op1 tok ?_
 refine qA (cnd ?_ ?_)
 ·intro h9
  try simp at h9
  have h2:2 * k+1<l.length:=by omega
  have g1:=xP l k (i:=k) (by omega)
  have g2:=xP l k (i:=l.length-1-k) (by omega)
  rw [if_neg (by omega)] at g1 g2
  have hst:=qPT l h2
  generalize l.getD k 0=x at *
  generalize l.getD (l.length-1-k) 0=y at *
  generalize qGA l k=R at *
  have hix:((l.length:Int)-1-k).toNat=l.length-1-k:=by omega
  have b1:(qY R)[k]?=some (.int .u8 x.toNat):=jP g1
  have b2:(qY R)[l.length-1-k]?=some (.int .u8 y.toNat):=jP g2
  have b3:((qY R).set k (.int .u8 y.toNat))[l.length-1-k]?=some (.int .u8 y.toNat):=by rw [List.getElem?_set_ne (by omega)]; exact b2
  refine AW.skip (AW.seq (AW.block ?_))
  refine AW.drawR mixed 14 [[0],[2],[0],[3],[0],[3],[18,19],[20],[0],[2],[22,23],[24],[14,15],[26,21]] [.int .u8 y.toNat,.int .u8 x.toNat] (by kernel_rfl) ?_
  iterate 2 refine zI.one tok (orc:=[]) (by intro C; conv=>lhs; simp) (by first | with_reducible exact True.intro | (first | (simp [b1,b2,hix,hlen]; done) | (simp [b1,b2,hix,hlen]; omega); done) | omega | simp | (simp +contextual; omega)) rfl (by kernel_rfl) ?_
  refine zI.q [90] (.ms 90) rfl (qUD tok (orc:=[]) (orc':=[]) (v:=True) (by conv=>lhs; simp) trivial) (by simp) (by kernel_rfl) (by conv=>lhs; simp) ?_
  iterate 4 refine zI.one tok (orc:=[]) (by intro C; conv=>lhs; simp) (by first | with_reducible exact True.intro | (first | (simp [b1,b2,hix,hlen]; done) | (simp [b1,b2,hix,hlen]; omega); done) | omega | simp | (simp +contextual; omega)) rfl (by kernel_rfl) ?_
  refine zI.one tok (orc:=[.int .u8 y.toNat]) (by intro C; conv=>lhs; simp) (by first | with_reducible exact True.intro | (first | (simp [b1,b2,hix,hlen]; done) | (simp [b1,b2,hix,hlen]; omega); done) | omega | simp | (simp +contextual; omega)) rfl (by kernel_rfl) ?_
  iterate 3 refine zI.one tok (orc:=[]) (by intro C; conv=>lhs; simp) (by first | with_reducible exact True.intro | (first | (simp [b1,b2,hix,hlen]; done) | (simp [b1,b2,hix,hlen]; omega); done) | omega | simp | (simp +contextual; omega)) rfl (by kernel_rfl) ?_
  refine zI.one tok (orc:=[.int .u8 x.toNat]) (by intro C; conv=>lhs; simp) (by first | with_reducible exact True.intro | (first | (simp [b1,b2,hix,hlen]; done) | (simp [b1,b2,hix,hlen]; omega); done) | omega | simp | (simp +contextual; omega)) rfl (by kernel_rfl) ?_
  refine zI.one tok (orc:=[]) (by intro C; conv=>lhs; simp) (by first | with_reducible exact True.intro | (first | (simp [b1,b2,hix,hlen]; done) | (simp [b1,b2,hix,hlen]; omega); done) | omega | simp | (simp +contextual; omega)) rfl (by kernel_rfl) ?_
  refine zI.one tok (orc:=[.int .u8 x.toNat,.int .u8 y.toNat]) (by intro C; conv=>lhs; simp) (by first | with_reducible exact True.intro | (first | (simp [b1,b2,hix,hlen]; done) | (simp [b1,b2,hix,hlen]; omega); done) | omega | simp | (simp +contextual; omega)) rfl (by kernel_rfl) ?_
  refine zI.nil (by kernel_rfl) ⟨by kernel_rfl, ?_⟩
  refine qH.run [[],[0,2,3]] ?_
  iterate 2 refine op1 tok ?_ (hv:=by first | with_reducible exact True.intro | (first | (simp [b3,hix,hlen]; done) | (simp [b3,hix,hlen]; omega); done) | omega | simp | (simp +contextual; omega))
  refine qA (rgz [] [[],[],[],[0,11,13],[],[0,2,3]] ?_)
  iterate 6 refine op1 tok ?_
  refine qA ?_
  exact ⟨k+1,by omega,by omega,qD (by simp [← hst,uP,show (l.length:Int)-1-k-1=l.length-1-(k+1) from by omega]),rfl,by simp [← hst,uP,show (l.length:Int)-1-k-1=l.length-1-(k+1) from by omega],by simp [← hst,uP,show (l.length:Int)-1-k-1=l.length-1-(k+1) from by omega]⟩
 intro h9
 try simp at h9
 have hall:=qRO l (k:=k) (by omega)
 rw [← hall]
 refine AW.exit ?_
 simp
 exact qVU
theorem xX (n:Int) (h0 : -9223372036854775808≤n) (h1:n≤9223372036854775807):AFn Tryz.prog G 64 [.int .i64 n] ((xI n).enc):=by
 refine AFn.introU tok Tryz.func64 (by kernel_rfl) rfl rfl ?_
 simp only [Tryz.f64,qN,List.map_cons,List.map_nil]
 have hU:n.natAbs<10 ^ 20:=by omega
 have hdl:=qBV 20 n.natAbs hU
 have hmd:=qOK (G:=G) (decide (n<0)) (kL n.natAbs) 0 (by omega) (by omega)
 have hI:xI n=(wM (decide (n<0)) (kL n.natAbs) 0).1:=rfl
 rw [hI]
 generalize wM (decide (n<0)) (kL n.natAbs) 0=r1 at *
 obtain ⟨q1,e1⟩:=r1
 simp only [Dc.enc] at hmd
 refine rgn [] [[]] ?_
 refine op1 tok ?_
 refine qA (rgn [] [[],[],[0,2,3]] ?_)
 iterate 3 refine op1 tok ?_
 refine qA ?_
 refine AW.join (α:=Unit) (fun _=>True) (fun a=>⟨qV 35 [(0,.p (.int .i64 n)),(2,.ptr 2 0),(3,.p (.int .u64 (n.natAbs:Nat)))],[],[(2,.vars 26 [.p (.bool false),.p (.str []),.p (.int .i64 0)])],0⟩) ?_ ?_
 ·
  refine rgn [] [[],[0,2,3,10]] ?_
  iterate 2 refine op1 tok ?_
  refine qA (cnd ?_ ?_)
  ·intro h10
   try simp at h10
   have hw:IntKind.u64.wrap (-(IntKind.u64.wrap n))=(n.natAbs:Nat):=by simp [IntKind.wrap,IntKind.bits,IntKind.signed]; omega
   refine rgz [] [[],[],[0,2,3]] ?_
   iterate 3 refine op1 tok ?_
   refine qA ?_
   exact ⟨(),trivial,qD (by simp [hw]),rfl,by simp [hw],by simp [hw]⟩
  intro h10
  try simp at h10
  have hw:IntKind.u64.wrap n=(n.natAbs:Nat):=by simp [IntKind.wrap,IntKind.bits,IntKind.signed]; omega
  refine AW.skip ?_
  exact ⟨(),trivial,qD (by simp [hw]),rfl,by simp [hw],by simp [hw]⟩
 ·
  rintro a hI
  refine rgn [] [[]] ?_
  refine op1 tok ?_
  refine qA (AW.seq (AW.block ?_))
  refine AW.beginE 4 90 5 1 (by simp) (by simp) (by conv=>lhs; simp) ?_
  refine AW.loop (α:=Nat × List UInt8) (fun s=>kL n.natAbs=kL s.1++s.2.reverse∧s.1≤n.natAbs) (fun s=>⟨qV 35 [(0,.p (.int .i64 n)),(2,.ptr 2 0),(3,.p (.int .u64 (s.1:Nat))),(4,.ms 90)],[],[(2,.vars 26 [.p (.bool false),.p (.str []),.p (.int .i64 0)]),(90,.row 5 1 (qY s.2))],0⟩) (fun s=>s.1) ((n.natAbs,[])) ⟨by simp,Nat.le_refl _⟩ ⟨qD (by simp),rfl,by simp [qY],by simp⟩ ?_
  rintro ⟨u,l⟩ ⟨hu,hle⟩
  simp only at hu hle
  have hll:l.length≤20:=by have:=congrArg List.length hu; simp at this; omega
  refine AW.seq (rgn [] [[],[0,2,3,4,14]] ?_)
  iterate 2 refine op1 tok ?_
  refine qA (cnd ?_ ?_)
  ·intro h14
   try simp at h14
   have hup:0<u:=by omega
   rw [xU hup,List.append_assoc] at hu
   have hd:u % 10<10:=Nat.mod_lt _ (by decide)
   have dm:(u:Int).tmod 10=((u % 10:Nat):Int):=(Int.ofNat_tmod u 10).symm
   have dc:IntKind.u8.wrap (IntKind.u64.wrap (48+(u:Int) % 10))=((UInt8.ofNat (48+u % 10)).toNat:Int):=by
    rw [show (UInt8.ofNat (48+u % 10)).toNat=48+u % 10 by rw [UInt8.toNat_ofNat']; omega,show (u:Int) % 10=((u % 10:Nat):Int) from rfl]
    simp [IntKind.wrap,IntKind.bits,IntKind.signed]; omega
   have dq:IntKind.u64.wrap ((u:Int) / 10)=((u / 10:Nat):Int):=by simp [IntKind.wrap,IntKind.bits,IntKind.signed]; omega
   generalize UInt8.ofNat (48+u % 10)=D at *
   refine AW.skip (AW.seq (AW.block (rgz [.int .u8 D.toNat] [[],[],[],[],[0,2,3,17,21],[],[],[0,2,3,4]] ?_)))
   iterate 8 refine op1 tok ?_ (h:=by intro C; conv=>lhs; simp [dm,dc]) (hv:=by first | with_reducible exact True.intro | ((simp [dm,dc]); done) | omega | simp | (simp +contextual; omega))
   refine qA (rgz [] [[],[],[0,2,3,4]] ?_)
   iterate 3 refine op1 tok ?_
   refine qA ?_
   exact ⟨(u / 10,l++[D]),⟨by simp only [List.reverse_append,List.reverse_singleton]; exact hu,by simp only; omega⟩,by simp only; omega,qD (by simp [dq,qY]),rfl,by simp [dq,qY],by simp [dq,qY]⟩
  intro h14
  try simp at h14
  obtain rfl:u=0:=by omega
  rw [yB,List.nil_append] at hu
  have hrv:=qUO (G:=G) l (by omega)
  rw [← hu] at hrv
  refine AW.exit ?_
  simp
  refine rgn [] [[]] ?_
  refine op1 tok ?_
  refine kD ?_
  refine qH.stepK [0,2,4] (qPE rfl hrv (by simp)) (by conv=>lhs; simp) rfl ?_
  refine qH.nil ?_
  refine rgn [.str (kL n.natAbs),.nilp,.tup [q1.enc,.int .i64 e1]] [[],[],[],[2,28,30],[],[],[],[2,32,33],[],[],[2,5]] ?_
  iterate 11 refine oq1 tok hmd ?_
  refine qA (rgn [] [[],[2]] ?_)
  iterate 2 refine op1 tok ?_
  exact qA (AW.ret qI)
theorem qIS (n m:Int):AFn Tryz.prog G 41 [.agg [.int .u64 m],(xI n).enc,.int .i64 0] (qAC n m).enc:=vC (xI n,0) m
def qIQ (runes:List UInt8→Nat) (v:Val) (m:Int):Val :=
 if v.kind=1 then qAC 0 m else if v.kind=5 then qAC (runes v.text) m else if v.kind=6∨v.kind=7 then qAC v.kids.length m
 else if v.kind=4 then .mk 4 m ⟨false,v.num.digits,v.num.scale⟩ [] [] [] 0 else zG 40 m
theorem qQC (runes:List UInt8→Nat) (v:Val) (m:Int) (hr:v.kind=5→AFn Tryz.prog G 65 [.str v.text] (.int .i64 (runes v.text:Nat))∧runes v.text≤1000000) (hk:v.kids.length≤1000000):AFn Tryz.prog G 31 [.agg [.int .u64 m],v.enc] ((qIQ runes v m).enc):=by
 refine AFn.introU tok Tryz.func31 (by kernel_rfl) rfl rfl ?_
 simp only [Tryz.f31,qN,List.map_cons,List.map_nil]
 have d0:=xX (G:=G) 0 (by decide) (by decide)
 have d1:=xX (G:=G) v.kids.length (by omega) (by omega)
 have d2:=fun h:v.kind=5=>xX (G:=G) (runes v.text) (by omega) (by have:=(hr h).2; omega)
 have n0:=qIS (G:=G) 0 m
 have n1:=qIS (G:=G) v.kids.length m
 have n2:=qIS (G:=G) (runes v.text) m
 have n3:=vC (G:=G) (⟨false,v.num.digits,v.num.scale⟩,0) m
 have hf:=wJ (G:=G) 40 m
 have e3:qGD (⟨false,v.num.digits,v.num.scale⟩,0) m = .mk 4 m ⟨false,v.num.digits,v.num.scale⟩ [] [] [] 0:=rfl
 rw [e3] at n3
 unfold qIQ
 generalize xI 0=D0 at *
 generalize xI v.kids.length=D1 at *
 generalize xI (runes v.text)=D2 at *
 generalize qAC 0 m=V0 at *
 generalize qAC v.kids.length m=V1 at *
 generalize qAC (runes v.text) m=V2 at *
 simp only [Val.enc_def,Dc.enc] at d0 d1 d2 n0 n1 n2 n3 hf
 refine rgn [] [[],[],[2,3,4]] ?_
 iterate 3 refine op1 tok ?_
 refine qA (AW.seq (rgn [] [[],[2,3,4,6]] ?_))
 iterate 2 refine op1 tok ?_
 refine qA (AW.block (rgn [] [[],[2,3,4,6,7]] ?_))
 iterate 2 refine op1 tok ?_
 refine qA (cnd ?_ ?_)
 ·intro h7
  try simp at h7
  rw [if_pos h7]
  refine AW.seqRunDrawK tok mixed [4] 2 [[2],[]] [.nilp,D0.enc] [.nilp,V0.enc] (by kernel_rfl) (by intro C; conv=>lhs; simp) (by exact d0) (by simp [Sm.sum,Sm.foot,Sm.tch,Sm.refs]; kernel_rfl) (by intro C; conv=>lhs; simp) (by exact n0) ?_
  exact AW.ret qI
 intro h7
 try simp at h7
 rw [if_neg h7]
 refine rgn [] [[],[2,3,4,6,12]] ?_
 iterate 2 refine op1 tok ?_
 refine qA (cnd ?_ ?_)
 ·intro h12
  try simp at h12
  rw [if_pos h12]
  obtain ⟨r1,r2⟩:=hr h12
  have d2:=d2 h12
  refine AW.seqRunDrawK tok mixed [4] 6 [[2],[3],[15],[16],[17],[14,18]] [.nilp,.int .i64 (runes v.text:Nat),.nilp,D2.enc,.nilp,V2.enc] [] (by kernel_rfl) (by intro C; conv=>lhs; simp) (by exact ⟨r1,d2,n2⟩) (by simp [Sm.sum,Sm.foot,Sm.tch,Sm.refs]; kernel_rfl) (by intro C; conv=>lhs; simp) (by first | with_reducible exact True.intro | omega | simp | (simp +contextual; omega)) ?_
  exact AW.ret qI
 intro h12
 try simp at h12
 rw [if_neg h12]
 refine AW.seq (rgn [] [[],[2,3,4,6,20]] ?_)
 iterate 2 refine op1 tok ?_
 refine qA (cnd ?_ ?_)
 ·intro h20
  try simp at h20
  rw [if_pos (show v.kind=6∨v.kind=7 by omega)]
  refine AW.skip (cnd ?_ ?_)
  ·intro h20
   try simp at h20
   refine AW.seqRunDrawK tok mixed [4] 6 [[2],[3],[24],[25],[26],[23,27]] [.nilp,D1.enc,.nilp,V1.enc] [] (by kernel_rfl) (by intro C; conv=>lhs; simp) (by exact ⟨d1,n1⟩) (by simp [Sm.sum,Sm.foot,Sm.tch,Sm.refs]; kernel_rfl) (by intro C; conv=>lhs; simp) (by first | with_reducible exact True.intro | omega | simp | (simp +contextual; omega)) ?_
   exact AW.ret qI
  intro h20
  try simp at h20
  exfalso; omega
 intro h20
 try simp at h20
 refine rgz [] [[],[2,3,4,6,20]] ?_
 iterate 2 refine op1 tok ?_
 refine qA (cnd ?_ ?_)
 ·intro h20
  try simp at h20
  rw [if_pos (show v.kind=6∨v.kind=7 by omega)]
  refine AW.seqRunDrawK tok mixed [4] 6 [[2],[3],[24],[25],[26],[23,27]] [.nilp,D1.enc,.nilp,V1.enc] [] (by kernel_rfl) (by intro C; conv=>lhs; simp) (by exact ⟨d1,n1⟩) (by simp [Sm.sum,Sm.foot,Sm.tch,Sm.refs]; kernel_rfl) (by intro C; conv=>lhs; simp) (by first | with_reducible exact True.intro | omega | simp | (simp +contextual; omega)) ?_
  exact AW.ret qI
 intro h20
 try simp at h20
 rw [if_neg (show ¬ (v.kind=6∨v.kind=7) by omega)]
 refine rgn [] [[],[2,3,4,29]] ?_
 iterate 2 refine op1 tok ?_
 refine qA (cnd ?_ ?_)
 ·intro h29
  try simp at h29
  rw [if_pos h29]
  refine rgn [] [[],[],[2,3,4]] ?_
  iterate 3 refine op1 tok ?_
  refine qA (rgn [.nilp,(Val.mk 4 m ⟨false,v.num.digits,v.num.scale⟩ [] [] [] 0).enc] [[],[],[],[4,36],[4]] ?_)
  iterate 5 refine op1 tok ?_ (hv:=by first | with_reducible exact True.intro | (first | exact n3 | (simp; done) | (simp at n3 ⊢; exact n3); done) | omega | simp | (simp +contextual; omega))
  exact qA (AW.ret qI)
 intro h29
 try simp at h29
 rw [if_neg h29]
 refine AW.skip (rgn [.nilp,(zG 40 m).enc] [[],[],[4]] ?_)
 iterate 3 refine oq1 tok hf ?_
 exact qA (AW.ret qI)
def qOO (v:Val) (m:Int):Val :=
 if v.kind=7 then kT ((wD v.keys).map fun s=>wB s 0) m
 else if v.kind=6 then kT ((List.range v.kids.length).map fun i:Nat=>qAC i 0) m else zG 40 m
theorem qUY (r:Dc × Int) (m:Int):Few (qGD r m):=by
 unfold qGD zG
 split <;> exact .mk (by simp) (by simp) (by simp)
theorem qSB (v:Val) (m:Int) (hk:v.kids.length≤1000000) (hn:v.keys.length≤1000000):AFn Tryz.prog G 32 [.agg [.int .u64 m],v.enc] ((qOO v m).enc):=by
 refine AFn.introU tok Tryz.func32 (by kernel_rfl) rfl rfl ?_
 simp only [Tryz.f32,qN,List.map_cons,List.map_nil]
 have hf:=wJ (G:=G) 40 m
 have he:=qOV (G:=G) (wD v.keys) m (by rw [uU]; omega)
 have hl:=qEX (G:=G) ((List.range v.kids.length).map fun i:Nat=>qAC i 0) m (by simp [qAC,qUY]) (by simp; omega)
 have e:qOO v m=if v.kind=7 then kT ((wD v.keys).map fun s=>wB s 0) m else if v.kind=6 then kT ((List.range v.kids.length).map fun i:Nat=>qAC i 0) m else zG 40 m:=rfl
 rw [e]
 generalize kT ((wD v.keys).map fun s=>wB s 0) m=L1 at *
 generalize hvs:((List.range v.kids.length).map fun i:Nat=>qAC i 0)=vs at *
 have hvl:vs.length=v.kids.length:=by rw [← hvs]; simp
 have hvg:∀ k,k<v.kids.length→vs[k]?=some (qAC k 0):=fun k h=>by rw [← hvs]; simp [h]
 simp only [Val.enc_def] at hf he hl
 refine rgn [] [[],[],[2,3,4]] ?_
 iterate 3 refine op1 tok ?_
 refine qA (AW.seq (rgn [] [[],[2,3,4,8]] ?_))
 iterate 2 refine op1 tok ?_
 refine qA (AW.block (rgn [] [[],[2,3,4,8,9]] ?_))
 iterate 2 refine op1 tok ?_
 refine qA (cnd ?_ ?_)
 ·intro h9
  try simp at h9
  rw [if_pos h9]
  refine AW.seqDrawR mixed 8 [[2],[3],[12],[13],[14],[],[16],[11,15,17]] [L1.enc] (by kernel_rfl) ?_
  iterate 3 refine zI.one tok (orc:=[]) (by intro C; conv=>lhs; simp) (by first | with_reducible exact True.intro | omega | simp | (simp +contextual; omega)) rfl (by kernel_rfl) ?_
  refine zI.call [901] (qPF v.keys) rfl rfl (by simp) (by simp) (by simp) (by simp) (by simp) (by first | (simp; done) | (simp; omega)) (by first | (simp; done) | (simp; omega)) (by kernel_rfl) (by conv=>lhs; simp) ?_
  refine zI.call [] (qPL 901 v.keys (by omega)) rfl rfl (by simp) (by simp) (by simp) (by simp) (by simp) (by first | (simp; done) | (simp; omega)) (by first | (simp; done) | (simp; omega)) (by kernel_rfl) (by conv=>lhs; simp) ?_
  iterate 2 refine zI.one tok (orc:=[]) (by intro C; conv=>lhs; simp) (by first | with_reducible exact True.intro | omega | simp | (simp +contextual; omega)) rfl (by kernel_rfl) ?_
  refine zI.call [] he rfl rfl (by simp) (by simp) (by simp) (by simp) (by simp) (by first | (simp; done) | (simp; omega)) (by first | (simp; done) | (simp; omega)) (by kernel_rfl) (by conv=>lhs; simp) ?_
  refine zI.nil (by kernel_rfl) ⟨by kernel_rfl, ?_⟩
  refine qH.run [[4]] ?_
  refine op1 tok ?_
  exact qA (AW.ret qI)
 intro h9
 try simp at h9
 rw [if_neg h9]
 refine rgn [] [[],[2,3,4,19]] ?_
 iterate 2 refine op1 tok ?_
 refine qA (cnd ?_ ?_)
 ·intro h19
  try simp at h19
  rw [if_pos h19]
  refine rgn [] [[]] ?_
  refine op1 tok ?_
  refine qA (AW.seq (rgn [] [[],[],[],[2,4,5,23,24]] ?_))
  iterate 4 refine op1 tok ?_
  refine qA (AW.block ?_)
  refine AW.beginE 5 50 31 9 (by simp) (by simp) (by conv=>lhs; simp) ?_
  refine AW.loop (α:=Nat) (fun k=>k≤v.kids.length) (fun k=>⟨qV 40 [(2,.ptr 2 0),(4,.ptr 4 0),(5,.ms 50),(23,.p (.int .i64 v.kids.length)),(24,.p (.int .i64 k))],[],[(2,.vars 61 [.p (.int .u64 m)]),(4,.vars 31 [.p (.int .i64 0),.p (.int .u64 0),.p (.bool false),.p (.str []),.p (.int .i64 0),.p (.str []),.nilsl,.nilsl,.p (.int .i64 0)]),(50,.row 31 9 ((vs.map Val.enc).take k))],0⟩) (fun k=>v.kids.length-k) (0) (by omega) ⟨qD (by simp),rfl,by simp,by simp⟩ ?_
  rintro k hkk
  refine rgn [] [[]] ?_
  refine op1 tok ?_
  refine qA (AW.seq (cnd ?_ ?_))
  ·intro h25
   try simp at h25
   have hv:=hvg k (by omega)
   have hgp:(vs.map Val.enc)[k]?=some (qAC k 0).enc:=by rw [List.getElem?_map,hv]; rfl
   have htk:(vs.map Val.enc).take k++[(qAC k 0).enc]=(vs.map Val.enc).take (k+1):=by rw [List.take_add_one,hgp]; rfl
   have dk:=xX (G:=G) k (by omega) (by omega)
   have nk:=qIS (G:=G) k 0
   generalize xI (k:Int)=Dk at *
   generalize qAC (k:Int) 0=Vk at *
   simp only [Val.enc_def,Dc.enc] at htk dk nk
   refine AW.skip (AW.seq (AW.block (rgn [] [[],[2,4,5,6,23,24]] ?_)))
   iterate 2 refine op1 tok ?_
   refine qA (rgz [.nilp,Dk.enc,.nilp,Vk.enc,Vk.enc] [[],[],[],[],[2,4,23,24,27,31],[],[],[2,4,5,23,24]] ?_)
   iterate 8 refine op1 tok ?_ (hv:=by first | with_reducible exact True.intro | (first | exact dk | exact nk | (simp; done) | (simp at nk ⊢; exact nk); done) | omega | simp | (simp +contextual; omega))
   refine qA (rgz [] [[],[2,4,5,23,24]] ?_)
   iterate 2 refine op1 tok ?_
   refine qA ?_
   exact ⟨k+1,by omega,by omega,qD (by simp [htk]),rfl,by simp [htk],by simp [htk]⟩
  intro h25
  try simp at h25
  obtain rfl:k=v.kids.length:=by omega
  have hall:(vs.map Val.enc).take v.kids.length=vs.map Val.enc:=List.take_of_length_le (by simp [hvl])
  simp only [hall]
  refine AW.exit ?_
  simp
  refine rgn [.nilp,(kT vs m).enc] [[]] ?_
  refine op1 tok ?_ (hv:=by first | with_reducible exact True.intro | (first | exact hl | (simp at hl ⊢; exact hl); done) | omega | simp | (simp +contextual; omega))
  refine kD ?_
  refine qH.freeze 50 (by conv=>lhs; simp) ?_
  refine qH.run [[],[4,37],[4]] ?_
  iterate 3 refine op1 tok ?_ (hv:=by first | with_reducible exact True.intro | (first | exact hl | (simp at hl ⊢; exact hl); done) | omega | simp | (simp +contextual; omega))
  exact qA (AW.ret qI)
 intro h19
 try simp at h19
 rw [if_neg h19]
 refine AW.skip (rgn [.nilp,(zG 40 m).enc] [[],[],[4]] ?_)
 iterate 3 refine oq1 tok hf ?_
 exact qA (AW.ret qI)
def qAD {α:Type} [DecidableEq α] (l:List α) (x:α):Int:=if x∈l then (l.idxOf x:Int) else -1
theorem qOR {α:Type} [DecidableEq α] {l:List α} {k:Nat} {x:α} (hk:k<l.length) (hx:l[k]?=some x) (hno:x ∉ l.take k):qAD l x=k:=by
 have hm:x∈l:=List.mem_of_getElem? hx
 unfold qAD; rw [if_pos hm]
 have:l.idxOf x=k:=by
  obtain ⟨h1,h2⟩:=List.getElem?_eq_some_iff.1 hx
  have h3:=List.take_append_drop k l
  rw [← h3,List.idxOf_append,if_neg hno,List.drop_eq_getElem_cons h1,h2,List.idxOf_cons_self]
  simp; omega
 rw [this]
theorem qOQ {α:Type} [DecidableEq α] (l:List α) (x:α):0≤qAD l x↔x∈l:=by
 unfold qAD; split <;> simp [*]
theorem qSP (l:List (List UInt8)) (s:List UInt8):AFn Tryz.prog G 112 [.sl 1 (l.map PD.str),.str s] (.int .i64 (qAD l s)):=by
 refine AFn.introU tok Tryz.func112 (by kernel_rfl) rfl rfl ?_
 simp only [Tryz.f112,qN,List.map_cons,List.map_nil]
 refine rgn [] [[0,1]] ?_
 refine op1 tok ?_
 refine qA (AW.seq (rgn [] [[],[],[0,1,7,8]] ?_))
 iterate 3 refine op1 tok ?_
 refine qA (AW.block ?_)
 refine AW.intFactU (i:=7) rfl (by decide) ?_; intro hlen; simp at hlen
 refine AW.loop (α:=Nat) (fun k=>k≤l.length∧s ∉ l.take k) (fun k=>⟨qV 19 [(0,.p (.sl 1 (l.map PD.str))),(1,.p (.str s)),(7,.p (.int .i64 l.length)),(8,.p (.int .i64 k))],[],[],0⟩) (fun k=>l.length-k) (0) ⟨by omega,by simp⟩ ⟨qD (by simp),rfl,by simp,by simp⟩ ?_
 rintro k ⟨hk,hno⟩
 refine rgn [] [[]] ?_
 refine op1 tok ?_
 refine qA (AW.seq (cnd ?_ ?_))
 ·intro h9
  try simp at h9
  obtain ⟨x,hx⟩:∃ x,l[k]?=some x:=⟨l[k],by simp [h9]⟩
  refine AW.skip (AW.seq (AW.block (rgn [] [[],[0,1,5,7,8]] ?_)))
  iterate 2 refine op1 tok ?_
  refine qA (rgn [.str x] [[],[],[],[],[],[0,1,5,7,8,16]] ?_)
  iterate 6 refine op1 tok ?_ (hv:=by first | with_reducible exact True.intro | (simp [hx]; done) | omega | simp | (simp +contextual; omega))
  refine qA (cnd ?_ ?_)
  ·intro h16
   try simp at h16
   have hR:qAD l s=k:=qOR h9 (h16 ▸ hx) hno
   refine rgn [] [[],[4]] ?_
   iterate 2 refine op1 tok ?_
   refine qA ?_
   exact AW.ret (qI (k:=by simp [hR]))
  intro h16
  try simp at h16
  refine AW.skip (rgz [] [[],[0,1,7,8]] ?_)
  iterate 2 refine op1 tok ?_
  refine qA ?_
  exact ⟨k+1,⟨by omega,by rw [List.take_add_one,hx]; simp; exact ⟨hno,h16⟩⟩,by omega,qD (by simp),rfl,by simp,by simp⟩
 intro h9
 try simp at h9
 have hR:qAD l s = -1:=by rw [List.take_of_length_le h9] at hno; unfold qAD; rw [if_neg hno]
 refine AW.exit ?_
 simp
 refine rgn [] [[]] ?_
 refine op1 tok ?_
 refine qA ?_
 exact AW.ret (qI (k:=by simp [hR]))
theorem qSR (l:List (List UInt8)) (s:List UInt8):AFn Tryz.prog G 79 [.sl 1 (l.map PD.str),.str s] (.bool (decide (s∈l))):=by
 refine AFn.introU tok Tryz.func79 (by kernel_rfl) rfl rfl ?_
 simp only [Tryz.f79,qN,List.map_cons,List.map_nil]
 have h1:=qSP (G:=G) l s
 have h2:decide (s∈l)=decide (0≤qAD l s):=decide_eq_decide.2 (qOQ l s).symm
 rw [h2]
 generalize qAD l s=i at *
 refine rgn [] [[0,1]] ?_
 refine op1 tok ?_
 refine qA (rgn [.nilp,.int .i64 i] [[],[],[7],[],[4]] ?_)
 iterate 5 refine oq1 tok h1 ?_
 exact qA (AW.ret qI)
theorem qSQ (l:List Int) (s:Int):AFn Tryz.prog G 206 [.sl 1 (l.map (PD.int .i64)),.int .i64 s] (.int .i64 (qAD l s)):=by
 refine AFn.introU tok Tryz.func206 (by kernel_rfl) rfl rfl ?_
 simp only [Tryz.f206,qN,List.map_cons,List.map_nil]
 refine rgn [] [[0,1]] ?_
 refine op1 tok ?_
 refine qA (AW.seq (rgn [] [[],[],[0,1,7,8]] ?_))
 iterate 3 refine op1 tok ?_
 refine qA (AW.block ?_)
 refine AW.intFactU (i:=7) rfl (by decide) ?_; intro hlen; simp at hlen
 refine AW.loop (α:=Nat) (fun k=>k≤l.length∧s ∉ l.take k) (fun k=>⟨qV 19 [(0,.p (.sl 1 (l.map (PD.int .i64)))),(1,.p (.int .i64 s)),(7,.p (.int .i64 l.length)),(8,.p (.int .i64 k))],[],[],0⟩) (fun k=>l.length-k) (0) ⟨by omega,by simp⟩ ⟨qD (by simp),rfl,by simp,by simp⟩ ?_
 rintro k ⟨hk,hno⟩
 refine rgn [] [[]] ?_
 refine op1 tok ?_
 refine qA (AW.seq (cnd ?_ ?_))
 ·intro h9
  try simp at h9
  obtain ⟨x,hx⟩:∃ x,l[k]?=some x:=⟨l[k],by simp [h9]⟩
  refine AW.skip (AW.seq (AW.block (rgn [] [[],[0,1,5,7,8]] ?_)))
  iterate 2 refine op1 tok ?_
  refine qA (rgn [.int .i64 x] [[],[],[],[],[],[0,1,5,7,8,16]] ?_)
  iterate 6 refine op1 tok ?_ (hv:=by first | with_reducible exact True.intro | (simp [hx]; done) | omega | simp | (simp +contextual; omega))
  refine qA (cnd ?_ ?_)
  ·intro h16
   try simp at h16
   have hR:qAD l s=k:=qOR h9 (h16 ▸ hx) hno
   refine rgn [] [[],[4]] ?_
   iterate 2 refine op1 tok ?_
   refine qA ?_
   exact AW.ret (qI (k:=by simp [hR]))
  intro h16
  try simp at h16
  refine AW.skip (rgz [] [[],[0,1,7,8]] ?_)
  iterate 2 refine op1 tok ?_
  refine qA ?_
  exact ⟨k+1,⟨by omega,by rw [List.take_add_one,hx]; simp; exact ⟨hno,h16⟩⟩,by omega,qD (by simp),rfl,by simp,by simp⟩
 intro h9
 try simp at h9
 have hR:qAD l s = -1:=by rw [List.take_of_length_le h9] at hno; unfold qAD; rw [if_neg hno]
 refine AW.exit ?_
 simp
 refine rgn [] [[]] ?_
 refine op1 tok ?_
 refine qA ?_
 exact AW.ret (qI (k:=by simp [hR]))
theorem qSS (l:List Int) (s:Int):AFn Tryz.prog G 169 [.sl 1 (l.map (PD.int .i64)),.int .i64 s] (.bool (decide (s∈l))):=by
 refine AFn.introU tok Tryz.func169 (by kernel_rfl) rfl rfl ?_
 simp only [Tryz.f169,qN,List.map_cons,List.map_nil]
 have h1:=qSQ (G:=G) l s
 have h2:decide (s∈l)=decide (0≤qAD l s):=decide_eq_decide.2 (qOQ l s).symm
 rw [h2]
 generalize qAD l s=i at *
 refine rgn [] [[0,1]] ?_
 refine op1 tok ?_
 refine qA (rgn [.nilp,.int .i64 i] [[],[],[7],[],[4]] ?_)
 iterate 5 refine oq1 tok h1 ?_
 exact qA (AW.ret qI)
theorem qNB (l:List Val) (g:FuncId) (cs:List PD) (p:Val→Bool) (hg:∀ v∈l,AFn Tryz.prog G g [v.enc,.ref cs] (.bool (p v))):AFn Tryz.prog G 156 [.sl 9 (l.map Val.enc),.clo g [.ref cs]] (.int .i64 (match l.findIdx? p with | some i=>(i:Int) | none => -1)):=by
 refine AFn.introU tok Tryz.func156 (by kernel_rfl) rfl rfl ?_
 simp only [Tryz.f156,qN,List.map_cons,List.map_nil]
 refine rgn [] [[0,1]] ?_
 refine op1 tok ?_
 refine qA (AW.seq (rgn [] [[],[],[0,1,7,8]] ?_))
 iterate 3 refine op1 tok ?_
 refine qA (AW.block ?_)
 refine AW.intFactU (i:=7) rfl (by decide) ?_; intro hlen; simp at hlen
 refine AW.loop (α:=Nat) (fun k=>k≤l.length∧(l.take k).all (fun v => !p v)=true) (fun k=>⟨qV 19 [(0,.p (.sl 9 (l.map Val.enc))),(1,.p (.clo g [.ref cs])),(7,.p (.int .i64 l.length)),(8,.p (.int .i64 k))],[],[],0⟩) (fun k=>l.length-k) (0) ⟨by omega,rfl⟩ ⟨qD (by simp),rfl,by simp,by simp⟩ ?_
 rintro k ⟨hk,hall⟩
 refine rgn [] [[]] ?_
 refine op1 tok ?_
 refine qA (AW.seq (cnd ?_ ?_))
 ·intro h9
  try simp at h9
  obtain ⟨v,hv⟩:∃ v,l[k]?=some v:=⟨l[k],by simp [h9]⟩
  have hgv:=hg v (List.mem_of_getElem? hv)
  refine AW.skip (AW.seq (AW.block (rgn [] [[],[0,1,5,7,8]] ?_)))
  iterate 2 refine op1 tok ?_
  refine qA (rgn [v.enc,.nilp,.bool (p v)] [[],[],[],[],[],[0,1,5,7,8,16]] ?_)
  iterate 6 refine op1 tok ?_ (hv:=by first | with_reducible exact True.intro | (first | (simp [hv]; done) | (simp at hgv ⊢; exact hgv); done) | omega | simp | (simp +contextual; omega))
  refine qA (cnd ?_ ?_)
  ·intro h16
   try simp at h16
   have hf:l.findIdx? p=some k:=by
    rw [List.findIdx?_eq_some_iff_getElem]
    have h9':=h9
    refine ⟨h9, ?_,fun j hj => ?_⟩
    ·rw [List.getElem?_eq_getElem h9] at hv; cases hv; exact h16
    have:=List.all_eq_true.1 hall (l[j]'(by omega)) (List.mem_iff_getElem.2 ⟨j,by simp; omega,by simp⟩)
    simpa using this
   refine rgn [] [[],[4]] ?_
   iterate 2 refine op1 tok ?_
   refine qA ?_
   exact AW.ret (qI (k:=by simp [hf]))
  intro h16
  try simp at h16
  refine AW.skip (rgz [] [[],[0,1,7,8]] ?_)
  iterate 2 refine op1 tok ?_
  refine qA ?_
  exact ⟨k+1,⟨by omega,by rw [List.take_add_one,hv,List.all_append,hall]; simpa using h16⟩,by omega,qD (by simp),rfl,by simp,by simp⟩
 intro h9
 try simp at h9
 rw [List.take_of_length_le h9] at hall
 have hf:l.findIdx? p=none:=by
  rw [List.findIdx?_eq_none_iff]; intro x hx; simpa using List.all_eq_true.1 hall x hx
 refine AW.exit ?_
 simp
 refine rgn [] [[]] ?_
 refine op1 tok ?_
 refine qA ?_
 exact AW.ret (qI (k:=by simp [hf]))
theorem qGI (l:List Val) (g:FuncId) (cs:List PD) (p:Val→Bool) (hg:∀ v∈l,AFn Tryz.prog G g [v.enc,.ref cs] (.bool (p v))):AFn Tryz.prog G 113 [.sl 9 (l.map Val.enc),.clo g [.ref cs]] (.bool (l.any p)):=by
 refine AFn.introU tok Tryz.func113 (by kernel_rfl) rfl rfl ?_
 simp only [Tryz.f113,qN,List.map_cons,List.map_nil]
 have hi:=qNB l g cs p hg
 have ha:l.any p=decide (0≤(match l.findIdx? p with | some i=>(i:Int) | none => -1)):=by
  cases h:l.findIdx? p with
  | none=>simp; intro x hx; simpa using List.findIdx?_eq_none_iff.1 h x hx
  | some i =>
   obtain ⟨h1,h2,_⟩:=List.findIdx?_eq_some_iff_getElem.1 h
   simp; exact ⟨_,List.getElem_mem h1,h2⟩
 rw [ha]
 generalize (match l.findIdx? p with | some i=>(i:Int) | none => -1)=n at *
 refine rgn [] [[0,1]] ?_
 refine op1 tok ?_
 refine qA (rgn [.nilp,.int .i64 n] [[],[],[7],[],[4]] ?_)
 iterate 5 refine oq1 tok hi ?_
 exact qA (AW.ret qI)
end Go.Proofs.YtgcbapchinideaaGreatDoor
