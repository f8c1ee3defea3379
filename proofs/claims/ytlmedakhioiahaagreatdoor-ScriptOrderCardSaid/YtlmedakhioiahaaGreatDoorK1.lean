import Derived.Test.YtlmedakhioiahaaGreatDoorM4
import Derived.Test.YtlmedakhioiahaaGreatDoorM3
import Derived.Test.YtlmedakhioiahaaGreatDoorM1
import Derived.Maps.RangeRun
import Derived.Lib.AppendZerosOnto
import Derived.Laws.RangeString
import Derived.Lib.RuneCount
import Derived.Lib.Repeat
import Derived.Lib.ValidU
import Derived.Lib.LaidU8T
import Derived.Shelf.Unicode.ValidAny
import Derived.Shelf.Unicode.DecodeAny
import Derived.Shelf.Strings.Repeat
import Derived.Shelf.Strings.Builder1
import Derived.Shelf.Strings.OnBuilder
import Derived.Test.YtlmedakhioiahaaGreatDoorProg
import Derived.Shelf.Small.Strs
namespace Go.Proofs.YtlmedakhioiahaaGreatDoor.Sy
open Go
section
variable {P:Program} {T:Tab} {G:qR} {Q:Exit→St→Prop} {st st':St}
theorem Turned.refl (w:World) (b:Nat):Turned w w b:=⟨rfl,rfl,rfl,rfl,fun _ _=>rfl⟩
theorem Rel.beginBox {c : Ctx} {M : qY} {μ : Mu} {st : St} {tmps : Array Value} {w : World} (r : Rel c M μ st tmps w) {id k j : Nat} {e : TypeId} {cells : List V} (hb : zW id st.H = some (.vars e cells)) (hj : cells[j]? = some .nilsl)
  (hf:st.fresh k=true) (e':TypeId) (sz:Nat):∃ μ',Rel c M μ' { st with H:=zZ id (.vars e (cells.set j (.ms k))) ((k,.row e' sz [])::st.H) } tmps w:=by
 have hm:=zP hb
 have hk:qM id st.H=true:=qH.2 ⟨_,hm⟩
 have hne:id≠k:=by
  rintro rfl
  have:=(St.fresh_spec hf).2.2.2
  rw [hk] at this; cases this
 have r1:=r.adopt (l:=⟨none,.slice none 0 0⟩) hf (fun b hb=>by cases hb) (bx := .row e' sz []) (.rowN (by rw [qZ]) (by rw [qZ]))
 have hbx:=r1.box id _ (List.mem_cons_of_mem _ hm)
 cases hbx with
 | @vars _ _ b arr h0 hh hs ho hc =>
 refine ⟨_,r1.write (id:=id) (b:=b) (w':=w) (bx := .vars e (cells.set j (.ms k))) (by simp [qM,hk]) h0 (Turned.refl w b) (.vars h0 hh (by simpa using hs) ho fun i u x hu hx => ?_)⟩
 rw [List.getElem?_set] at hx
 split at hx
 ·rename_i hji
  subst hji
  split at hx
  ·cases hx
   have:=hc j u .nilsl hu hj
   cases this
   exact .ms (by rw [qZ]) rfl
  cases hx
 exact hc i u x hu hx
theorem AW.beginBox {c : Code} (id k j : Nat) (e' : TypeId) (sz : Nat) {e : TypeId} {cells : List V} (hb : zW id st.H = some (.vars e cells)) (hj : cells[j]? = some .nilsl) (hf : st.fresh k = true)
  (h:({ st with H:=zZ id (.vars e (cells.set j (.ms k))) ((k,.row e' sz [])::st.H) }:St)=st') (k:AW P G c Q st'):AW P G c Q st:=fun x M μ tmps w hg r=>by
 obtain ⟨μ',r'⟩:=r.beginBox hb hj hf e' sz
 exact k x M μ' tmps w hg (h ▸ r')
theorem qB.beginBox {ops : Array Oper} {l : List Oper} {orc : List PD} (id k j : Nat) (e' : TypeId) (sz : Nat) {e : TypeId} {cells : List V} (hb : zW id st.H = some (.vars e cells)) (hj : cells[j]? = some .nilsl) (hf : st.fresh k = true)
  (h:({ st with H:=zZ id (.vars e (cells.set j (.ms k))) ((k,.row e' sz [])::st.H) }:St)=st') (k:qB P G ops Q l st' orc):qB P G ops Q l st orc:=fun x M μ tmps w hg r=>by
 obtain ⟨μ',r'⟩:=r.beginBox hb hj hf e' sz
 exact k x M μ' tmps w hg (h ▸ r')
theorem AW.pinsTo {c:Code} (ps:List Nat) (hs:∀ i∈ps,i∈st.pins) (h:({ st with pins:=ps }:St)=st') (k:AW P G c Q st'):AW P G c Q st:=fun x M μ tmps w hg r =>
 k x M μ tmps w hg (h ▸ ⟨r.mem,r.ext,r.old,r.slots,fun i hi=>r.pins i (hs i hi),r.box,r.nodup,r.inj,r.own,r.size,r.below⟩)
theorem qB.stepKIf (ks : List Nat) (d : Nat) {orc : List PD} {ops : Array Oper} {o : Oper} {rest : List Oper} {x : V} {st1 : St} {j : Nat} {pol : Bool} (hgd : o.guard = some (j, pol)) (hd : (ops[j]?).bind (·.dst) = some d)
  (h:zE P G o st x st1) (hb:decide (d<st.tmps.length)=true∧V.guards pol (st.tmps.getD d .dead)=some true) (hk:(st1.put o.dst (.when true x)).keep ks=st') (k:qB P G ops Q rest st' orc):qB P G ops Q (o::rest) st orc :=
 qX.stepIfT hgd hd (of_decide_eq_true hb.1) hb.2 h (qX.keep ks (hk ▸ k))
theorem AW.fillE {c:Code} (id:Nat) (ns:List (Option Nat)) (h:st.fill id ns=st') (k:AW P G c Q st'):AW P G c Q st:=fun x M μ tmps w hg r=>k x M μ tmps w hg (h ▸ r.fill id ns)
end
set_option linter.unusedSimpArgs false
section
variable {P:Program} {T:Tab} {G:qR} {Q:Exit→St→Prop} {st st':St}
def qAH (ks:List (List UInt8)) (vs:List V) (s:List UInt8) (v:V):List V:=if s∈ks then vs.set (ks.idxOf s) v else vs++[v]
theorem zKK (k:Nat) {t:TypeId} {ms:Array (String × TypeId)} (ht:P.underlying t=some (.interface ms)) (t':TypeId) (v':Value) (w:World):(Op.equalIn (k+1) t (.iface t' v') .nilIface).run P w = .ok false w:=by
 simp [Op.equalIn,run_underlying ht]
theorem zEM (k:Nat) {t:TypeId} {ms:Array (String × TypeId)} (ht:P.underlying t=some (.interface ms)) (w:World):(Op.equalIn (k+1) t .nilIface .nilIface).run P w = .ok true w:=by
 simp [Op.equalIn,run_underlying ht]
def qQR (P:Program) (t:TypeId):Bool:=match P.underlying t with
 | some (.interface _)=>true
 | _=>false
theorem qQQ {P:Program} {t:TypeId} (h:qQR P t=true):∃ ms,P.underlying t=some (.interface ms):=by
 unfold qQR at h
 split at h
 ·exact ⟨_,by assumption⟩
 cases h
end
section
variable {P:Program} {T:Tab} {G:qR} {Q:Exit→St→Prop} {st st':St}
theorem Rel.freezeAll {c:Ctx} {μ:Mu} {tmps:Array Value} {w:World}:∀ (ids:List Nat) {M:qY} {st:St},Rel c M μ st tmps w→∃ M',Rel c M' μ (freezeAll st ids) tmps w
 | [],M,_,r=>⟨M,r⟩
 | i::l,M,st,r=>by
  obtain ⟨M1,r1⟩:=r.freeze i
  exact Rel.freezeAll l r1
end
section
variable {P:Program} {T:Tab} {G:qR}
theorem AX.ren {f:FuncId} {xs:List V} {H:List (Nat × Box)} {r:V} {ps:List Nat} {H':List (Nat × Box)} (i j:Nat) (h:AX P G f xs H r ps H') (hf:(⟨[r],ps,H',0⟩:St).fresh j=true):AX P G f xs H (r.ren i j) (ps.filter (· != i)) (qNB i j H'):=by
 refine ⟨h.1,fun M μ w vs hg rel=>(h.2 M μ w vs hg rel).mono ?_⟩
 rintro e w' ⟨v,M',μ',rfl,r'⟩
 have:=r'.ren (i:=i) hf
 exact ⟨v,M',_,rfl,by simpa only [St.ren,V.renL] using this⟩
end
section
variable {P:Program} {T:Tab} {G:qR} {Q:Exit→St→Prop} {l:List Oper} {m:Nat} {tss:List (List Nat)} {sms:List Sm}
inductive DRun (P:Program) (G:qR) (st0:St):List Oper→List (List Nat)→St→List Sm→St→Prop
 | nil {tss:List (List Nat)} {st:St}:(st.H.map (·.1)).Nodup→DRun P G st0 [] tss st [] st
 | one {o : Oper} {rest : List Oper} {ts : List Nat} {tss : List (List Nat)} {st st2 : St} {s : Sm} {zs : List Sm} : o.guard = none → (st.H.map (·.1)).Nodup → Facts st0 s → (∀ p ∈ s.H, p ∈ st.H) →
   (∀ c M μ st' tmps w R K,xC G c→Rel c M μ st' tmps w→yW st'.tmps (yL st.tmps ts)→(∀ id bx,(id,bx)∈s.H→(id,bx)∈st'.H)→(∀ n∈s.new,({ st' with H:=zL (s.H.map (·.1)) st'.H }:St).fresh n=true) →
    (∀ u w' M' μ' H2,Rel c M' μ' { st' with H:=H2 } tmps w'→RV M' μ' u s.x→(∀ p,p∈H2↔p∈s.H'∨(p∈st'.H∧p.1 ∉ s.H.map (·.1)))→K (Act.put ⟨tmps,[]⟩ o.dst u) w')→o.wp P ⟨tmps,[]⟩ w K R) →
   DRun P G st0 rest tss (st.after o.dst s) zs st2→DRun P G st0 (o::rest) (ts::tss) st (s::zs) st2
theorem DRun.len {st0:St} {rest:List Oper} {ts:List (List Nat)} {st st2:St} {zs:List Sm} (h:DRun P G st0 rest ts st zs st2):zs.length=rest.length:=by
 induction h with
 | nil=>rfl
 | one _ _ _ _ _ _ ih=>simp [ih]
theorem DRun.told (hchk : zX l m tss = true) (hconf : vS l m (sms.map Sm.sum) = true) {st0 : St} {rest : List Oper} {ts : List (List Nat)} {st st2 : St} {zs : List Sm} (h : DRun P G st0 rest ts st zs st2) : ∀ k : Nat,
  rest=(l.take m).drop k→ts=tss.drop k→zs=sms.drop k→k≤m→sms.length=m→st.pins=st0.pins→st.base=st0.base→DoneD l m sms st0 (fun j=>decide (j<k)) st.tmps st.H →
  (∀ i,k≤i→i<m→Told P G l m sms st0 i)∧st2.pins=st0.pins∧st2.base=st0.base∧DoneD l m sms st0 (fun j=>decide (j<m)) st2.tmps st2.H∧(st2.H.map (·.1)).Nodup:=by
 induction h with
 | @nil ts st hnd =>
  intro k hr _ hz hk hxl hp hb D
  have hkm:k=m:=by
   have h3:(List.drop k (List.take m l)).length=0:=by rw [← hr]; rfl
   have:=qBE hchk
   simp at h3
   omega
  subst hkm
  exact ⟨fun i h1 h2=>by omega,hp,hb,D,hnd⟩
 | @one o rest t1 tss1 st st2 s zs hgd hnd F hsub hgo _ ih =>
  intro k hr hts hz hk hxl hp hb D
  have hkm:k<m:=by
   have h3:(List.drop k (List.take m l)).length=rest.length+1:=by rw [← hr]; rfl
   simp at h3
   omega
  obtain ⟨o',ho',htk,hsep⟩:=xO hchk hkm
  have hoo:o=o':=by
   have h3:(List.drop k (List.take m l))[0]?=some o:=by rw [← hr]; rfl
   rw [List.getElem?_drop,List.getElem?_take,Nat.add_zero,if_pos hkm,ho'] at h3
   cases h3; rfl
  subst hoo
  have hrest:rest=(l.take m).drop (k+1):=by
   have:=congrArg (List.drop 1) hr
   simpa [List.drop_drop,Nat.add_comm] using this
  have ht1:t1=o.looksAt l.toArray:=by
   have h3:(List.drop k tss)[0]?=some t1:=by rw [← hts]; rfl
   rw [List.getElem?_drop,Nat.add_zero,htk] at h3
   cases h3; rfl
  have hts1:tss1=tss.drop (k+1):=by
   have:=congrArg (List.drop 1) hts
   simpa [List.drop_drop,Nat.add_comm] using this
  have hdk:yG l k=o.dst:=by simp [yG,ho']
  have hxk:sms[k]?=some s:=by
   have h3:(List.drop k sms)[0]?=some s:=by rw [← hz]; rfl
   rw [List.getElem?_drop,Nat.add_zero] at h3; exact h3
  have hz':zs=sms.drop (k+1):=by
   have:=congrArg (List.drop 1) hz
   simpa [List.drop_drop,Nat.add_comm] using this
  have D':DoneD l m sms st0 (fun j=>decide (j<k+1)) (st.after o.dst s).tmps (st.after o.dst s).H:=by
   have:=D.go hchk hconf (DC.below hchk k) (L':=fun j=>decide (j<k+1)) hkm hdk hxk (by simp) F (fun j=>by
    by_cases h1:j<k
    ·simp [h1,show j<k+1 by omega]
    by_cases h2:j=k
    ·simp [h2]
    simp [h1,h2,show ¬ j<k+1 by omega]) hsub hnd (H2:=s.H'++zL (s.H.map (·.1)) st.H) (fun p=>by rw [List.mem_append,kD])
   have e1:(st.after o.dst s).tmps=qNC st.tmps o.dst s.x:=by cases hq:o.dst <;> rfl
   rw [e1]; exact this
  have e2:(st.after o.dst s).pins=st.pins:=by cases hq:o.dst <;> rfl
  have e3:(st.after o.dst s).base=st.base:=by cases hq:o.dst <;> rfl
  obtain ⟨h1,h2,h3⟩:=ih (k+1) hrest hts1 hz' hkm hxl (e2.trans hp) (e3.trans hb) D'
  refine ⟨fun i hi1 hi2 => ?_,h2,h3⟩
  rcases Nat.eq_or_lt_of_le hi1 with e | e
  ·subst e
   subst ht1
   exact ⟨o,s,st.tmps,st.H,ho',hxk,D,F,hsub,qIV ho' hgd hgo⟩
  exact h1 i e hi2
theorem AW.runDraw1 (hmix : P.follows .mixedOrders = true) (m : Nat) (tss : List (List Nat)) {id : Nat} {st st1 : St} {sms : List Sm} (hchk : zX l m tss = true)
  (h1:DRun P G st (l.take m) tss st sms st1) (hconf:vS l m (sms.map Sm.sum)=true) (hlate:qX P G l.toArray Q (l.drop m) st1) :
  AW P G (.region id l.toArray true) Q st:=by
 intro c M μ tmps w hg r
 refine wp_region_any hmix ?_
 have hml:=qBE hchk
 have hxl:sms.length=m:=by
  rw [h1.len]; simp; omega
 obtain ⟨hgo,hp2,_,D2,hnd2⟩:=h1.told hchk hconf 0 (by simp) (by simp) (by simp) (Nat.zero_le _) hxl rfl rfl (DoneD.put0 st)
 have hsize:l.toArray.size=l.length:=by simp
 refine qMG hchk hconf st (fun i hi=>hgo i (Nat.zero_le _) hi) st1 hp2 D2 hnd2 hlate hg _ _ _ M μ st.tmps st.H tmps _ rfl ?_ (by simp) (fun j _ hj=>by simp [Array.getD]) (fun j o _ h=>by simp [Array.getD] at h) ?_ (r.same ⟨rfl,rfl,rfl,Nat.le_refl _,fun _ _=>rfl⟩)
 ·rw [hsize]
  exact Nat.le_trans (List.length_filter_le _ _) (by simp)
 have:(fun j=>(Array.replicate l.toArray.size false).getD j false)=fun j=>decide (j<0):=by
  funext j; simp [Array.getD]
 rw [this]; exact DoneD.put0 st
def xD (P:Program) (G:qR) (st0:St) (l:List Oper) (tss:List (List Nat)) (st:St) (acc:qDG) (K:qDG→St→Prop):Prop:=∃ sms st1,DRun P G st0 l tss st sms st1∧K (acc++sms.map Sm.sum) st1
variable {K:qDG→St→Prop} {st st' st0:St} {rest:List Oper} {ts:List Nat} {orc orc':List PD} {acc:qDG} {o:Oper} {sm:zIM} {v:Know→Prop}
theorem xD.nil (hn:ndB st.H=true) (k:K acc st):xD P G st0 [] tss st acc K:=⟨_,_,.nil (yT hn),by simpa using k⟩
theorem xD.one (hT : TOK P T) (h : ∀ C, qIY C T G st0 ts o st orc = some (v C, st', sm, orc')) (hv : v (kn P G)) (hgd : o.guard = none) (hn : ndB st.H = true) (k : xD P G st0 rest tss st' (acc ++ [sm]) K) :
  xD P G st0 (o::rest) (ts::tss) st acc K:=by
 have h1:=h (kn P G)
 unfold qIY at h1
 split at h1
 ·rename_i v1 s orc1 h2
  simp only [Option.some.injEq,Prod.mk.injEq] at h1
  obtain ⟨h3,rfl,rfl,rfl⟩:=h1
  obtain ⟨sms,st1,e,hk⟩:=k
  have S:=qBP hT (yT hn) h2 (h3 ▸ hv)
  exact ⟨s::sms,st1,.one hgd (yT hn) ⟨S.q,S.good,S.ps,S.new⟩ (fun p hp=>qDN st _ p (S.H p hp)) S.goes e,by simpa using hk⟩
 cases h1
theorem r1 (hT : TOK P T) (k : xD P G st0 rest tss st' (acc ++ [sm]) K) (h : ∀ C, qIY C T G st0 ts o st orc = some (v C, st', sm, orc') := by intro C; conv => lhs; simp) (hv : v (kn P G) := by first | with_reducible exact True.intro | omega | simp | (simp +contextual; omega)) (hgd : o.guard = none := by rfl) (hn : ndB st.H = true := by kernel_rfl) :
  xD P G st0 (o::rest) (ts::tss) st acc K:=xD.one hT h hv hgd hn k
theorem xD.call {x : Operand} {args : Array Operand} {tys : Array TypeId} {f : FuncId} {xs : List V} {H : List (Nat × Box)} {r : V} {ps : List Nat} {H' : List (Nat × Box)} (new : List Nat) (hc : AX P G f xs H r ps H') (ho : o.op = .call { callee := .value x, args := args, argTypes := tys }) (hgd : o.guard = none)
  (hcx:CX G ⟨yL st.tmps ts,H.map (·.1),H,st.base⟩ x args.toList f xs H r ps H') (hrest:(St.rest ⟨yL st.tmps ts,H.map (·.1),H,st.base⟩ H ps).H=[]) (hpins:∀ i∈ps,i∈(St.rest ⟨yL st.tmps ts,H.map (·.1),H,st.base⟩ H ps).pins)
  (hsub:∀ p∈H,p∈st.H) (hnew:∀ n∈new,st0.fresh n=true) (hky:∀ i,qM i H'=true→i∈H.map (·.1)∨i∈new) (hgood:∀ i∈V.ids r++xL H',i∈ps∨i∈new) (hn:ndB st.H=true) (hst:st.after o.dst ⟨r,H,H',ps,new,false⟩=st')
  (k:xD P G st0 rest tss st' (acc++[(Sm.mk r H H' ps new false).sum]) K):xD P G st0 (o::rest) (ts::tss) st acc K:=by
 subst hst
 obtain ⟨sms,st1,e,hk⟩:=k
 have hsn:(H.map (·.1)).Nodup:=hcx.2.2.2.2.1
 have y:=zA ho hc hcx
 refine ⟨⟨r,H,H',ps,new,false⟩::sms,st1,.one hgd (yT hn) ⟨fun h=>absurd h (by simp),hgood,hky,hnew⟩ hsub (fun c M μ st' tmps w R K hG rel hle hbox hnw k => ?_) e,by simpa using hk⟩
 exact qCS (s:=⟨r,H,H',ps,new,false⟩) (small:=⟨yL st.tmps ts,H.map (·.1),H,st.base⟩) (s':=({ St.rest (⟨yL st.tmps ts,H.map (·.1),H,st.base⟩:St) H ps with H:=H'++(St.rest (⟨yL st.tmps ts,H.map (·.1),H,st.base⟩:St) H ps).H }:St)) rfl hsn (by show H'=H'++_; rw [hrest,List.append_nil]) (fun i hi=>hpins i hi) hky hgood y c M μ st' tmps w R K hG rel hle hbox hnw k
theorem AW.drawR (hmix : P.follows .mixedOrders = true) (m : Nat) (tss : List (List Nat)) (orc2 : List PD) {id : Nat} {l : List Oper} (hchk : zX l m tss = true)
  (h:xD P G st (l.take m) tss st [] fun qVP st1=>vS l m qVP=true∧qB P G l.toArray Q (l.drop m) st1 orc2):AW P G (.region id l.toArray true) Q st:=by
 obtain ⟨sms,st1,e,hc,hl⟩:=h
 exact AW.runDraw1 hmix m tss hchk e (by simpa using hc) hl
end
set_option linter.unusedVariables false
section
variable {P:Program} {T:Tab} {G:qR} {l:List Oper} {tss:List (List Nat)} {K:qDG→St→Prop} {st st' st0:St} {rest:List Oper} {ts:List Nat} {acc:qDG} {o:Oper}
end
section
variable {P:Program} {T:Tab} {G:qR} {st:St}
end
section
variable {P:Program} {T:Tab} {G:qR} {st:St}
end
section
variable {P:Program} {T:Tab} {G:qR} {Q:Exit→St→Prop} {st:St}
theorem RowOf.drop {M:qY} {sz:Nat} {es:List PD} {news:List Value} (h:RowOf M sz es news) (n:Nat):RowOf M sz (es.drop n) (news.drop (n * sz)) where
 len:=by rw [List.length_drop,List.length_drop,h.len,Nat.sub_mul]
 one:=fun u hu=>h.one u (List.mem_of_mem_drop hu)
 elem:=fun i e he=>h.elem (n+i) e (by rwa [List.getElem?_drop] at he)
 get:=fun i e j d u he hd hu=>by
  rw [List.getElem?_drop] at he hu
  exact h.get (n+i) e j d u he hd (by rw [← hu]; congr 1; rw [Nat.add_mul]; omega)
end
section
variable {P:Program} {T:Tab} {G:qR} {l:List Oper} {tss:List (List Nat)} {K:qDG→St→Prop} {st st' st0:St} {rest:List Oper} {ts:List Nat} {acc:qDG} {o:Oper}
theorem xD.y (Hs H' : List (Nat × Box)) (x : V) (q : Bool) (hgd : o.guard = none) (y : zE P G o ⟨yL st.tmps ts, Hs.map (·.1), Hs, st.base⟩ x ⟨yL st.tmps ts, Hs.map (·.1), H', st.base⟩) (hq : q = true → H' = Hs) (hsub : ∀ p ∈ Hs, p ∈ st.H)
  (hids:∀ i∈V.ids x++xL H',i∈Hs.map (·.1)) (hn:ndB st.H=true) (hns:ndB Hs=true) (hst:st.after o.dst ⟨x,Hs,H',Hs.map (·.1),[],q⟩=st') (k:xD P G st0 rest tss st' (acc++[(Sm.mk x Hs H' (Hs.map (·.1)) [] q).sum]) K):xD P G st0 (o::rest) (ts::tss) st acc K:=by
 subst hst
 obtain ⟨sms,st1,e,hk⟩:=k
 have hgood:∀ i∈V.ids x++xL H',i∈Hs.map (·.1)∨i∈([]:List Nat):=fun i hi => .inl (hids i hi)
 have hky:∀ i,qM i H'=true→i∈Hs.map (·.1)∨i∈([]:List Nat):=fun i hi => .inl (hids i (List.mem_append.2 (.inr (qAX hi))))
 refine ⟨⟨x,Hs,H',Hs.map (·.1),[],q⟩::sms,st1,.one hgd (yT hn) ⟨hq,hgood,hky,by simp⟩ hsub (fun c M μ st' tmps w R K hG rel hle hbox hnw k => ?_) e,by simpa using hk⟩
 exact qCS (s:=⟨x,Hs,H',Hs.map (·.1),[],q⟩) (small:=⟨yL st.tmps ts,Hs.map (·.1),Hs,st.base⟩) (s':=⟨yL st.tmps ts,Hs.map (·.1),H',st.base⟩) rfl (yT hns) rfl (fun i hi=>hi) hky hgood y c M μ st' tmps w R K hG rel hle hbox hnw k
end
section
variable {P:Program} {T:Tab} {G:qR} {Q:Exit→St→Prop} {st:St}
end
section
variable {P:Program} {T:Tab} {G:qR} {l:List Oper} {tss:List (List Nat)} {K:qDG→St→Prop} {st st' st0:St} {rest:List Oper} {ts:List Nat} {acc:qDG} {o:Oper}
end
section
variable {P:Program} {T:Tab} {G:qR} {Q:Exit→St→Prop}
def vT (s s':St):Prop:=∀ c M μ tmps w,Rel c M μ s tmps w→Rel c M μ s' tmps w
theorem vT.of {s s':St} (h:St.Le s s'):vT s s':=fun _ _ _ _ _ r=>r.weaken h
theorem AW.runSet (hmix : P.follows .mixedOrders = true) {id : Nat} {l : List Oper} {st : St} (X : (Nat → Bool) → St) (h0 : ∀ L, (∀ j, j < l.length → L j = false) → vT st (X L))
  (hback:∀ i o,l[i]?=some o→∀ e∈o.after,Region.binds .any e=true→e.on<i)
  (step:∀ (L:Nat→Bool) (i:Nat) (o:Oper),l[i]?=some o→L i=false→(∀ e∈o.after,Region.binds .any e=true→L e.on=true) →
   (∀ j o',l[j]?=some o'→L j=true→∀ e∈o'.after,Region.binds .any e=true→L e.on=true) →
   o.guard=none∧∃ x st',zE P G o (X L) x st'∧∀ L',(∀ j,j<l.length→L' j=(L j || j == i))→vT (st'.put o.dst x) (X L'))
  (hend:∀ L,(∀ j,j<l.length→L j=true)→Q .normal (X L)):AW P G (.region id l.toArray true) Q st:=by
 intro c M μ tmps w hg r
 refine wp_region_any hmix ?_
 have key : ∀ (n fuel : Nat) (listed : Array Bool) (M : qY) (μ : Mu) (tmps : Array Value) (w : World), n = ((List.range l.length).filter fun j => !listed.getD j false).length → n ≤ fuel → listed.size = l.length →
   (∀ j o',l[j]?=some o'→listed.getD j false=true→∀ e∈o'.after,Region.binds .any e=true→listed.getD e.on false=true) →
   Rel c M μ (X fun j=>listed.getD j false) tmps w→wpAny P .any l.toArray (zFS c Q) fuel listed ⟨tmps,[]⟩ w:=by
  intro n
  induction n using Nat.strongRecOn with
  | _ n ih =>
  intro fuel listed M μ tmps w hn hf hsz hdown r
  have hready:∀ i,i∈Region.ready .any l.toArray listed→∃ o,l[i]?=some o∧listed.getD i false=false∧∀ e∈o.after,Region.binds .any e=true→listed.getD e.on false=true:=fun i hi=>by
   obtain ⟨h1,o,ho,hd⟩:=mem_ready.1 hi
   have ho':l[i]?=some o:=by simpa using ho
   have hil:i<l.length:=(List.getElem?_eq_some_iff.1 ho').1
   refine ⟨o,ho', ?_,hd⟩
   have e1:i<listed.size:=by omega
   simp [e1] at h1 ⊢
   exact h1
  have hnil:Region.ready .any l.toArray listed=[]→Q .normal (X fun j=>listed.getD j false):=fun hr=>by
   refine hend _ fun j hj => ?_
   induction j using Nat.strongRecOn with
   | _ j ihj =>
   cases hv:listed.getD j false with
   | true=>rfl
   | false =>
    have hr0:j∈Region.ready .any l.toArray listed:=by
     refine mem_ready.2 ⟨?_,l[j],by simp [hj],fun e he hb => ?_⟩
     ·have e1:j<listed.size:=by omega
      simp [e1] at hv ⊢
      exact hv
     have hlt:=hback j l[j] (by simp [hj]) e he hb
     exact ihj _ hlt (by omega)
    rw [hr] at hr0; cases hr0
  cases fuel with
  | zero =>
   have hr:Region.ready .any l.toArray listed=[]:=by
    cases hq:Region.ready .any l.toArray listed with
    | nil=>rfl
    | cons i rest =>
     obtain ⟨o,ho,hu,_⟩:=hready i (by rw [hq]; simp)
     have hmem:i∈(List.range l.length).filter fun j => !listed.getD j false:=by
      refine List.mem_filter.2 ⟨List.mem_range.2 (List.getElem?_eq_some_iff.1 ho).1, ?_⟩
      show (!listed.getD i false)=true
      rw [hu]; rfl
     have:=List.length_pos_of_mem hmem
     omega
   exact ⟨hr,_,M,μ,r,rfl,hnil hr⟩
  | succ fuel =>
   refine ⟨fun hr=>⟨_,M,μ,r,rfl,hnil hr⟩,fun i hi => ?_⟩
   obtain ⟨o,ho,hu,hd⟩:=hready i hi
   have hil:i<l.length:=(List.getElem?_eq_some_iff.1 ho).1
   obtain ⟨hgd,x,st',y,hle⟩:=step _ i o ho hu hd hdown
   unfold wpOp
   rw [show l.toArray[i]?=some o by simpa using ho]
   show if Region.wanted o (yielded l.toArray tmps)=true then _ else _
   rw [if_pos (by simp [Region.wanted,hgd])]
   refine .inl (jR (y c M μ tmps w hg r) ?_)
   rintro u w' ⟨M',μ',r',hv⟩
   have hget:∀ j,(listed.setIfInBounds i true).getD j false=(listed.getD j false || j == i):=fun j=>by
    by_cases hji:j=i
    ·subst hji; simp [Array.getD,show j<listed.size by omega]
    simp only [Array.getD_eq_getD_getElem?,Array.getElem?_setIfInBounds_ne (Ne.symm hji)]
    simp [hji]
   have hcnt:((List.range l.length).filter fun j => !(listed.setIfInBounds i true).getD j false).length<n:=by
    rw [hn]
    have hsub:((List.range l.length).filter fun j => !(listed.setIfInBounds i true).getD j false)=((List.range l.length).filter fun j => !listed.getD j false).filter (fun j=>j != i):=by
     rw [List.filter_filter]
     refine List.filter_congr fun j _ => ?_
     rw [hget]
     generalize listed.getD j false=z
     by_cases h1:j=i
     ·subst h1; cases z <;> simp
     have e:(j == i)=false:=by simpa using h1
     cases z <;> simp [e,bne]
    rw [hsub]
    exact List.length_filter_lt_length_iff_exists.2 ⟨i,List.mem_filter.2 ⟨List.mem_range.2 hil,by show (!listed.getD i false)=true; rw [hu]; rfl⟩,by simp⟩
   rw [Act.put_tmps]
   refine ih _ hcnt fuel _ M' μ' _ w' rfl (by omega) (by simpa using hsz) ?_ ?_
   ·intro j o' ho' hj e he hb
    rw [hget] at hj ⊢
    by_cases hji:j=i
    ·subst hji
     rw [ho] at ho'; cases ho'
     rw [hd e he hb]; rfl
    have:listed.getD j false=true:=by simpa [hji] using hj
    rw [hdown j o' ho' this e he hb]; rfl
   exact hle _ (fun j _=>hget j) c M' μ' _ w' (r'.put hv o.dst)
 have hfalse:∀ j,(Array.replicate l.toArray.size false).getD j false=false:=fun j=>by simp [Array.getD]
 refine key _ _ _ M μ tmps _ rfl ?_ (by simp) (fun j o' _ h=>by rw [hfalse] at h; cases h) (h0 _ (fun j _=>hfalse j) c M μ tmps _ (r.same ⟨rfl,rfl,rfl,Nat.le_refl _,fun _ _=>rfl⟩))
 exact Nat.le_trans (List.length_filter_le _ _) (by simp)
theorem AW.seqRunSet (hmix : P.follows .mixedOrders = true) {id : Nat} {l : List Oper} {b : Code} {st : St} (X : (Nat → Bool) → St) (h0 : ∀ L, (∀ j, j < l.length → L j = false) → vT st (X L))
  (hback:∀ i o,l[i]?=some o→∀ e∈o.after,Region.binds .any e=true→e.on<i)
  (step:∀ (L:Nat→Bool) (i:Nat) (o:Oper),l[i]?=some o→L i=false→(∀ e∈o.after,Region.binds .any e=true→L e.on=true) →
   (∀ j o',l[j]?=some o'→L j=true→∀ e∈o'.after,Region.binds .any e=true→L e.on=true) →
   o.guard=none∧∃ x st',zE P G o (X L) x st'∧∀ L',(∀ j,j<l.length→L' j=(L j || j == i))→vT (st'.put o.dst x) (X L'))
  (hend:∀ L,(∀ j,j<l.length→L j=true)→AW P G b Q (X L)):AW P G (.seq (.region id l.toArray true) b) Q st :=
 AW.seq (AW.runSet hmix X h0 hback step hend)
theorem RBox.mpx_of {M:qY} {μ:Mu} {w:World} {id:Nat} (r:RBox M μ w id (.mp [] [])):RBox M μ w id (.mpx [] []):=by
 cases r with
 | @mp _ _ b clock es h0 hv h3 hB h4 h5 h6 h7 =>
  have he:es = #[]:=Array.size_eq_zero_iff.1 (by simpa using h4)
  subst he
  exact .mpx h0 hv h3 hB rfl (fun e he=>by simp at he) (fun k hk=>by simp at hk)
theorem RBox.mpx_perm {M : qY} {μ : Mu} {w : World} {id : Nat} {ks ks' : List (List UInt8)} {vs vs' : List V} (r : RBox M μ w id (.mpx ks vs)) (hl : ks'.length = vs'.length)
  (h1:∀ p∈ks.zip vs,p∈ks'.zip vs') (h2:∀ k∈ks',k∈ks):RBox M μ w id (.mpx ks' vs'):=by
 cases r with
 | mpx h0 hv h3 hB hl0 h4 h5 =>
  refine .mpx h0 hv h3 hB hl (fun e he => ?_) (fun k hk=>h5 k (h2 k hk))
  obtain ⟨i,ba,g1,g2,g3,g4⟩:=h4 e he
  have hi:i<ks.length:=(List.getElem?_eq_some_iff.1 g2).1
  have hx:vs[i]?=some (vs[i]'(by omega)):=List.getElem?_eq_getElem _
  have hz:(ks.zip vs)[i]?=some (ba.data.toList,vs[i]'(by omega)):=List.getElem?_zip_eq_some.2 ⟨g2,hx⟩
  obtain ⟨j,hj,hje⟩:=List.mem_iff_getElem.1 (h1 _ (List.mem_of_getElem? hz))
  obtain ⟨k1,k2⟩:=List.getElem?_zip_eq_some.1 (List.getElem?_eq_some_iff.2 ⟨hj,hje⟩)
  refine ⟨j,ba,g1,k1,g3,fun x hx' => ?_⟩
  simp only at k2
  rw [k2] at hx'; cases hx'
  exact g4 _ hx
theorem Rel.boxAs {c:Ctx} {M:qY} {μ:Mu} {st:St} {tmps:Array Value} {w:World} (r:Rel c M μ st tmps w) {H':List (Nat × Box)} (hk:H'.map (·.1)=st.H.map (·.1)) (hb:∀ i bx,(i,bx)∈H'→RBox M μ w i bx):Rel c M μ { st with H:=H' } tmps w:=by
 have hkey:∀ i,qM i H'=true→qM i st.H=true:=fun i h=>by
  rw [zN] at h ⊢; rw [← hk]; exact h
 exact ⟨r.mem,r.ext,r.old,r.slots,r.pins,hb,by rw [hk]; exact r.nodup,fun i j b hi hj=>r.inj i j b (hkey i hi) (hkey j hj),fun i b hi=>r.own i b (hkey i hi),r.size,r.below⟩
theorem qQJ {es : Array MapEntry} {ks : List (List UInt8)} {vs : List V} {M : qY} {μ : Mu} (h4 : ∀ e ∈ es.toList, ∃ (i : Nat) (ba : ByteArray), e.key = .string ba ∧ ks[i]? = some ba.data.toList ∧ ba.data.toList.length ≤ maxLen ∧ ∀ x, vs[i]? = some x → RV M μ e.val x) :
  ∀ x∈es.toList,MapKept.IsKey .string x.key:=fun x hx=>by
 obtain ⟨i,ba,g1,_⟩:=h4 x hx
 rw [g1]; trivial
variable {st:St}
theorem qDJ (hT : TOK P T) {o : Oper} {t : TypeId} {m k y : Operand} {kt et : TypeId} {p q q' : Prop} {id : Nat} {s : List UInt8} {v : V} {ks : List (List UInt8)} {vs : List V} (ho : o.op = .insert t m k y) (hk : wE T t = some (.map kt et)) (hkt : wE T kt = some .str)
  (h1:st.arg G m=(p,.ms id)) (hp:p) (h2:st.arg G k=(q,.p (.str s))) (hq:q) (h3:st.arg G y=(q',v)) (hq':q') (hb:zW id st.H=some (.mpx ks vs)) (hnk:s ∉ ks):zE P G o st .dead { st with H:=zZ id (.mpx (ks++[s]) (vs++[v])) st.H }:=by
 intro c M μ tmps w hg r
 have hd:=hT.map hk
 have hdk:=hT.str hkt
 have e1:=qF hg r h1 hp
 have e2:=(qF hg r h2 hq).p_inv
 have e3:=qF hg r h3 hq'
 generalize hu1:Act.eval ⟨tmps,[]⟩ m=u1 at e1
 generalize hu2:Act.eval ⟨tmps,[]⟩ k=u2 at e2
 generalize hu3:Act.eval ⟨tmps,[]⟩ y=u3 at e3
 cases e1 with
 | ms hval hone =>
 cases e2 with
 | @str ba _ hba hlen =>
 have hm:=zP hb
 have hbx:=r.box id _ hm
 cases hbx with
 | @mpx _ _ b clock es h0 hv h3 hB hl h4 h5 =>
 rw [hv] at hval
 subst hval
 have hks:=qQJ h4
 have hik:MapKept.IsKey .string (.string ba):=trivial
 have hbl:b<w.heap.size:=(r.own id b (qH.2 ⟨_,hm⟩) h0).2.1
 rcases MapKept.findNow_spec hik es.toList 0 hks with ⟨g1,g2⟩ | ⟨j,e',g1,g2,g3⟩
 ·have e:(execOp (Act.eval ⟨tmps,[]⟩) o).run P w = .ok .skip { w with heap:=w.heap.setIfInBounds b (.map (es.push { key := .string ba,val:=u3,born:=clock }) (clock+1)) }:=by
   simp [execOp,ho,hu1,hu2,hu3,Instr.mapUpdate,run_underlying hd,MapKept.run_getObj_map h3,MapKept.run_checkKey hdk hik,MapKept.run_findKey hdk g1,MapKept.run_setObj_map _ h3,Result.andThen]
  rw [e]
  refine ⟨M,μ,r.write (qH.2 ⟨_,hm⟩) h0 ⟨rfl,rfl,rfl,by simp,fun k hk=>by simp [Array.getElem?_setIfInBounds_ne (Ne.symm hk)]⟩ (.mpx (clock:=clock+1) (es:=es.push { key := .string ba,val:=u3,born:=clock }) h0 hv ?_ (hB.push _ _) (by simp [hl]) ?_ ?_),.dead⟩
  ·simp [hbl]
  ·intro e he
   rw [Array.toList_push,List.mem_append] at he
   rcases he with he | he
   ·obtain ⟨i,ba',k1,k2,k3,k4⟩:=h4 e he
    have hi:i<ks.length:=(List.getElem?_eq_some_iff.1 k2).1
    refine ⟨i,ba',k1,by rw [List.getElem?_append_left hi]; exact k2,k3,fun x hx => ?_⟩
    rw [List.getElem?_append_left (by omega)] at hx
    exact k4 x hx
   rw [List.mem_singleton] at he; subst he
   refine ⟨ks.length,ba,rfl,by rw [hba]; simp,by rw [hba]; exact hlen,fun x hx => ?_⟩
   rw [List.getElem?_append_right (by omega),hl] at hx
   simp at hx; subst hx
   exact e3
  intro k hk'
  rcases List.mem_append.1 hk' with hk' | hk'
  ·obtain ⟨e,he,ba',k1,k2⟩:=h5 k hk'
   exact ⟨e,by rw [Array.toList_push]; exact List.mem_append_left _ he,ba',k1,k2⟩
  rw [List.mem_singleton] at hk'; subst hk'
  exact ⟨_,by rw [Array.toList_push]; exact List.mem_append_right _ (List.mem_singleton.2 rfl),ba,rfl,hba⟩
 exfalso
 obtain ⟨i,ba',k1,k2,_⟩:=h4 e' (List.mem_of_getElem? g2)
 rw [g3] at k1
 cases k1
 rw [hba] at k2
 exact hnk (List.mem_of_getElem? k2)
theorem qDH (hT : TOK P T) {o : Oper} {t : TypeId} {m k : Operand} {ok : Bool} {kt et : TypeId} {p q : Prop} {id : Nat} {s : List UInt8} {v : V} {ks : List (List UInt8)} {vs : List V} (ho : o.op = .lookup t m k ok) (hk : wE T t = some (.map kt et)) (hkt : wE T kt = some .str)
  (h1:st.arg G m=(p,.ms id)) (hp:p) (h2:st.arg G k=(q,.p (.str s))) (hq:q) (hb:zW id st.H=some (.mpx ks vs)) (hnd:ks.Nodup) (i:Nat) (hi:ks[i]?=some s) (hx:vs[i]?=some v):zE P G o st (if ok then .tuple [v,.p (.bool true)] else v) st:=by
 intro c M μ tmps w hg r
 have hd:=hT.map hk
 have hdk:=hT.str hkt
 have e1:=qF hg r h1 hp
 have e2:=(qF hg r h2 hq).p_inv
 generalize hu1:Act.eval ⟨tmps,[]⟩ m=u1 at e1
 generalize hu2:Act.eval ⟨tmps,[]⟩ k=u2 at e2
 cases e1 with
 | ms hval hone =>
 cases e2 with
 | @str ba _ hba hlen =>
 have hbx:=r.box id _ (zP hb)
 cases hbx with
 | @mpx _ _ b clock es h0 hv h3 hB hl h4 h5 =>
 rw [hv] at hval
 subst hval
 have hks:=qQJ h4
 have hik:MapKept.IsKey .string (.string ba):=trivial
 rcases MapKept.findNow_spec hik es.toList 0 hks with ⟨g1,g2⟩ | ⟨j,e',g1,g2,g3⟩
 ·exfalso
  obtain ⟨e,he,ba',k1,k2⟩:=h5 s (List.mem_of_getElem? hi)
  refine g2 e he ?_
  rw [k1]
  congr 1
  exact zFJ (k2.trans hba.symm)
 obtain ⟨i',ba',k1,k2,k3,k4⟩:=h4 e' (List.mem_of_getElem? g2)
 rw [g3] at k1
 cases k1
 rw [hba] at k2
 obtain ⟨a1,a2⟩:=List.getElem?_eq_some_iff.1 k2
 obtain ⟨b1,b2⟩:=List.getElem?_eq_some_iff.1 hi
 have hii:i'=i:=(List.getElem_inj hnd).1 (a2.trans b2.symm)
 subst hii
 have hrv:=k4 v hx
 have e:(execOp (Act.eval ⟨tmps,[]⟩) o).run P w = .ok (.value (if ok then .tuple #[e'.val,.bool true] else e'.val)) w:=by
  cases ok <;> simp [execOp,ho,hu1,hu2,Instr.lookup,run_underlying hd,MapKept.run_getObj_map h3,MapKept.run_checkKey hdk hik,MapKept.run_findKey hdk g1,Result.andThen]
 rw [e]
 refine ⟨M,μ,r, ?_⟩
 cases ok with
 | false=>exact hrv
 | true =>
  refine .tuple rfl fun i u x hu hx => ?_
  match i with
  | 0=>simp at hu hx; subst hu; subst hx; exact hrv
  | 1=>simp at hu hx; subst hu; subst hx; exact .p (.bool _)
  | i+2=>simp at hu
theorem qDI (hT : TOK P T) {o : Oper} {t : TypeId} {m k : Operand} {ok : Bool} {kt et : TypeId} {ti : TI} {p q : Prop} {id : Nat} {s : List UInt8} {d : PD} {ks : List (List UInt8)} {vs : List V} (ho : o.op = .lookup t m k ok) (hk : wE T t = some (.map kt et)) (hkt : wE T kt = some .str) (hti : T et = some ti) (hz : ti.zero = .p d)
  (h1:st.arg G m=(p,.ms id)) (hp:p) (h2:st.arg G k=(q,.p (.str s))) (hq:q) (hb:zW id st.H=some (.mpx ks vs)) (hnk:s ∉ ks):zE P G o st (if ok then .tuple [.p d,.p (.bool false)] else .p d) st:=by
 intro c M μ tmps w hg r
 have hd:=hT.map hk
 have hdk:=hT.str hkt
 have e1:=qF hg r h1 hp
 have e2:=(qF hg r h2 hq).p_inv
 generalize hu1:Act.eval ⟨tmps,[]⟩ m=u1 at e1
 generalize hu2:Act.eval ⟨tmps,[]⟩ k=u2 at e2
 cases e1 with
 | ms hval hone =>
 cases e2 with
 | @str ba _ hba hlen =>
 have hbx:=r.box id _ (zP hb)
 cases hbx with
 | @mpx _ _ b clock es h0 hv h3 hB hl h4 h5 =>
 rw [hv] at hval
 subst hval
 have hks:=qQJ h4
 have hik:MapKept.IsKey .string (.string ba):=trivial
 rcases MapKept.findNow_spec hik es.toList 0 hks with ⟨g1,g2⟩ | ⟨j,e',g1,g2,g3⟩
 ·obtain ⟨z,hz,hrz⟩:=qNT hT hti hz M μ w
  have e:(execOp (Act.eval ⟨tmps,[]⟩) o).run P w = .ok (.value (if ok then .tuple #[z,.bool false] else z)) w:=by
   cases ok <;> simp [execOp,ho,hu1,hu2,Instr.lookup,run_underlying hd,MapKept.run_getObj_map h3,MapKept.run_checkKey hdk hik,MapKept.run_findKey hdk g1,hz,Result.andThen]
  rw [e]
  refine ⟨M,μ,r, ?_⟩
  cases ok with
  | false=>exact hrz
  | true =>
   refine .tuple rfl fun i u x hu hx => ?_
   match i with
   | 0=>simp at hu hx; subst hu; subst hx; exact hrz
   | 1=>simp at hu hx; subst hu; subst hx; exact .p (.bool _)
   | i+2=>simp at hu
 exfalso
 obtain ⟨i,ba',k1,k2,_⟩:=h4 e' (List.mem_of_getElem? g2)
 rw [g3] at k1
 cases k1
 rw [hba] at k2
 exact hnk (List.mem_of_getElem? k2)
end
set_option maxHeartbeats 4000000
section
variable {P:Program} {T:Tab} {G:qR} {Q:Exit→St→Prop}
theorem vA (hT:TOK P T) {st:St} {o:Oper} {orc orc':List PD} {v:Prop} {x:V} (h:kO T G st o.op orc=some (v,x,orc')) (hv:v):zE P G o st x st:=by
 intro c M μ tmps w hg r
 obtain ⟨u,e,hu⟩:=qIM hT hg r h hv
 rw [e]
 exact ⟨M,μ,r,hu⟩
def dd (b:Bool) (v:V):V:=if b=true then v else .dead
@[simp] theorem zOL (v:V):dd true v=v:=rfl
@[simp] theorem qML (v:V):dd false v = .dead:=rfl
theorem zEW {id:Nat} {b:Bool} {v:V} (h:V.noRef id v=true):V.noRef id (dd b v)=true:=by cases b <;> simp [h,V.noRef]
def dl {α:Type} (b:Bool) (k:α):List α:=if b=true then [k] else []
@[simp] theorem qZB {α:Type} (k:α):dl true k=[k]:=rfl
@[simp] theorem zEQ {α:Type} (k:α):dl false k=[]:=rfl
def qDX (t tj f1 f2 f3 f4:Nat) (b1 b2 b3 b4:ByteArray):List (Option Nat × Op):=[(some 3,.makeMap t none),
 (some 4,.move (.tmp 0)),(some 5,.nilCheck (.tmp 4)),(some 6,.fieldAddr tj (.tmp 5) f1),(none,.insert t (.tmp 3) (.const (.string b1)) (.tmp 6)),
 (some 7,.move (.tmp 0)),(some 8,.nilCheck (.tmp 7)),(some 9,.fieldAddr tj (.tmp 8) f2),(none,.insert t (.tmp 3) (.const (.string b2)) (.tmp 9)),
 (some 10,.move (.tmp 0)),(some 11,.nilCheck (.tmp 10)),(some 12,.fieldAddr tj (.tmp 11) f3),(none,.insert t (.tmp 3) (.const (.string b3)) (.tmp 12)),
 (some 13,.move (.tmp 0)),(some 14,.nilCheck (.tmp 13)),(some 15,.fieldAddr tj (.tmp 14) f4),(none,.insert t (.tmp 3) (.const (.string b4)) (.tmp 15)),
 (some 16,.move (.tmp 3)),(some 2,.assign (.tmp 16))]
def zAW:List (List Nat):=[[],[],[1],[2],[0,3],[],[5],[6],[0,7],[],[9],[10],[0,11],[],[13],[14],[0,15],
 [0,1,2,3,4,5,6,7,8,9,10,11,12,13,14,15,16],[17,0,1,2,3,4,5,6,7,8,9,10,11,12,13,14,15,16,17]]
def zU (n jd mid o1 o2 o3 o4 bs:Nat) (k1 k2 k3 k4:List UInt8) (ps:List Nat) (H0:List (Nat × Box)) (L:Nat→Bool):St :=
 ⟨zI n [(0,.ptr jd 0),(2,dd (L 18) (.ms mid)),(3,dd (L 0) (.ms mid)),(4,dd (L 1) (.ptr jd 0)),(5,dd (L 2) (.ptr jd 0)),(6,dd (L 3) (.ptr jd o1)),(7,dd (L 5) (.ptr jd 0)),(8,dd (L 6) (.ptr jd 0)),(9,dd (L 7) (.ptr jd o2)),
  (10,dd (L 9) (.ptr jd 0)),(11,dd (L 10) (.ptr jd 0)),(12,dd (L 11) (.ptr jd o3)),(13,dd (L 13) (.ptr jd 0)),(14,dd (L 14) (.ptr jd 0)),(15,dd (L 15) (.ptr jd o4)),(16,dd (L 17) (.ms mid))],ps,
  dl (L 0) (mid,.mpx (dl (L 4) k1++dl (L 8) k2++dl (L 12) k3++dl (L 16) k4) (dl (L 4) (.ptr jd o1)++dl (L 8) (.ptr jd o2)++dl (L 12) (.ptr jd o3)++dl (L 16) (.ptr jd o4)))++H0,bs⟩
theorem qLV {n jd mid o1 o2 o3 o4 bs:Nat} {k1 k2 k3 k4:List UInt8} {ps:List Nat} {H0:List (Nat × Box)} (L:Nat→Bool) (hH0:(H0.map (·.1)).Nodup) (hky:qM mid H0=false):((zU n jd mid o1 o2 o3 o4 bs k1 k2 k3 k4 ps H0 L).H.map (·.1)).Nodup:=by
 cases h:L 0 with
 | false=>simpa [zU,h] using hH0
 | true =>
  simp only [zU,h,qZB,List.singleton_append,List.map_cons]
  exact List.nodup_cons.2 ⟨fun h=>(by have:=zN.2 h; rw [hky] at this; cases this),hH0⟩
theorem AW.mapLit (hT : TOK P T) (hmix : P.follows .mixedOrders = true) {id n jd mid o1 o2 o3 o4 bs t tj f1 f2 f3 f4 : Nat} {kt et : TypeId} {b1 b2 b3 b4 : ByteArray} {ps : List Nat} {H0 : List (Nat × Box)} {l : List Oper} {b : Code} {st : St} (hn : 17 ≤ n) (hm : mid = bs + 3)
  (hl:l.map (fun o=>(o.dst,o.op))=qDX t tj f1 f2 f3 f4 b1 b2 b3 b4) (hgd:∀ o∈l,o.guard=none) (hed:l.map (fun o=>(o.after.toList.filter (Region.binds .any)).map (·.on))=zAW)
  (hk:wE T t=some (.map kt et)) (hkt:wE T kt=some .str)
  (hf1:∀ (st:St) s,st.arg G (.tmp s)=(True,.ptr jd 0)→kO T G st (.fieldAddr tj (.tmp s) f1) []=some (True,.ptr jd o1,[]))
  (hf2:∀ (st:St) s,st.arg G (.tmp s)=(True,.ptr jd 0)→kO T G st (.fieldAddr tj (.tmp s) f2) []=some (True,.ptr jd o2,[]))
  (hf3:∀ (st:St) s,st.arg G (.tmp s)=(True,.ptr jd 0)→kO T G st (.fieldAddr tj (.tmp s) f3) []=some (True,.ptr jd o3,[]))
  (hf4:∀ (st:St) s,st.arg G (.tmp s)=(True,.ptr jd 0)→kO T G st (.fieldAddr tj (.tmp s) f4) []=some (True,.ptr jd o4,[]))
  (hs1:b1.size≤9223372036854775807) (hs2:b2.size≤9223372036854775807) (hs3:b3.size≤9223372036854775807) (hs4:b4.size≤9223372036854775807)
  (hnd:[b1.data.toList,b2.data.toList,b3.data.toList,b4.data.toList].Nodup) (hjd:jd≠mid) (hps:mid ∉ ps) (hno:kL mid H0=true) (hky:qM mid H0=false)
  (h0:St.Le st (zU n jd mid o1 o2 o3 o4 bs b1.data.toList b2.data.toList b3.data.toList b4.data.toList ps H0 fun _=>false)) (hH0:(H0.map (·.1)).Nodup)
  (hend:AW P G b Q ⟨zI n [(2,.ms mid)],ps,(mid,.mpx [b1.data.toList,b2.data.toList,b3.data.toList,b4.data.toList] [.ptr jd o1,.ptr jd o2,.ptr jd o3,.ptr jd o4])::H0,bs⟩):AW P G (.seq (.region id l.toArray true) b) Q st:=by
 have hlen:l.length=19:=by have:=congrArg List.length hl; simpa [qDX] using this
 have hX:∀ L L':Nat→Bool,(∀ j,j<19→L j=L' j)→zU n jd mid o1 o2 o3 o4 bs b1.data.toList b2.data.toList b3.data.toList b4.data.toList ps H0 L=zU n jd mid o1 o2 o3 o4 bs b1.data.toList b2.data.toList b3.data.toList b4.data.toList ps H0 L':=fun L L' h=>by
  unfold zU
  simp only [h 0 (by omega),h 1 (by omega),h 2 (by omega),h 3 (by omega),h 4 (by omega),h 5 (by omega),h 6 (by omega),h 7 (by omega),h 8 (by omega),h 9 (by omega),h 10 (by omega),h 11 (by omega),h 12 (by omega),h 13 (by omega),h 14 (by omega),h 15 (by omega),h 16 (by omega),h 17 (by omega),h 18 (by omega)]
 have hops:∀ (i:Nat) (o:Oper),l[i]?=some o→(qDX t tj f1 f2 f3 f4 b1 b2 b3 b4)[i]?=some (o.dst,o.op):=fun i o h=>by rw [← hl,List.getElem?_map,h]; rfl
 have heds:∀ (i:Nat) (o:Oper),l[i]?=some o→∀ k,k∈zAW.getD i []→∃ e∈o.after,Region.binds .any e=true∧e.on=k:=fun i o h k hk=>by
  rw [← hed,List.getD_eq_getElem?_getD,List.getElem?_map,h] at hk
  simp only [Option.map_some,Option.getD_some,List.mem_map,List.mem_filter] at hk
  obtain ⟨e,⟨h1,h2⟩,h3⟩:=hk
  exact ⟨e,by simpa using h1,h2,h3⟩
 refine AW.seqRunSet hmix (zU n jd mid o1 o2 o3 o4 bs b1.data.toList b2.data.toList b3.data.toList b4.data.toList ps H0) (fun L hL => ?_) (fun i o h e he hb => ?_) (fun L i o ho hLi hE hdn=>⟨hgd o (List.mem_of_getElem? ho), ?_⟩) (fun L hL => ?_)
 ·rw [hX L (fun _=>false) (fun j hj=>hL j (by omega))]
  exact vT.of h0
 ·have hmem:e.on∈zAW.getD i []:=by
   rw [← hed,List.getD_eq_getElem?_getD,List.getElem?_map,h]
   simp only [Option.map_some,Option.getD_some,List.mem_map,List.mem_filter]
   exact ⟨e,⟨by simpa using he,hb⟩,rfl⟩
  have hi:i<19:=by have:=(List.getElem?_eq_some_iff.1 h).1; omega
  have key:∀ i,i<19→∀ k∈zAW.getD i [],k<i:=by decide
  exact key i hi _ hmem
 ·have hi:i<19:=by have:=(List.getElem?_eq_some_iff.1 ho).1; omega
  have hop:=hops i o ho
  have hE':∀ k,k∈zAW.getD i []→L k=true:=fun k hk=>by
   obtain ⟨e,he,hb,hon⟩:=heds i o ho k hk
   rw [← hon]; exact hE e he hb
  have hD:∀ j,j<19→L j=true→∀ k,k∈zAW.getD j []→L k=true:=fun j hj hLj k hk=>by
   obtain ⟨e,he,hb,hon⟩:=heds j l[j] (by simp [hlen,hj]) k hk
   rw [← hon]; exact hdn j l[j] (by simp [hlen,hj]) hLj e he hb
  have hno0:L 0=false→L 4=false∧L 8=false∧L 12=false∧L 16=false∧L 17=false∧L 18=false:=fun h=>by
   refine ⟨?_, ?_, ?_, ?_, ?_, ?_⟩ <;> (rw [← Bool.not_eq_true]; intro hx; first | (have:=hD 4 (by omega) hx 0 (by decide); simp [h] at this; done) | (have:=hD 8 (by omega) hx 0 (by decide); simp [h] at this; done) | (have:=hD 12 (by omega) hx 0 (by decide); simp [h] at this; done) | (have:=hD 16 (by omega) hx 0 (by decide); simp [h] at this; done) | (have:=hD 17 (by omega) hx 0 (by decide); simp [h] at this; done) | (have:=hD 18 (by omega) hx 0 (by decide); simp [h] at this; done))
  have hLL:∀ L':Nat→Bool,(∀ j,j<l.length→L' j=(L j || j == i))→zU n jd mid o1 o2 o3 o4 bs b1.data.toList b2.data.toList b3.data.toList b4.data.toList ps H0 L'=zU n jd mid o1 o2 o3 o4 bs b1.data.toList b2.data.toList b3.data.toList b4.data.toList ps H0 (fun j=>L j || j == i):=fun L' h=>hX _ _ fun j hj=>h j (by omega)
  have hcase:i=0∨(i=1∨i=5∨i=9∨i=13)∨(i=2∨i=6∨i=10∨i=14)∨(i=3∨i=7∨i=11∨i=15)∨(i=4∨i=8∨i=12∨i=16)∨i=17∨i=18:=by omega
  have hnk:∀ k,k<17→k<n:=fun k hk=>by omega
  have hndp:=fun L=>qLV (n:=n) (jd:=jd) (o1:=o1) (o2:=o2) (o3:=o3) (o4:=o4) (bs:=bs) (k1:=b1.data.toList) (k2:=b2.data.toList) (k3:=b3.data.toList) (k4:=b4.data.toList) (ps:=ps) L hH0 hky
  rcases hcase with h | h | h | h | h | h | h
  ·subst h
   simp only [qDX,List.getElem?_cons_zero,Option.some.injEq,Prod.mk.injEq] at hop
   obtain ⟨h1,h2⟩:=hop
   obtain ⟨q4,q8,q12,q16,q17,q18⟩:=hno0 hLi
   refine ⟨.ms mid,{ zU n jd mid o1 o2 o3 o4 bs b1.data.toList b2.data.toList b3.data.toList b4.data.toList ps H0 L with H:=(mid,.mp [] [])::H0 },qPB hT (orc:=[]) (orc':=[]) (vc:=((zU n jd mid o1 o2 o3 o4 bs b1.data.toList b2.data.toList b3.data.toList b4.data.toList ps H0 L).fresh mid=true)) (by unfold eff; simp only [← h2,← h1]; simp [qAY,zU,hm,hLi]) ?_,fun L' h' => ?_⟩
   ·simp only [St.fresh,zU,hLi,q17,q18,qML,zEQ,List.nil_append,hno,hky,Bool.and_eq_true]
    refine ⟨⟨⟨qKG ?_,by simpa using hps⟩,trivial⟩,by simp⟩
    have hr:∀ b o,V.noRef mid (dd b (.ptr jd o))=true:=fun b o=>zEW (by simpa [V.noRef] using hjd)
    simp [qHJ,hr,V.noRef,hjd]
   rw [hLL L' h',← h1]
   intro c M μ tmps w r
   have hb:=r.box
   refine Rel.weaken (Rel.boxAs (H':=(mid,.mpx [] [])::H0) r rfl (fun i bx hi => ?_)) ⟨?_,rfl, ?_,hndp _⟩
   ·rcases List.mem_cons.1 hi with hi | hi
    ·cases hi; exact RBox.mpx_of (hb mid _ (List.mem_cons_self))
    exact hb i bx (List.mem_cons_of_mem _ hi)
   ·simp [St.put,zU,qFB,hLi]
   simp [zU,hLi,q4,q8,q12,q16]
  ·rcases h with rfl | rfl | rfl | rfl <;>
   ·simp only [qDX,List.getElem?_cons_succ,List.getElem?_cons_zero,Option.some.injEq,Prod.mk.injEq] at hop
    obtain ⟨h1,h2⟩:=hop
    refine ⟨.ptr jd 0,_,vA hT (orc:=[]) (orc':=[]) (v:=True) (by rw [← h2]; simp [kO,zU,zR,hnk]) trivial,fun L' h'=>vT.of ?_⟩
    rw [hLL L' h',← h1]
    refine ⟨?_,rfl, ?_,hndp _⟩
    ·simp [St.put,zU,qFB]
    simp [St.put,zU]
  ·rcases h with rfl | rfl | rfl | rfl <;>
   ·simp only [qDX,List.getElem?_cons_succ,List.getElem?_cons_zero,Option.some.injEq,Prod.mk.injEq] at hop
    obtain ⟨h1,h2⟩:=hop
    have hp:=hE' _ (List.mem_singleton.2 rfl)
    refine ⟨.ptr jd 0,_,vA hT (orc:=[]) (orc':=[]) (v:=True) (by rw [← h2]; simp [kO,zU,zR,hnk,hp]) trivial,fun L' h'=>vT.of ?_⟩
    rw [hLL L' h',← h1]
    refine ⟨?_,rfl, ?_,hndp _⟩
    ·simp [St.put,zU,qFB]
    simp [St.put,zU]
  ·rcases h with rfl | rfl | rfl | rfl
   ·simp only [qDX,List.getElem?_cons_succ,List.getElem?_cons_zero,Option.some.injEq,Prod.mk.injEq] at hop
    obtain ⟨h1,h2⟩:=hop
    have hp:=hE' 2 (by decide)
    refine ⟨.ptr jd o1,_,vA hT (orc:=[]) (orc':=[]) (v:=True) (by rw [← h2]; exact hf1 _ _ (by simp [zU,zR,hnk,hp])) trivial,fun L' h'=>vT.of ?_⟩
    rw [hLL L' h',← h1]
    exact ⟨by simp [St.put,zU,qFB],rfl,by simp [St.put,zU],hndp _⟩
   ·simp only [qDX,List.getElem?_cons_succ,List.getElem?_cons_zero,Option.some.injEq,Prod.mk.injEq] at hop
    obtain ⟨h1,h2⟩:=hop
    have hp:=hE' 6 (by decide)
    refine ⟨.ptr jd o2,_,vA hT (orc:=[]) (orc':=[]) (v:=True) (by rw [← h2]; exact hf2 _ _ (by simp [zU,zR,hnk,hp])) trivial,fun L' h'=>vT.of ?_⟩
    rw [hLL L' h',← h1]
    exact ⟨by simp [St.put,zU,qFB],rfl,by simp [St.put,zU],hndp _⟩
   ·simp only [qDX,List.getElem?_cons_succ,List.getElem?_cons_zero,Option.some.injEq,Prod.mk.injEq] at hop
    obtain ⟨h1,h2⟩:=hop
    have hp:=hE' 10 (by decide)
    refine ⟨.ptr jd o3,_,vA hT (orc:=[]) (orc':=[]) (v:=True) (by rw [← h2]; exact hf3 _ _ (by simp [zU,zR,hnk,hp])) trivial,fun L' h'=>vT.of ?_⟩
    rw [hLL L' h',← h1]
    exact ⟨by simp [St.put,zU,qFB],rfl,by simp [St.put,zU],hndp _⟩
   simp only [qDX,List.getElem?_cons_succ,List.getElem?_cons_zero,Option.some.injEq,Prod.mk.injEq] at hop
   obtain ⟨h1,h2⟩:=hop
   have hp:=hE' 14 (by decide)
   refine ⟨.ptr jd o4,_,vA hT (orc:=[]) (orc':=[]) (v:=True) (by rw [← h2]; exact hf4 _ _ (by simp [zU,zR,hnk,hp])) trivial,fun L' h'=>vT.of ?_⟩
   rw [hLL L' h',← h1]
   exact ⟨by simp [St.put,zU,qFB],rfl,by simp [St.put,zU],hndp _⟩
  ·simp only [List.nodup_cons,List.mem_cons,List.not_mem_nil,not_or,not_false_eq_true,and_true,or_false,List.nodup_nil] at hnd
   obtain ⟨⟨n12,n13,n14⟩,⟨n23,n24⟩,n34⟩:=hnd
   have n21:=Ne.symm n12
   have n31:=Ne.symm n13
   have n41:=Ne.symm n14
   have n32:=Ne.symm n23
   have n42:=Ne.symm n24
   have n43:=Ne.symm n34
   have fin : ∀ (st' : St) (L' : Nat → Bool) (ks : List (List UInt8)) (vs : List V), L' 0 = true → st' = { zU n jd mid o1 o2 o3 o4 bs b1.data.toList b2.data.toList b3.data.toList b4.data.toList ps H0 L' with H := (mid, .mpx ks vs) :: H0 } →
     (∀ p∈ks.zip vs,p∈(dl (L' 4) b1.data.toList++dl (L' 8) b2.data.toList++dl (L' 12) b3.data.toList++dl (L' 16) b4.data.toList).zip (dl (L' 4) (V.ptr jd o1)++dl (L' 8) (V.ptr jd o2)++dl (L' 12) (V.ptr jd o3)++dl (L' 16) (V.ptr jd o4))) →
     (∀ k∈dl (L' 4) b1.data.toList++dl (L' 8) b2.data.toList++dl (L' 12) b3.data.toList++dl (L' 16) b4.data.toList,k∈ks) →
     vT st' (zU n jd mid o1 o2 o3 o4 bs b1.data.toList b2.data.toList b3.data.toList b4.data.toList ps H0 L'):=by
    intro st' L' ks vs hL0 e hz hkk c M μ tmps w r
    subst e
    have hb:=r.box
    refine Rel.boxAs (H':=(zU n jd mid o1 o2 o3 o4 bs b1.data.toList b2.data.toList b3.data.toList b4.data.toList ps H0 L').H) r (by simp [zU,hL0]) (fun i bx hi => ?_)
    simp only [zU,hL0,qZB,List.singleton_append,List.mem_cons] at hi
    rcases hi with hi | hi
    ·cases hi
     refine RBox.mpx_perm (hb mid _ (List.mem_cons_self)) ?_ hz hkk
     cases L' 4 <;> cases L' 8 <;> cases L' 12 <;> cases L' 16 <;> rfl
    exact hb i bx (List.mem_cons_of_mem _ hi)
   rcases h with rfl | rfl | rfl | rfl
   ·simp only [qDX,List.getElem?_cons_succ,List.getElem?_cons_zero,Option.some.injEq,Prod.mk.injEq] at hop
    obtain ⟨h1,h2⟩:=hop
    have hp:=hE' 3 (by decide)
    have hq:=hE' 0 (by decide)
    refine ⟨.dead,_,qDJ hT h2.symm hk hkt (p:=True) (id:=mid) (by simp [zU,zR,hnk,hq]) trivial (q:=True) (s:=b1.data.toList) (by simp [St.arg,St.ev,vE,hs1,V.strip,V.pur]) trivial (q':=True) (v := .ptr jd o1) (by simp [zU,zR,hnk,hp]) trivial (ks:=dl (L 4) b1.data.toList++dl (L 8) b2.data.toList++dl (L 12) b3.data.toList++dl (L 16) b4.data.toList) (vs:=dl (L 4) (.ptr jd o1)++dl (L 8) (.ptr jd o2)++dl (L 12) (.ptr jd o3)++dl (L 16) (.ptr jd o4)) (by simp [zU,zW,hq]) (by rw [hLi]; cases L 8 <;> cases L 12 <;> cases L 16 <;> simp [*]),fun L' h' => ?_⟩
    rw [hLL L' h',← h1]
    refine fin _ _ (dl (L 4) b1.data.toList++dl (L 8) b2.data.toList++dl (L 12) b3.data.toList++dl (L 16) b4.data.toList++[b1.data.toList]) (dl (L 4) (.ptr jd o1)++dl (L 8) (.ptr jd o2)++dl (L 12) (.ptr jd o3)++dl (L 16) (.ptr jd o4)++[.ptr jd o1]) (by simp [hq]) (by simp [St.put,zU,hq,zZ]) ?_ ?_
    ·rw [hLi]; cases L 8 <;> cases L 12 <;> cases L 16 <;> simp
    rw [hLi]; cases L 8 <;> cases L 12 <;> cases L 16 <;> simp
   ·simp only [qDX,List.getElem?_cons_succ,List.getElem?_cons_zero,Option.some.injEq,Prod.mk.injEq] at hop
    obtain ⟨h1,h2⟩:=hop
    have hp:=hE' 7 (by decide)
    have hq:=hE' 0 (by decide)
    refine ⟨.dead,_,qDJ hT h2.symm hk hkt (p:=True) (id:=mid) (by simp [zU,zR,hnk,hq]) trivial (q:=True) (s:=b2.data.toList) (by simp [St.arg,St.ev,vE,hs2,V.strip,V.pur]) trivial (q':=True) (v := .ptr jd o2) (by simp [zU,zR,hnk,hp]) trivial (ks:=dl (L 4) b1.data.toList++dl (L 8) b2.data.toList++dl (L 12) b3.data.toList++dl (L 16) b4.data.toList) (vs:=dl (L 4) (.ptr jd o1)++dl (L 8) (.ptr jd o2)++dl (L 12) (.ptr jd o3)++dl (L 16) (.ptr jd o4)) (by simp [zU,zW,hq]) (by rw [hLi]; cases L 4 <;> cases L 12 <;> cases L 16 <;> simp [*]),fun L' h' => ?_⟩
    rw [hLL L' h',← h1]
    refine fin _ _ (dl (L 4) b1.data.toList++dl (L 8) b2.data.toList++dl (L 12) b3.data.toList++dl (L 16) b4.data.toList++[b2.data.toList]) (dl (L 4) (.ptr jd o1)++dl (L 8) (.ptr jd o2)++dl (L 12) (.ptr jd o3)++dl (L 16) (.ptr jd o4)++[.ptr jd o2]) (by simp [hq]) (by simp [St.put,zU,hq,zZ]) ?_ ?_
    ·rw [hLi]; cases L 4 <;> cases L 12 <;> cases L 16 <;> simp
    rw [hLi]; cases L 4 <;> cases L 12 <;> cases L 16 <;> simp
   ·simp only [qDX,List.getElem?_cons_succ,List.getElem?_cons_zero,Option.some.injEq,Prod.mk.injEq] at hop
    obtain ⟨h1,h2⟩:=hop
    have hp:=hE' 11 (by decide)
    have hq:=hE' 0 (by decide)
    refine ⟨.dead,_,qDJ hT h2.symm hk hkt (p:=True) (id:=mid) (by simp [zU,zR,hnk,hq]) trivial (q:=True) (s:=b3.data.toList) (by simp [St.arg,St.ev,vE,hs3,V.strip,V.pur]) trivial (q':=True) (v := .ptr jd o3) (by simp [zU,zR,hnk,hp]) trivial (ks:=dl (L 4) b1.data.toList++dl (L 8) b2.data.toList++dl (L 12) b3.data.toList++dl (L 16) b4.data.toList) (vs:=dl (L 4) (.ptr jd o1)++dl (L 8) (.ptr jd o2)++dl (L 12) (.ptr jd o3)++dl (L 16) (.ptr jd o4)) (by simp [zU,zW,hq]) (by rw [hLi]; cases L 4 <;> cases L 8 <;> cases L 16 <;> simp [*]),fun L' h' => ?_⟩
    rw [hLL L' h',← h1]
    refine fin _ _ (dl (L 4) b1.data.toList++dl (L 8) b2.data.toList++dl (L 12) b3.data.toList++dl (L 16) b4.data.toList++[b3.data.toList]) (dl (L 4) (.ptr jd o1)++dl (L 8) (.ptr jd o2)++dl (L 12) (.ptr jd o3)++dl (L 16) (.ptr jd o4)++[.ptr jd o3]) (by simp [hq]) (by simp [St.put,zU,hq,zZ]) ?_ ?_
    ·rw [hLi]; cases L 4 <;> cases L 8 <;> cases L 16 <;> simp
    rw [hLi]; cases L 4 <;> cases L 8 <;> cases L 16 <;> simp
   simp only [qDX,List.getElem?_cons_succ,List.getElem?_cons_zero,Option.some.injEq,Prod.mk.injEq] at hop
   obtain ⟨h1,h2⟩:=hop
   have hp:=hE' 15 (by decide)
   have hq:=hE' 0 (by decide)
   refine ⟨.dead,_,qDJ hT h2.symm hk hkt (p:=True) (id:=mid) (by simp [zU,zR,hnk,hq]) trivial (q:=True) (s:=b4.data.toList) (by simp [St.arg,St.ev,vE,hs4,V.strip,V.pur]) trivial (q':=True) (v := .ptr jd o4) (by simp [zU,zR,hnk,hp]) trivial (ks:=dl (L 4) b1.data.toList++dl (L 8) b2.data.toList++dl (L 12) b3.data.toList++dl (L 16) b4.data.toList) (vs:=dl (L 4) (.ptr jd o1)++dl (L 8) (.ptr jd o2)++dl (L 12) (.ptr jd o3)++dl (L 16) (.ptr jd o4)) (by simp [zU,zW,hq]) (by rw [hLi]; cases L 4 <;> cases L 8 <;> cases L 12 <;> simp [*]),fun L' h' => ?_⟩
   rw [hLL L' h',← h1]
   refine fin _ _ (dl (L 4) b1.data.toList++dl (L 8) b2.data.toList++dl (L 12) b3.data.toList++dl (L 16) b4.data.toList++[b4.data.toList]) (dl (L 4) (.ptr jd o1)++dl (L 8) (.ptr jd o2)++dl (L 12) (.ptr jd o3)++dl (L 16) (.ptr jd o4)++[.ptr jd o4]) (by simp [hq]) (by simp [St.put,zU,hq,zZ]) ?_ ?_
   ·rw [hLi]; cases L 4 <;> cases L 8 <;> cases L 12 <;> simp
   rw [hLi]; cases L 4 <;> cases L 8 <;> cases L 12 <;> simp
  ·subst h
   simp only [qDX,List.getElem?_cons_succ,List.getElem?_cons_zero,Option.some.injEq,Prod.mk.injEq] at hop
   obtain ⟨h1,h2⟩:=hop
   have hp:=hE' 0 (by decide)
   refine ⟨.ms mid,_,vA hT (orc:=[]) (orc':=[]) (v:=True) (by rw [← h2]; simp [kO,zU,zR,hnk,hp]) trivial,fun L' h'=>vT.of ?_⟩
   rw [hLL L' h',← h1]
   exact ⟨by simp [St.put,zU,qFB],rfl,by simp [St.put,zU],hndp _⟩
  subst h
  simp only [qDX,List.getElem?_cons_succ,List.getElem?_cons_zero,Option.some.injEq,Prod.mk.injEq] at hop
  obtain ⟨h1,h2⟩:=hop
  have hp:=hE' 17 (by decide)
  refine ⟨.ms mid,_,vA hT (orc:=[]) (orc':=[]) (v:=True) (by rw [← h2]; simp [kO,zU,zR,hnk,hp]) trivial,fun L' h'=>vT.of ?_⟩
  rw [hLL L' h',← h1]
  exact ⟨by simp [St.put,zU,qFB],rfl,by simp [St.put,zU],hndp _⟩
 rw [hX L (fun _=>true) (fun j hj=>hL j (by omega))]
 refine AW.weaken ?_ hend
 refine ⟨?_,rfl, ?_, ?_⟩
 ·exact qE (by simp)
 ·simp [zU]
 have:=qLV (n:=n) (jd:=jd) (o1:=o1) (o2:=o2) (o3:=o3) (o4:=o4) (bs:=bs) (k1:=b1.data.toList) (k2:=b2.data.toList) (k3:=b3.data.toList) (k4:=b4.data.toList) (ps:=ps) (fun _=>true) hH0 hky
 simpa [zU] using this
end
end Go.Proofs.YtlmedakhioiahaaGreatDoor.Sy
namespace Go.Proofs.YtlmedakhioiahaaGreatDoor
open Sy Go
set_option maxRecDepth 100000
set_option linter.unusedSimpArgs false
set_option linter.unusedVariables false
structure Dc where
 neg:Bool
 digits:List UInt8
 scale:Int
 deriving DecidableEq
@[simp] def Dc.enc (d:Dc):PD := .agg [.bool d.neg,.str d.digits,.int .i64 d.scale]
inductive Val where
 | mk (kind mask:Int) (num:Dc) (text:List UInt8) (keys:List (List UInt8)) (kids:List Val) (code:Int)
def Val.kind:Val→Int
 | .mk k _ _ _ _ _ _=>k
def Val.mask:Val→Int
 | .mk _ m _ _ _ _ _=>m
def Val.num:Val→Dc
 | .mk _ _ n _ _ _ _=>n
def Val.text:Val→List UInt8
 | .mk _ _ _ t _ _ _=>t
def Val.keys:Val→List (List UInt8)
 | .mk _ _ _ _ ks _ _=>ks
def Val.kids:Val→List Val
 | .mk _ _ _ _ _ vs _=>vs
def Val.code:Val→Int
 | .mk _ _ _ _ _ _ c=>c
@[simp] theorem Val.kind_mk (k m:Int) (n:Dc) (t:List UInt8) (ks:List (List UInt8)) (vs:List Val) (c:Int):(Val.mk k m n t ks vs c).kind=k:=rfl
@[simp] theorem Val.mask_mk (k m:Int) (n:Dc) (t:List UInt8) (ks:List (List UInt8)) (vs:List Val) (c:Int):(Val.mk k m n t ks vs c).mask=m:=rfl
@[simp] theorem Val.num_mk (k m:Int) (n:Dc) (t:List UInt8) (ks:List (List UInt8)) (vs:List Val) (c:Int):(Val.mk k m n t ks vs c).num=n:=rfl
@[simp] theorem Val.text_mk (k m:Int) (n:Dc) (t:List UInt8) (ks:List (List UInt8)) (vs:List Val) (c:Int):(Val.mk k m n t ks vs c).text=t:=rfl
@[simp] theorem Val.keys_mk (k m:Int) (n:Dc) (t:List UInt8) (ks:List (List UInt8)) (vs:List Val) (c:Int):(Val.mk k m n t ks vs c).keys=ks:=rfl
@[simp] theorem Val.kids_mk (k m:Int) (n:Dc) (t:List UInt8) (ks:List (List UInt8)) (vs:List Val) (c:Int):(Val.mk k m n t ks vs c).kids=vs:=rfl
@[simp] theorem Val.code_mk (k m:Int) (n:Dc) (t:List UInt8) (ks:List (List UInt8)) (vs:List Val) (c:Int):(Val.mk k m n t ks vs c).code=c:=rfl
mutual
def Val.enc:Val→PD
 | .mk k m n t ks vs c => .agg [.int .i64 k,.int .u64 m,.bool n.neg,.str n.digits,.int .i64 n.scale,.str t,.sl 1 (ks.map PD.str),.sl 9 (Val.encL vs),.int .i64 c]
def Val.encL:List Val→List PD
 | []=>[]
 | v::vs=>Val.enc v::Val.encL vs
end
def dc0:Dc:=⟨false,[],0⟩
theorem Val.encL_map:∀ l,Val.encL l=l.map Val.enc
 | []=>by simp only [Val.encL,List.map_nil]
 | v::vs=>by simp only [Val.encL,List.map_cons,Val.encL_map vs]
@[simp] theorem Val.enc_def (v:Val):v.enc = .agg [.int .i64 v.kind,.int .u64 v.mask,.bool v.num.neg,.str v.num.digits,.int .i64 v.num.scale,.str v.text,.sl 1 (v.keys.map PD.str),.sl 9 (v.kids.map Val.enc),.int .i64 v.code]:=by
 cases v; simp only [Val.enc,Val.encL_map,Val.kind,Val.mask,Val.num,Val.text,Val.keys,Val.kids,Val.code]
mutual
def Val.sz:Val→Nat
 | .mk _ _ _ _ _ vs _=>1+Val.szL vs
def Val.szL:List Val→Nat
 | []=>0
 | v::vs=>Val.sz v+Val.szL vs
end
theorem Val.szL_mem {k:Val}:∀ {l:List Val},k∈l→Val.sz k≤Val.szL l
 | v::vs,h=>by
  simp only [Val.szL]
  rcases List.mem_cons.1 h with rfl | h
  ·omega
  have:=Val.szL_mem h; omega
theorem Val.sz_kid {v k:Val} (h:k∈v.kids):Val.sz k<Val.sz v:=by
 cases v; simp only [Val.kids] at h; simp only [Val.sz]; have:=Val.szL_mem h; omega
theorem Val.induct {p:Val→Prop} (h:∀ v,(∀ k∈v.kids,p k)→p v) (v:Val):p v:=by
 have key:∀ n v,Val.sz v=n→p v:=by
  intro n
  induction n using Nat.strongRecOn with
  | _ n ih=>intro v hv; exact h v fun k hk=>ih _ (hv ▸ Val.sz_kid hk) k rfl
 exact key _ v rfl
theorem Val.ext {a b:Val} (h1:a.kind=b.kind) (h2:a.mask=b.mask) (h3:a.num=b.num) (h4:a.text=b.text) (h5:a.keys=b.keys) (h6:a.kids=b.kids) (h7:a.code=b.code):a=b:=by
 cases a; cases b; simp_all [Val.kind,Val.mask,Val.num,Val.text,Val.keys,Val.kids,Val.code]
theorem Dc.ext' {a b:Dc} (h1:a.neg=b.neg) (h2:a.digits=b.digits) (h3:a.scale=b.scale):a=b:=by cases a; cases b; simp_all
set_option maxHeartbeats 4000000
variable {G:qR}
structure Jb where
 p:List UInt8
 f:List UInt8
 i:List UInt8
 n:List UInt8
 a:Int
 b:Int
 c:Int
 d:Int
@[simp] def Jb.pds (j:Jb):List PD:=[.str j.p,.str j.f,.str j.i,.str j.n,.int .i64 j.a,.int .i64 j.b,.int .i64 j.c,.int .i64 j.d]
@[simp] def Jb.cells (j:Jb):List V:=j.pds.map .p
@[simp] def Jb.enc (j:Jb):PD := .agg j.pds
def wD:List (List UInt8):=[[112,111,108,105,99,121],[102,105,108,116,101,114],[105,110,112,117,116],[110,97,109,101,115]]
def yQ:List (List UInt8):=[[108,111,103,114,111,111,109],[108,111,103,99,114,97,115,104],[111,117,116,114,111,111,109],[111,117,116,99,114,97,115,104]]
def yD:List (List UInt8):=wD++yQ
theorem qPM  : AFn Tryz.prog G 13 [] (.sl 1 (yD.map PD.str)):=by
 refine AFn.introU tok Tryz.func13 (by kernel_rfl) rfl rfl ?_
 simp only [Tryz.f13,qO,List.map_cons,List.map_nil]
 refine rgn [] [[2]] ?_
 refine op1 tok ?_
 refine qA (rgn [.str [112,111,108,105,99,121],.str [102,105,108,116,101,114],.str [105,110,112,117,116],.str [110,97,109,101,115],.str [108,111,103,114,111,111,109],.str [108,111,103,99,114,97,115,104],.str [111,117,116,114,111,111,109],.str [111,117,116,99,114,97,115,104]] [[],[0]] ?_)
 iterate 2 refine op1 tok ?_
 refine qA ?_
 exact AW.ret (qP (k:=by simp [yD,wD,yQ]))
theorem qRX (jd:Nat) (cs:List V) (hjd:jd≠703) (hcs:V.noRefL 703 cs=true):AX Tryz.prog G 18 [.ptr jd 0] [(jd,.vars 23 cs)] (.ms 703) [jd] [(703,.mpx wD [.ptr jd 0,.ptr jd 1,.ptr jd 2,.ptr jd 3]),(jd,.vars 23 cs)]:=by
 refine AX.introU tok 700 Tryz.func18 (by kernel_rfl) rfl rfl ?_
 simp only [Tryz.f18,qO,List.map_cons,List.map_nil]
 unfold wD
 refine rgn [] [[0]] ?_
 refine op1 tok ?_
 refine qA ?_
 refine AW.mapLit tok mixed (n:=17) (jd:=jd) (mid:=703) (bs:=700) (o1:=0) (o2:=1) (o3:=2) (o4:=3) (ps:=[jd]) (H0:=[(jd,.vars 23 cs)]) (by omega) rfl rfl (by decide) (by rfl) (by rfl) (by rfl) (by intro st s h; simp only [kO]; rw [h]; conv=>lhs; simp) (by intro st s h; simp only [kO]; rw [h]; conv=>lhs; simp) (by intro st s h; simp only [kO]; rw [h]; conv=>lhs; simp) (by intro st s h; simp only [kO]; rw [h]; conv=>lhs; simp) (by decide) (by decide) (by decide) (by decide) (by decide) hjd (by simpa using Ne.symm hjd) (by simp [kL,Box.noRef,hcs]) (by simp [qM,hjd]) ⟨by simp only [zU,qML]; exact qE (by simp),rfl,by simp [zU],by simp [zU]⟩ (by simp) ?_
 exact AW.ret (qV (k:=by simp) (c:=by simp [Ne.symm hjd]))
theorem qLO (jd:Nat) (cs:List V) (hjd:jd≠713) (hcs:V.noRefL 713 cs=true):AX Tryz.prog G 20 [.ptr jd 0] [(jd,.vars 23 cs)] (.ms 713) [jd] [(713,.mpx yQ [.ptr jd 4,.ptr jd 5,.ptr jd 6,.ptr jd 7]),(jd,.vars 23 cs)]:=by
 refine AX.introU tok 710 Tryz.func20 (by kernel_rfl) rfl rfl ?_
 simp only [Tryz.f20,qO,List.map_cons,List.map_nil]
 unfold yQ
 refine rgn [] [[0]] ?_
 refine op1 tok ?_
 refine qA ?_
 refine AW.mapLit tok mixed (n:=17) (jd:=jd) (mid:=713) (bs:=710) (o1:=4) (o2:=5) (o3:=6) (o4:=7) (ps:=[jd]) (H0:=[(jd,.vars 23 cs)]) (by omega) rfl rfl (by decide) (by rfl) (by rfl) (by rfl) (by intro st s h; simp only [kO]; rw [h]; conv=>lhs; simp) (by intro st s h; simp only [kO]; rw [h]; conv=>lhs; simp) (by intro st s h; simp only [kO]; rw [h]; conv=>lhs; simp) (by intro st s h; simp only [kO]; rw [h]; conv=>lhs; simp) (by decide) (by decide) (by decide) (by decide) (by decide) hjd (by simpa using Ne.symm hjd) (by simp [kL,Box.noRef,hcs]) (by simp [qM,hjd]) ⟨by simp only [zU,qML]; exact qE (by simp),rfl,by simp [zU],by simp [zU]⟩ (by simp) ?_
 exact AW.ret (qV (k:=by simp) (c:=by simp [Ne.symm hjd]))
def yO (n:Int):Bool:=decide (48≤n) && decide (n≤57)
def qJ (b:UInt8):Bool:=yO b.toNat
def qBG (D:List UInt8):Nat:=D.foldl (fun n c=>n * 10+(c.toNat-48)) 0
theorem zES (n:Int):AFn Tryz.prog G 155 [.int .u8 n] (.bool (yO n)):=by
 refine AFn.introU tok Tryz.func155 (by kernel_rfl) rfl rfl ?_
 simp only [Tryz.f155,qO,List.map_cons,List.map_nil]
 refine rgn [] [[0]] ?_
 refine op1 tok ?_
 refine qA (rgn [] [[],[],[],[],[5,7],[],[2]] ?_)
 iterate 3 refine op1 tok ?_
 iterate 2 refine op2 tok ?_
 iterate 2 refine op1 tok ?_
 refine qA ?_
 exact AW.ret (qP (k:=by simp [yO]))
def qN (s:List UInt8) (i:Nat):Int:=((s.getD i 0).toNat:Int)
theorem jW {s:List UInt8} {i:Nat} (h:i<s.length):s[i]?=some (s.getD i 0):=by simp [List.getD_eq_getElem?_getD,h]
def zM (s:List UInt8) (k:Nat):Nat:=((s.drop k).takeWhile fun b=>yO b.toNat).length
theorem vU {p:UInt8→Bool}:∀ {l:List UInt8} {n:Nat},n≤(l.takeWhile p).length→((n<(l.takeWhile p).length)↔∃ b,l[n]?=some b∧p b=true)
 | [],n,h=>by simp at h; subst h; simp
 | a::l,n,h=>by
  rw [List.takeWhile_cons] at h ⊢
  by_cases ha:p a=true
  ·rw [if_pos ha] at h ⊢
   cases n with
   | zero=>simp [ha]
   | succ n=>simpa using vU (l:=l) (n:=n) (by simpa using h)
  rw [if_neg ha] at h ⊢
  simp at h; subst h
  simp [ha]
theorem qPY {s:List UInt8} {k n:Nat} (h:n≤zM s k):n<zM s k↔(k+n<s.length∧yO (qN s (k+n))=true):=by
 unfold zM at h ⊢
 rw [vU h]
 constructor
 ·rintro ⟨b,hb,hd⟩
  rw [List.getElem?_drop] at hb
  have:=(List.getElem?_eq_some_iff.1 hb).1
  refine ⟨this, ?_⟩
  rw [qN,List.getD_eq_getElem?_getD,hb]; exact hd
 rintro ⟨h1,h2⟩
 exact ⟨s.getD (k+n) 0,by rw [List.getElem?_drop]; exact jW h1,h2⟩
theorem qPZ (s:List UInt8) (k:Nat):zM s k≤s.length:=by
 unfold zM
 have:=(List.takeWhile_sublist (l:=s.drop k) fun b:UInt8=>yO b.toNat).length_le
 simp at this; omega
theorem zJP (s:List UInt8) (k:Nat) (hs:s.length≤1000000) (hk:k≤1000000):AFn Tryz.prog G 130 [.str s,.int .i64 k] (.int .i64 (zM s k)):=by
 refine AFn.introU tok Tryz.func130 (by kernel_rfl) rfl rfl ?_
 simp only [Tryz.f130,qO,List.map_cons,List.map_nil]
 refine rgn [] [[0,1]] ?_
 refine op1 tok ?_
 refine qA (rgn [] [[]] ?_)
 refine op1 tok ?_
 refine qA (AW.seq (AW.block ?_))
 refine AW.loop (α:=Nat) (fun n=>n≤zM s k) (fun n=>⟨zI 23 [(0,.p (.str s)),(1,.p (.int .i64 k)),(5,.p (.int .i64 n))],[],[],0⟩) (fun n=>zM s k-n) (0) (by omega) ⟨qE (by simp),rfl,by simp,by simp⟩ ?_
 rintro n hn
 have hrl:=qPZ s k
 have hlt:=qPY hn
 have hd:=zES (G:=G) (qN s (k+n))
 have hix:k+n<s.length→s[((k:Int)+n).toNat]?=some (s.getD (k+n) 0):=fun h=>by rw [show ((k:Int)+n).toNat=k+n by omega]; exact jW h
 refine AW.seq (rgn [.int .u8 (qN s (k+n)),.nilp,.bool (yO (qN s (k+n)))] [[],[],[],[],[],[0,1,5,11],[],[],[],[],[],[0,1,5,12,17],[],[0,1,5,19]] ?_)
 iterate 7 refine op1 tok ?_ (hv:=by first | with_reducible exact True.intro | (first | exact fun h=>⟨h,by omega,_,hix (by omega),rfl⟩ | simp [hd]; done) | omega | simp | (simp +contextual; omega))
 iterate 6 refine op2 tok ?_ (hv:=by first | with_reducible exact True.intro | (first | exact fun h=>⟨h,by omega,_,hix (by omega),rfl⟩ | simp [hd]; done) | omega | simp | (simp +contextual; omega))
 refine op1 tok ?_ (hv:=by first | with_reducible exact True.intro | (first | exact fun h=>⟨h,by omega,_,hix (by omega),rfl⟩ | simp [hd]; done) | omega | simp | (simp +contextual; omega))
 refine qA (cnd ?_ ?_)
 ·intro h19
  try simp at h19
  have hlt':=hlt.2 ⟨by omega,h19.2⟩
  refine AW.skip (AW.block (rgz [] [[],[],[0,1,5]] ?_))
  iterate 3 refine op1 tok ?_
  refine qA ?_
  exact ⟨n+1,by omega,by omega,qE (by simp),rfl,by simp,by simp⟩
 intro h19
 try simp at h19
 have hge:n=zM s k:=by
  refine Nat.le_antisymm hn (Nat.not_lt.1 fun h => ?_)
  have:=hlt.1 h
  have:=h19 (by omega)
  simp_all
 subst hge
 refine AW.exit ?_
 simp
 refine rgn [] [[],[4]] ?_
 iterate 2 refine op1 tok ?_
 exact qA (AW.ret qP)
def zH (n:Nat):List UInt8:=List.replicate n 48
theorem qRT (n:Int) (hn:n≤1000000):AFn Tryz.prog G 64 [.int .i64 n] (.str (zH n.toNat)):=by
 refine AFn.introU tok Tryz.func64 (by kernel_rfl) rfl rfl ?_
 simp only [Tryz.f64,qO,List.map_cons,List.map_nil]
 refine rgn [] [[0]] ?_
 refine op1 tok ?_
 refine qA (rgn [] [[]] ?_)
 refine op1 tok ?_
 refine qA (AW.seq (rgn [] [[]] ?_))
 refine op1 tok ?_
 refine qA (AW.block ?_)
 refine AW.loop (α:=Nat) (fun k=>k≤n.toNat) (fun k=>⟨zI 13 [(0,.p (.int .i64 n)),(3,.p (.str (zH k))),(4,.p (.int .i64 k))],[],[],0⟩) (fun k=>n.toNat-k) (0) (by omega) ⟨qE (by simp [zH]),rfl,by simp,by simp⟩ ?_
 rintro k hk
 refine AW.seq (rgn [] [[],[],[0,3,4,7]] ?_)
 iterate 3 refine op1 tok ?_
 refine qA (cnd ?_ ?_)
 ·intro h7
  try simp at h7
  refine AW.skip (AW.seq (AW.block (rgz [] [[],[],[0,3,4]] ?_)))
  iterate 3 refine op1 tok ?_ (hv:=by first | with_reducible exact True.intro | (simp [zH]; omega; done) | omega | simp | (simp +contextual; omega))
  refine qA (rgz [] [[],[],[0,3,4]] ?_)
  iterate 3 refine op1 tok ?_
  refine qA ?_
  exact ⟨k+1,by omega,by omega,qE (by simp [zH,List.replicate_succ']),rfl,by simp [zH,List.replicate_succ'],by simp [zH,List.replicate_succ']⟩
 intro h7
 try simp at h7
 have hkn:k=n.toNat:=by omega
 subst hkn
 refine AW.exit ?_
 simp
 refine rgn [] [[],[2]] ?_
 iterate 2 refine op1 tok ?_
 exact qA (AW.ret qP)
def zB (s:List UInt8):List UInt8:=s.dropWhile (· == 48)
def yB (d:List UInt8):Nat→List UInt8 × Nat
 | 0=>(d,0)
 | k+1=>if d.getLast?=some 48 then yB d.dropLast k else (d,k+1)
def wI (neg:Bool) (digits:List UInt8) (scale:Nat):Dc × Int :=
 let x:=yB (zB digits) scale
 if x.1=[] then (⟨false,[48],0⟩,0) else if 60<x.1.length∨60<x.2 then (⟨false,[],0⟩,3) else (⟨neg,x.1,x.2⟩,0)
theorem qAB {d:List UInt8} (h:0<d.length):qN d (d.length-1)=48↔d.getLast?=some 48:=by
 rw [List.getLast?_eq_getElem?,qN,List.getD_eq_getElem?_getD,jW (by omega)]
 simp only [Option.getD_some,Option.some.injEq]
 constructor
 ·intro h2; exact UInt8.toNat_inj.1 (by have:((d.getD (d.length-1) 0).toNat:Int)=48:=h2; show (d.getD (d.length-1) 0).toNat=48; omega)
 intro h2; rw [h2]; rfl
theorem vY (d:List UInt8):d.take (d.length-1)=d.dropLast:=(List.dropLast_eq_take).symm
theorem qZK (neg:Bool) (digits:List UInt8) (scale:Nat) (hd:digits.length≤1000000) (hs:scale≤1000000):AFn Tryz.prog G 46 [.bool neg,.str digits,.int .i64 scale] (.tup [(wI neg digits scale).1.enc,.int .i64 (wI neg digits scale).2]):=by
 refine AFn.introU tok Tryz.func46 (by kernel_rfl) rfl rfl ?_
 simp only [Tryz.f46,qO,List.map_cons,List.map_nil]
 refine rgn [] [[],[0,1,2,6]] ?_
 iterate 2 refine op1 tok ?_
 refine qA (AW.seq (AW.block ?_))
 refine AW.loop (α:=List UInt8) (fun r=>zB r=zB digits∧r.length≤digits.length) (fun r=>⟨zI 55 [(0,.p (.bool neg)),(1,.p (.str r)),(2,.p (.int .i64 scale)),(6,.ptr 6 0)],[],[(6,.vars 39 [.p (.bool false),.p (.str []),.p (.int .i64 0)])],0⟩) (fun r=>r.length) (digits) ⟨rfl,Nat.le_refl _⟩ ⟨qE (by simp),rfl,by simp,by simp⟩ ?_
 rintro r ⟨hr,hrl⟩
 have hix:0<r.length→r[0]?=some (r.getD 0 0):=fun h=>jW h
 refine AW.seq (rgn [.int .u8 (qN r 0)] [[],[],[],[],[],[0,1,2,6,11,13],[],[0,1,2,6,15]] ?_)
 iterate 4 refine op1 tok ?_ (hv:=by first | with_reducible exact True.intro | (first | exact fun h=>⟨h,_,hix (by omega),rfl⟩ | simp; done) | omega | simp | (simp +contextual; omega))
 iterate 3 refine op2 tok ?_ (hv:=by first | with_reducible exact True.intro | (first | exact fun h=>⟨h,_,hix (by omega),rfl⟩ | simp; done) | omega | simp | (simp +contextual; omega))
 refine op1 tok ?_ (hv:=by first | with_reducible exact True.intro | (first | exact fun h=>⟨h,_,hix (by omega),rfl⟩ | simp; done) | omega | simp | (simp +contextual; omega))
 refine qA (cnd ?_ ?_)
 ·intro h15
  try simp at h15
  obtain ⟨b,r,rfl⟩:∃ b r',r=b::r':=by
   cases r with
   | nil=>simp at h15
   | cons b r=>exact ⟨b,r,rfl⟩
  have hb:b=48:=UInt8.toNat_inj.1 (by have h9:(b.toNat:Int)=48:=h15.2; show b.toNat=48; omega)
  have hr':zB r=zB digits:=by rw [← hr]; simp [zB,hb]
  simp at hrl
  refine AW.skip (AW.block (rgz [] [[],[],[0,1,2,6]] ?_))
  iterate 3 refine op1 tok ?_
  refine qA ?_
  exact ⟨r,⟨hr',by omega⟩,by simp,qE (by simp),rfl,by simp,by simp⟩
 intro h15
 try simp at h15
 have hr':zB digits=r:=by
  rw [← hr]
  cases r with
  | nil=>rfl
  | cons b r =>
   have hb:b≠48:=by rintro rfl; simp [qN] at h15
   simp [zB,hb]
 have hN:wI neg digits scale=(if (yB r scale).1=[] then (⟨false,[48],0⟩,0) else if 60<(yB r scale).1.length∨60<(yB r scale).2 then (⟨false,[],0⟩,3) else (⟨neg,(yB r scale).1,(yB r scale).2⟩,0)):=by simp only [wI,hr']
 rw [hN]
 clear hN hix h15 hr hr'
 refine AW.exit ?_
 simp
 refine AW.seq (AW.block ?_)
 refine AW.loop (α:=List UInt8 × Nat) (fun a=>yB r scale=yB a.1 a.2∧a.2≤scale∧a.1.length≤digits.length) (fun a=>⟨zI 55 [(0,.p (.bool neg)),(1,.p (.str a.1)),(2,.p (.int .i64 a.2)),(6,.ptr 6 0)],[],[(6,.vars 39 [.p (.bool false),.p (.str []),.p (.int .i64 0)])],0⟩) (fun a=>a.2) ((r,scale)) ⟨rfl,Nat.le_refl _,hrl⟩ ⟨qE (by simp),rfl,by simp,by simp⟩ ?_
 rintro ⟨d,k⟩ ⟨ht,hk,hdl⟩
 simp only at ht hk hdl
 have hix:0<d.length→d[d.length-1]?=some (d.getD (d.length-1) 0):=fun h=>jW (by omega)
 refine AW.seq (rgn [.int .u8 (qN d (d.length-1))] [[],[],[],[],[],[0,1,2,6,20,23],[],[],[],[],[0,1,2,6,25,26,28],[],[],[0,1,2,6,25,31],[0,1,2,6,32]] ?_)
 iterate 15 first | refine op1 tok ?_ (hv:=by first | with_reducible exact True.intro | (first | exact fun h1 h2=>⟨⟨h1,h2⟩,by omega,by omega⟩ | exact fun h1 h2=>⟨⟨h1,h2⟩,by omega,_,hix h2,rfl⟩ | simp; done) | omega | simp | (simp +contextual; omega)) | refine op2 tok ?_ (hv:=by first | with_reducible exact True.intro | (first | exact fun h1 h2=>⟨⟨h1,h2⟩,by omega,by omega⟩ | exact fun h1 h2=>⟨⟨h1,h2⟩,by omega,_,hix h2,rfl⟩ | simp; done) | omega | simp | (simp +contextual; omega))
 refine qA (cnd ?_ ?_)
 ·intro h32
  try simp at h32
  obtain ⟨k,rfl⟩:∃ k',k=k'+1:=⟨k-1,by omega⟩
  have hl:=(qAB h32.1.2).1 h32.2
  have ht':yB r scale=yB d.dropLast k:=by rw [ht]; simp only [yB]; rw [if_pos hl]
  refine AW.skip (AW.block (rgn [] [[],[],[],[],[0,2,6,37],[0,1,2,6]] ?_))
  iterate 6 refine op1 tok ?_
  refine qA (rgz [] [[],[],[0,1,2,6]] ?_)
  iterate 3 refine op1 tok ?_
  refine qA ?_
  exact ⟨(d.dropLast,k),⟨ht',by simp only []; omega,by simp; omega⟩,by simp,qE (by simp [vY]),rfl,by simp [vY],by simp [vY]⟩
 intro h32
 try simp at h32
 have htl:yB d k=(d,k):=by
  cases k with
  | zero=>rfl
  | succ k =>
   simp only [yB]
   rw [if_neg]
   intro hl
   have hpos:0<d.length:=by cases d with
    | nil=>simp at hl
    | cons=>simp
   have:=(qAB hpos).2 hl
   simp [hpos,this] at h32
 rw [ht,htl]
 refine AW.exit ?_
 simp
 refine AW.seq (rgn [] [[],[0,1,2,6,41]] ?_)
 iterate 2 refine op1 tok ?_
 refine qA (cnd ?_ ?_)
 ·intro h41
  try simp at h41
  subst h41
  refine rgn [] [[],[],[6,7]] ?_
  iterate 3 refine op1 tok ?_
  exact qA (AW.ret qP)
 intro h41
 try simp at h41
 refine AW.skip (AW.seq (rgn [] [[],[],[],[],[],[0,1,2,6,46,48],[0,1,2,6,49]] ?_))
 iterate 4 refine op1 tok ?_
 iterate 2 refine op2 tok ?_
 refine op1 tok ?_
 refine qA (cnd ?_ ?_)
 ·intro h49
  try simp at h49
  have hbig:60<d.length∨60<k:=by omega
  refine rgn [] [[],[],[6,7]] ?_
  iterate 3 refine op1 tok ?_
  refine qA ?_
  exact AW.ret (qP (k:=by simp [h41,hbig]))
 intro h49
 try simp at h49
 have hbig:¬ (60<d.length∨60<k):=by omega
 refine AW.skip (rgn [] [[],[],[],[6,54],[],[6,7]] ?_)
 iterate 6 refine op1 tok ?_
 refine qA ?_
 exact AW.ret (qP (k:=by simp [h41,hbig]))
def jE (u:Nat):List UInt8:=if h:u=0 then [] else jE (u / 10)++[UInt8.ofNat (48+u % 10)]
termination_by u
decreasing_by omega
theorem qBB:jE 0=[]:=by rw [jE]; simp
theorem qGM {u:Nat} (h:0<u):jE u=jE (u / 10)++[UInt8.ofNat (48+u % 10)]:=by rw [jE]; rw [dif_neg (by omega)]
theorem qCU:∀ k u:Nat,u<10 ^ k→(jE u).length≤k
 | 0,u,h=>by
  have:u=0:=by simpa using h
  subst this; rw [qBB]; simp
 | k+1,u,h=>by
  rcases Nat.eq_zero_or_pos u with h0 | h0
  ·subst h0; rw [qBB]; simp
  rw [qGM h0,List.length_append,List.length_singleton]
  have:=qCU k (u / 10) (by rw [Nat.pow_succ] at h; omega)
  omega
def uM (n:Int):Dc:=(wI (decide (n<0)) (jE n.natAbs) 0).1
def qNA (l:List UInt8) (k:Nat):List UInt8:=(List.range l.length).map fun i=>if i<k∨l.length-k≤i then l.getD (l.length-1-i) 0 else l.getD i 0
theorem qAQ (l:List UInt8) (k:Nat):(qNA l k).length=l.length:=by simp [qNA]
theorem qAR (l:List UInt8) (k:Nat) {i:Nat} (h:i<l.length):(qNA l k)[i]?=some (if i<k∨l.length-k≤i then l.getD (l.length-1-i) 0 else l.getD i 0):=by
 simp [qNA,h]
theorem qDC (L:List UInt8) (i:Nat) (b:UInt8):(qG L).set i (.int .u8 b.toNat)=qG (L.set i b):=by unfold qG; rw [List.map_set]
theorem qZX (l:List UInt8):qNA l 0=l:=by
 apply List.ext_getElem?
 intro i
 by_cases h:i<l.length
 ·rw [qAR l 0 h,if_neg (by omega),List.getD_eq_getElem?_getD,List.getElem?_eq_getElem h]; rfl
 rw [List.getElem?_eq_none (by rw [qAQ]; omega),List.getElem?_eq_none (by omega)]
theorem zCW (l:List UInt8) {k:Nat} (h:l.length≤2 * k+1):qNA l k=l.reverse:=by
 apply List.ext_getElem?
 intro i
 by_cases hi:i<l.length
 ·rw [qAR l k hi,List.getElem?_reverse hi]
  have h1:l[l.length-1-i]?=some (l[l.length-1-i]'(by omega)):=List.getElem?_eq_getElem _
  rw [h1]
  congr 1
  split
  ·rw [List.getD_eq_getElem?_getD,h1]; rfl
  have h2:l[i]?=some (l[l.length-1-i]'(by omega)):=by rw [← h1]; congr 1; omega
  rw [List.getD_eq_getElem?_getD,h2]; rfl
 rw [List.getElem?_eq_none (by rw [qAQ]; omega),List.getElem?_eq_none (by rw [List.length_reverse]; omega)]
theorem qZY (l:List UInt8) {k:Nat} (h:2 * k+1<l.length):((qNA l k).set k (l.getD (l.length-1-k) 0)).set (l.length-1-k) (l.getD k 0)=qNA l (k+1):=by
 apply List.ext_getElem?
 intro i
 by_cases hi:i<l.length
 ·rw [qAR l (k+1) hi,List.getElem?_set,List.getElem?_set]
  simp only [List.length_set,qAQ]
  by_cases h1:l.length-1-k=i
  ·subst h1
   rw [if_pos rfl,if_pos (by omega),if_pos (.inr (by omega)),show l.length-1-(l.length-1-k)=k by omega]
  rw [if_neg h1]
  by_cases h2:k=i
  ·subst h2
   rw [if_pos rfl,if_pos (by omega),if_pos (.inl (by omega))]
  rw [if_neg h2,qAR l k hi]
  congr 1
  by_cases h3:i<k∨l.length-k≤i
  ·rw [if_pos h3,if_pos (by omega)]
  rw [if_neg h3,if_neg (by omega)]
 rw [List.getElem?_eq_none (by simp [qAQ]; omega),List.getElem?_eq_none (by rw [qAQ]; omega)]
theorem qGP {s:List UInt8} {pos:Nat} (h:pos<s.length):1≤(vX s pos).2:=Lib.decode_width_pos _ _ (by simpa [ByteArray.size] using h)
theorem qMK {s:List UInt8} {pos:Nat} (h:pos<s.length) (ha:(s.getD pos 0).toNat<128):vX s pos=((s.getD pos 0).toNat,1):=by
 have hs:pos<(⟨s.toArray⟩:ByteArray).size:=by simpa [ByteArray.size] using h
 have e:(⟨s.toArray⟩:ByteArray)[pos]'hs=s.getD pos 0:=by simp [List.getD_eq_getElem?_getD,h]; rfl
 unfold vX
 rw [decode_ascii _ _ hs (by rw [e]; exact ha),e]
theorem zEV {s:List UInt8} {pos:Nat} (h:pos<s.length) (ha:128≤(s.getD pos 0).toNat):128≤(vX s pos).1:=by
 have e:((⟨s.toArray⟩:ByteArray).get! (pos+0)).toNat=(s.getD pos 0).toNat:=by
  simp [ByteArray.get!,List.getD_eq_getElem?_getD,h]
 unfold vX Utf8.decode
 simp only [e]
 rw [if_neg (by omega)]
 split
 ·split
  ·simp only [ge_iff_le] at *; omega
  simp [Utf8.runeError]
 split
 ·split
  ·rename_i hc; simp only [ge_iff_le,Bool.and_eq_true,decide_eq_true_eq] at hc; omega
  simp [Utf8.runeError]
 split
 ·split
  ·rename_i hc; simp only [ge_iff_le,Bool.and_eq_true,decide_eq_true_eq] at hc; omega
  simp [Utf8.runeError]
 simp [Utf8.runeError]
def qLZ (p:Int→Bool) (s:List UInt8):Nat→Nat→Int
 | 0,_ => -1
 | f+1,pos=>if pos<s.length then (if p (vX s pos).1 then (pos:Int) else qLZ p s f (pos+(vX s pos).2)) else -1
def xX (p:Int→Bool) (s:List UInt8):Int:=qLZ p s (s.length+1) 0
theorem qOR (p:Int→Bool) (s:List UInt8):∀ (f g pos:Nat),s.length<pos+f→s.length<pos+g→qLZ p s f pos=qLZ p s g pos
 | 0,0,_,_,_=>rfl
 | 0,g+1,pos,h,_=>by simp only [qLZ]; rw [if_neg (by omega)]
 | f+1,0,pos,_,h=>by simp only [qLZ]; rw [if_neg (by omega)]
 | f+1,g+1,pos,hf,hg=>by
  simp only [qLZ]
  by_cases h:pos<s.length
  ·rw [if_pos h,if_pos h]
   split
   ·rfl
   have:=qGP h
   exact qOR p s f g _ (by omega) (by omega)
  rw [if_neg h,if_neg h]
def qCA (p:Int→Bool) (s:List UInt8) (pos:Nat):Int:=qLZ p s (s.length+1-pos) pos
theorem qOS {p:Int→Bool} {s:List UInt8} {pos:Nat} (h:¬ pos<s.length):qCA p s pos = -1:=by
 unfold qCA; cases hf:s.length+1-pos with
 | zero=>rfl
 | succ f=>simp only [qLZ]; rw [if_neg h]
theorem qHM {p:Int→Bool} {s:List UInt8} {pos:Nat} (h:pos<s.length) (hp:p (vX s pos).1=true):qCA p s pos=pos:=by
 unfold qCA; rw [show s.length+1-pos=(s.length-pos)+1 by omega]; simp only [qLZ]; rw [if_pos h,if_pos hp]
theorem qMA {p:Int→Bool} {s:List UInt8} {pos:Nat} (h:pos<s.length) (hp:p (vX s pos).1=false):qCA p s pos=qCA p s (pos+(vX s pos).2):=by
 unfold qCA; rw [show s.length+1-pos=(s.length-pos)+1 by omega]; simp only [qLZ]
 have:=qGP h
 rw [if_pos h,if_neg (by simp [hp])]; exact qOR p s _ _ _ (by omega) (by omega)
theorem qOQ (p:Int→Bool) (s:List UInt8):xX p s=qCA p s 0:=by simp [xX,qCA]
theorem qIU {p:Int→Bool} (hbig:∀ n:Int,128≤n→p n=true) (s:List UInt8):∀ (f pos:Nat),f=s.length-pos→pos≤s.length→qCA p s pos=if (s.drop pos).all (fun b => !p b.toNat) then -1 else ((pos+((s.drop pos).takeWhile fun b => !p b.toNat).length:Nat):Int)
 | 0,pos,hf,hp=>by
  rw [qOS (by omega),List.drop_eq_nil_of_le (by omega)]; simp
 | f+1,pos,hf,hp=>by
  have hlt:pos<s.length:=by omega
  have hd:s.drop pos=s.getD pos 0::s.drop (pos+1):=by
   rw [List.drop_eq_getElem_cons hlt]; congr 1; simp [List.getD_eq_getElem?_getD,hlt]
  rw [hd]
  have hda0:=fun h=>qMK (s:=s) (pos:=pos) hlt h
  have hdb0:=fun h=>zEV (s:=s) (pos:=pos) hlt h
  clear hd
  generalize s.getD pos 0=c at *
  by_cases ha:c.toNat<128
  ·have hda:=hda0 ha
   cases hpb:p ((c.toNat:Nat):Int) with
   | true=>rw [qHM hlt (by rw [hda]; exact hpb)]; simp [hpb]
   | false =>
    rw [qMA hlt (by rw [hda]; exact hpb),hda,qIU hbig s f (pos+1) (by omega) (by omega)]
    simp only [List.all_cons,hpb,Bool.not_false,Bool.true_and,List.takeWhile_cons,if_true,List.length_cons]
    split <;> first | rfl | (congr 1; omega)
  have hb:=hdb0 (by omega)
  rw [qHM hlt (hbig _ (by omega))]
  have:p ((c.toNat:Nat):Int)=true:=hbig _ (by omega)
  simp [this]
theorem qGG {p:Int→Bool} (hbig:∀ n:Int,128≤n→p n=true) (s:List UInt8):xX p s=if s.all (fun b => !p b.toNat) then -1 else (((s.takeWhile fun b => !p b.toNat).length:Nat):Int):=by
 rw [qOQ,qIU hbig s _ 0 rfl (by omega)]; simp
theorem qQS (s:List UInt8) (g:FuncId) (p:Int→Bool) (hg:∀ n:Int,AFn Tryz.prog G g [.int .i32 n] (.bool (p n))):AFn Tryz.prog G 161 [.str s,.fn g,.bool true] (.int .i64 (xX p s)):=by
 refine AFn.introU tok Tryz.func161 (by kernel_rfl) rfl rfl ?_
 simp only [Tryz.f161,qO,List.map_cons,List.map_nil]
 refine rgn [] [[0,1,2]] ?_
 refine op1 tok ?_
 refine qA (AW.seq (rgn [] [[],[1,2,10]] ?_))
 iterate 2 refine op1 tok ?_
 refine qA (AW.block ?_)
 refine AW.loop (α:=Nat) (fun pos=>qCA p s pos=xX p s) (fun pos=>⟨zI 21 [(1,.p (.fn g)),(2,.p (.bool true)),(10,.it 10)],[],[(10,.iter s pos)],0⟩) (fun pos=>s.length-pos) (0) (qOQ p s).symm ⟨qE (by simp),rfl,by simp,by simp⟩ ?_
 rintro pos hi
 have hpos:pos<s.length→1≤(vX s pos).2:=qGP
 by_cases hs2:pos<s.length
 ·
  refine rgn [.bool true] [[],[]] ?_
  iterate 2 refine oq1 tok hs2 ?_
  refine qA (AW.seq (cnd ?_ ?_))
  ·intro h12
   try simp at h12
   refine AW.skip (AW.block (rgn [] [[],[],[],[1,2,7,8,10]] ?_))
   iterate 4 refine op1 tok ?_
   refine qA (rgn [.nilp,.bool (p (vX s pos).1)] [[],[],[],[],[1,2,7,10,19]] ?_)
   iterate 5 refine op1 tok ?_ (hv:=by first | with_reducible exact True.intro | (exact hg _; done) | omega | simp | (simp +contextual; omega))
   refine qA (cnd ?_ ?_)
   ·intro h19
    try simp at h19
    have hI:xX p s=pos:=by rw [← hi,qHM hs2 (by simpa using h19)]
    refine rgn [] [[],[6]] ?_
    iterate 2 refine op1 tok ?_
    refine qA ?_
    exact AW.ret (qP (k:=by simp [hI]))
   intro h19
   try simp at h19
   have hnx:qCA p s (pos+(vX s pos).2)=xX p s:=by rw [← qMA hs2 (by simpa using h19)]; exact hi
   refine AW.skip ?_
   exact ⟨pos+(vX s pos).2,hnx,by have:=hpos hs2; omega,qE (by simp),rfl,by simp,by simp⟩
  intro h12
  try simp at h12
 ·
  refine rgn [.bool false] [[],[]] ?_
  iterate 2 refine oq1 tok hs2 ?_
  refine qA (AW.seq (cnd ?_ ?_))
  ·intro h12
   try simp at h12
  intro h12
  try simp at h12
  refine AW.exit ?_
  simp
  refine rgn [] [[]] ?_
  refine op1 tok ?_
  refine qA ?_
  exact AW.ret (qP (k:=by simp [← hi,qOS hs2]))
theorem qGY (s:List UInt8) (g:FuncId) (p:Int→Bool) (hg:∀ n:Int,AFn Tryz.prog G g [.int .i32 n] (.bool (p n))):AFn Tryz.prog G 135 [.str s,.fn g] (.int .i64 (xX p s)):=by
 refine AFn.introU tok Tryz.func135 (by kernel_rfl) rfl rfl ?_
 simp only [Tryz.f135,qO,List.map_cons,List.map_nil]
 refine rgn [] [[0,1]] ?_
 refine op1 tok ?_
 refine qA (rgn [.nilp,.int .i64 (xX p s)] [[],[],[7],[4]] ?_)
 iterate 4 refine op1 tok ?_ (hv:=by first | with_reducible exact True.intro | (exact qQS s g p hg; done) | omega | simp | (simp +contextual; omega))
 exact qA (AW.ret qP)
theorem qJQ (s:List UInt8) (g:FuncId) (p:Int→Bool) (hg:∀ n:Int,AFn Tryz.prog G g [.int .i32 n] (.bool (p n))):AFn Tryz.prog G 101 [.str s,.fn g] (.bool (decide (0≤xX p s))):=by
 refine AFn.introU tok Tryz.func101 (by kernel_rfl) rfl rfl ?_
 simp only [Tryz.f101,qO,List.map_cons,List.map_nil]
 refine rgn [] [[0,1]] ?_
 refine op1 tok ?_
 refine qA (rgn [.nilp,.int .i64 (xX p s)] [[],[],[7],[],[4]] ?_)
 iterate 5 refine op1 tok ?_ (hv:=by first | with_reducible exact True.intro | (first | exact qGY s g p hg | simp; done) | omega | simp | (simp +contextual; omega))
 exact qA (AW.ret qP)
def xK (n:Int):Bool:=decide (n<48) || decide (57<n)
theorem qTN (n:Int):AFn Tryz.prog G 102 [.int .i32 n] (.bool (xK n)):=by
 refine AFn.introU tok Tryz.func102 (by kernel_rfl) rfl rfl ?_
 simp only [Tryz.f102,qO,List.map_cons,List.map_nil]
 refine rgn [] [[0]] ?_
 refine op1 tok ?_
 refine qA (rgn [] [[],[],[],[],[5,7],[],[2]] ?_)
 iterate 3 refine op1 tok ?_
 iterate 2 refine op2 tok ?_
 iterate 2 refine op1 tok ?_
 refine qA ?_
 exact AW.ret (qP (k:=by simp [xK]))
theorem qOE (b:UInt8):xK b.toNat = !qJ b:=by
 rw [Bool.eq_iff_iff]; simp [xK,qJ,yO]
theorem zAJ (s:List UInt8):decide (0≤xX xK s) = !s.all qJ:=by
 rw [qGG (fun n h=>by simp [xK] <;> omega)]
 have:(s.all fun b => !xK b.toNat)=s.all qJ:=by congr 1; funext b; rw [qOE]; simp
 rw [this]
 cases s.all qJ
 ·simp
 simp
def wH (d:Dc):Bool:=d.digits.all qJ && decide (1≤d.digits.length∧d.digits.length≤60∧0≤d.scale∧d.scale≤60) &&
 (if d.digits=[48] then decide (d.scale=0) && !d.neg else decide (qN d.digits 0≠48) && (decide (d.scale=0) || decide (qN d.digits (d.digits.length-1)≠48)))
theorem zEX {d:Dc} (h:d.digits.length=0∨60<d.digits.length∨d.scale<0∨60<d.scale∨d.digits.all qJ=false):wH d=false:=by
 unfold wH
 rcases h with h | h | h | h | h
 ·rw [show decide (1≤d.digits.length∧d.digits.length≤60∧0≤d.scale∧d.scale≤60)=false by simp; omega]; simp
 ·rw [show decide (1≤d.digits.length∧d.digits.length≤60∧0≤d.scale∧d.scale≤60)=false by simp; omega]; simp
 ·rw [show decide (1≤d.digits.length∧d.digits.length≤60∧0≤d.scale∧d.scale≤60)=false by simp; omega]; simp
 ·rw [show decide (1≤d.digits.length∧d.digits.length≤60∧0≤d.scale∧d.scale≤60)=false by simp; omega]; simp
 simp [h]
theorem qPC {d : Dc} (h : 1 ≤ d.digits.length ∧ d.digits.length ≤ 60 ∧ 0 ≤ d.scale ∧ d.scale ≤ 60) (ha : d.digits.all qJ = true) :
  wH d=(if d.digits=[48] then decide (d.scale=0) && !d.neg else decide (qN d.digits 0≠48) && (decide (d.scale=0) || decide (qN d.digits (d.digits.length-1)≠48))):=by
 unfold wH; rw [ha,show decide (1≤d.digits.length∧d.digits.length≤60∧0≤d.scale∧d.scale≤60)=true by simpa using h]; simp
theorem zEY (d:Dc):AFn Tryz.prog G 68 [d.enc] (.bool (wH d)):=by
 refine AFn.introU tok Tryz.func68 (by kernel_rfl) rfl rfl ?_
 simp only [Tryz.f68,qO,List.map_cons,List.map_nil]
 have hoth:=qJQ (G:=G) d.digits 102 xK qTN
 rw [zAJ] at hoth
 have hix:∀ k:Nat,k<d.digits.length→d.digits[k]?=some (d.digits.getD k 0):=fun k h=>jW h
 refine rgn [] [[],[1]] ?_
 iterate 2 refine op1 tok ?_
 refine qA (rgn [] [[],[],[],[1,3]] ?_)
 iterate 4 refine op1 tok ?_
 refine qA (AW.seq (AW.block (rgn [.nilp,.bool (!d.digits.all qJ)] [[],[],[],[],[],[1,3,13],[],[],[],[],[1,3,18],[],[],[],[],[1,3,23],[],[],[],[],[1,3,28],[1,3,7]] ?_)))
 iterate 22 first | refine op1 tok ?_ (hv:=by first | with_reducible exact True.intro | (((repeat' (first | with_reducible apply And.intro | intro _)) <;> first | exact (hoth) | assumption | omega | contradiction | simp_all); done) | omega | simp | (simp +contextual; omega)) | refine op2 tok ?_ (hv:=by first | with_reducible exact True.intro | (((repeat' (first | with_reducible apply And.intro | intro _)) <;> first | exact (hoth) | assumption | omega | contradiction | simp_all); done) | omega | simp | (simp +contextual; omega))
 refine qA (cnd ?_ ?_)
 ·intro h7
  try simp at h7
  rw [← List.length_eq_zero_iff] at h7
  have hno:wH d=false:=zEX (by
   rcases h7 with h | h
   ·omega
   right; right; right; right; rw [List.all_eq_false]; obtain ⟨x,hx,h⟩:=h; exact ⟨x,hx,by simp [h]⟩)
  refine rgn [] [[]] ?_
  refine op1 tok ?_
  refine qA ?_
  exact AW.ret (qP (k:=by simp [hno]))
 intro h7
 try simp at h7
 rw [← List.length_eq_zero_iff] at h7
 have hpos:0<d.digits.length:=by omega
 have hal:d.digits.all qJ=true:=by simpa using h7.2
 rw [qPC (by omega) hal]
 refine rgn [] [[],[],[],[1,3,29]] ?_
 iterate 4 refine op1 tok ?_
 refine qA (cnd ?_ ?_)
 ·intro h29
  try simp at h29
  refine rgn [] [[],[],[],[],[36,37],[],[],[40],[2]] ?_
  iterate 4 refine op1 tok ?_
  iterate 3 refine op2 tok ?_
  iterate 2 refine op1 tok ?_
  refine qA ?_
  exact AW.ret (qP (k:=by simp [h29]))
 intro h29
 try simp at h29
 refine AW.skip (rgn [.int .u8 (qN d.digits 0),.int .u8 (qN d.digits (d.digits.length-1))] [[],[],[],[],[1,3,45],[],[],[],[],[3,45,49,50],[],[],[],[45,49,54],[],[],[57],[2]] ?_)
 iterate 5 refine op1 tok ?_ (hv:=by first | with_reducible exact True.intro | (((repeat' (first | with_reducible apply And.intro | intro _)) <;> first | omega | assumption | contradiction | exact ⟨_,hix _ (by omega),rfl⟩ | simp_all); done) | omega | simp | (simp +contextual; omega))
 iterate 11 refine op2 tok ?_ (hv:=by first | with_reducible exact True.intro | (((repeat' (first | with_reducible apply And.intro | intro _)) <;> first | omega | assumption | contradiction | exact ⟨_,hix _ (by omega),rfl⟩ | simp_all); done) | omega | simp | (simp +contextual; omega))
 iterate 2 refine op1 tok ?_ (hv:=by first | with_reducible exact True.intro | (((repeat' (first | with_reducible apply And.intro | intro _)) <;> first | omega | assumption | contradiction | exact ⟨_,hix _ (by omega),rfl⟩ | simp_all); done) | omega | simp | (simp +contextual; omega))
 refine qA ?_
 exact AW.ret (qP (k:=by simp [h29]))
def jG (s:List UInt8):Nat:=s.foldl (fun n b=>n * 10+(b.toNat-48)) 0
theorem qAW (b:UInt8):qJ b=true↔48≤b.toNat∧b.toNat≤57:=by simp [qJ,yO]; omega
theorem qKF (s:List UInt8):∀ n,s.foldl (fun n b=>n * 10+(b.toNat-48)) n=n * 10 ^ s.length+jG s:=by
 induction s with
 | nil=>intro n; simp [jG]
 | cons b s ih =>
  intro n
  have e:jG (b::s)=(b.toNat-48) * 10 ^ s.length+jG s:=by unfold jG; rw [List.foldl_cons,ih]; simp [jG]
  rw [List.foldl_cons,ih,e,List.length_cons,Nat.pow_succ,Nat.add_mul,Nat.mul_assoc,Nat.mul_comm 10,Nat.add_assoc]
theorem qDL (b:UInt8) (s:List UInt8):jG (b::s)=(b.toNat-48) * 10 ^ s.length+jG s:=by
 unfold jG; rw [List.foldl_cons,qKF]; simp [jG]
theorem qRZ (s t:List UInt8):jG (s++t)=jG s * 10 ^ t.length+jG t:=by
 unfold jG; rw [List.foldl_append,qKF]; rfl
theorem zGJ {s:List UInt8} (h:s.all qJ=true):jG s<10 ^ s.length:=by
 induction s with
 | nil=>simp [jG]
 | cons b s ih =>
  simp only [List.all_cons,Bool.and_eq_true] at h
  have h1:=(qAW b).1 h.1
  have h2:=ih h.2
  rw [qDL,List.length_cons,Nat.pow_succ]
  have:b.toNat-48≤9:=by omega
  have:=Nat.mul_le_mul_right (10 ^ s.length) this
  omega
theorem zFQ {s:List UInt8} (h:s.all qJ=true) (n:Nat):(s.take n).all qJ=true:=by
 rw [List.all_eq_true] at h ⊢; exact fun b hb=>h b (List.mem_of_mem_take hb)
def yF (s p:List UInt8):Bool:=decide (p.length≤s.length) && decide (s.take p.length=p)
@[simp] theorem zFY (s p:List UInt8):AFn Tryz.prog G 115 [.str s,.str p] (.bool (yF s p)):=by
 refine AFn.intro tok Tryz.func115 (by kernel_rfl) rfl ?_
 simp only [Tryz.f115,St.start]
 refine AW.seqRun tok [] (by intro C; conv=>lhs; simp) trivial ?_
 refine AW.seqRun tok [] (by intro C; conv=>lhs; simp) (by simp +contextual) ?_
 exact AW.ret ⟨.inr rfl,_,_,by (conv=>lhs; simp),trivial,by simp [yF]⟩
@[simp] theorem qRS (s p:List UInt8):AFn Tryz.prog G 81 [.str s,.str p] (.bool (yF s p)):=by
 refine AFn.intro tok Tryz.func81 (by kernel_rfl) rfl ?_
 simp only [Tryz.f81,St.start]
 refine AW.seqRun tok [] (by intro C; conv=>lhs; simp) trivial ?_
 refine AW.seqRun tok [.tup [.str s,.str p],.bool (yF s p)] (by intro C; conv=>lhs; simp) (by simp) ?_
 exact AW.ret ⟨.inr rfl,_,_,by (conv=>lhs; simp),trivial,by simp⟩
def xY (s p:List UInt8):List UInt8:=if yF s p then s.drop p.length else s
@[simp] theorem zFZ (s p:List UInt8):AFn Tryz.prog G 142 [.str s,.str p] (.tup [.str (xY s p),.bool (yF s p)]):=by
 refine AFn.intro tok Tryz.func142 (by kernel_rfl) rfl ?_
 simp only [Tryz.f142,St.start]
 refine AW.seqRun tok [] (by intro C; conv=>lhs; simp) trivial ?_
 refine AW.seq ?_
 refine AW.seqRun tok [.tup [.str s,.str p],.bool (yF s p)] (by intro C; conv=>lhs; simp) (by simp) ?_
 refine AW.cond (c := .tmp 9) (by conv=>lhs; simp) trivial ?_ ?_
 ·intro h1
  simp at h1
  refine AW.seqRun tok [] (by intro C; conv=>lhs; simp) trivial ?_
  exact AW.ret ⟨.inr rfl,_,_,by (conv=>lhs; simp),trivial,by simp [xY,h1]⟩
 intro h1
 simp at h1
 refine AW.skip ?_
 refine AW.seqRun tok [] (by intro C; conv=>lhs; simp) (by simp [yF] at h1 ⊢; omega) ?_
 exact AW.ret ⟨.inr rfl,_,_,by (conv=>lhs; simp),trivial,by simp [xY,h1]⟩
@[simp] theorem qBU (s p:List UInt8):AFn Tryz.prog G 110 [.str s,.str p] (.tup [.str (xY s p),.bool (yF s p)]):=by
 refine AFn.intro tok Tryz.func110 (by kernel_rfl) rfl ?_
 simp only [Tryz.f110,St.start]
 refine AW.seqRun tok [] (by intro C; conv=>lhs; simp) trivial ?_
 refine AW.seqRun tok [.tup [.str s,.str p],.tup [.str (xY s p),.bool (yF s p)]] (by intro C; conv=>lhs; simp) (by simp) ?_
 exact AW.ret ⟨.inr rfl,_,_,by (conv=>lhs; simp),trivial,by simp⟩
theorem zOC:zJD Tryz.prog 170 Extern.BytealgIndexByte.indexByte:=fun args w=>run_callFunc_extern Tryz.func170 (by kernel_rfl) (by kernel_rfl) (by kernel_rfl) (by kernel_rfl) args w
@[simp] theorem zFX (s:List UInt8) (n:Int):AFn Tryz.prog G 165 [.str s,.int .u8 n] (.int .i64 (Lib.indexByte s n.toNat.toUInt8)):=by
 refine AFn.intro tok Tryz.func165 (by kernel_rfl) rfl ?_
 simp only [Tryz.f165,St.start]
 refine AW.seqRun tok [] (by intro C; conv=>lhs; simp) trivial ?_
 refine AW.seqRunX tok 2 [] [] rfl rfl (by intro C; conv=>lhs; simp) trivial (qRV (s:=s) (n:=n) (p:=True) (q:=True) (r:=True) zOC rfl (by simp) trivial (by simp) trivial (by simp) trivial) (by intro C; conv=>lhs; simp) trivial ?_
 exact AW.ret ⟨.inr rfl,_,_,by (conv=>lhs; simp),trivial,by simp⟩
@[simp] theorem qGZ (s:List UInt8) (n:Int):AFn Tryz.prog G 146 [.str s,.int .u8 n] (.int .i64 (Lib.indexByte s n.toNat.toUInt8)):=by
 refine AFn.intro tok Tryz.func146 (by kernel_rfl) rfl ?_
 simp only [Tryz.f146,St.start]
 refine AW.seqRun tok [] (by intro C; conv=>lhs; simp) trivial ?_
 refine AW.seqRun tok [.tup [.str s,.int .u8 n],.int .i64 (Lib.indexByte s n.toNat.toUInt8)] (by intro C; conv=>lhs; simp) (by simp) ?_
 exact AW.ret ⟨.inr rfl,_,_,by (conv=>lhs; simp),trivial,by simp⟩
def asF (cs:List UInt8) (i:Nat):Bool:=cs.any fun b=>b.toNat == i
theorem zFN (cs:List UInt8) (c:UInt8) (n:Nat):jI n (fun k=>decide (k=c.toNat) || asF cs k)=jI n (asF (cs++[c])):=qVY fun i _=>by
 by_cases h:i=c.toNat
 ·simp [asF,h]
 simp [asF,h,Ne.symm h]
def asS (cs:List UInt8) (a:Nat):St:=⟨[.p (.str cs),.dead,.ptr 2 0,.dead,.p (.int .i64 a)]++List.replicate 16 .dead,[],[(2,.vars 89 (qL (jI 256 (asF (cs.take a)))))],0⟩
theorem qBY (cs:List UInt8) (hcs:∀ b∈cs,b.toNat<128):AFn Tryz.prog G 51 [.str cs] (.tup [.agg (jI 256 (asF cs)),.bool true]):=by
 refine AFn.intro tok Tryz.func51 (by kernel_rfl) rfl ?_
 simp only [Tryz.f51,St.start]
 refine AW.strFact (i:=0) rfl ?_
 intro hlen
 refine AW.seqRun tok [] (by intro C; conv=>lhs; simp) (by simp) ?_
 refine AW.seq ?_
 refine AW.seqRun tok [] (by intro C; conv=>lhs; simp) trivial ?_
 refine AW.block ?_
 refine AW.loop (α:=Nat) (fun a=>a≤cs.length) (fun a=>asS cs a) (fun a=>cs.length-a) 0 (by omega) ⟨by simp [asS],rfl,by simp [asS,zCX]; rfl,by simp [asS]⟩ ?_
 intro a hI
 simp only [asS]
 refine AW.seq ?_
 refine AW.seqRun tok [] (by intro C; conv=>lhs; simp) trivial ?_
 refine AW.cond (c := .tmp 9) (by conv=>lhs; simp) trivial ?_ ?_
 ·intro h1
  simp at h1
  obtain ⟨c,hc⟩:∃ c,cs[a]?=some c:=⟨cs[a],by simp [h1]⟩
  have hclt:=hcs c (List.mem_of_getElem? hc)
  have hst:asF (cs.take (a+1))=asF (cs.take a++[c]):=by rw [List.take_add_one,hc]; rfl
  refine AW.skip (AW.seq (AW.block ?_))
  refine AW.seqRun tok [.int .u8 c.toNat] (by intro C; conv=>lhs; simp) (by simp [hc]) ?_
  refine AW.seq ?_
  refine AW.seqRun tok [] (by intro C; conv=>lhs; simp) trivial ?_
  refine AW.cond (c := .tmp 16) (by conv=>lhs; simp) trivial ?_ ?_
  ·intro h2
   simp at h2
   omega
  intro h2
  simp at h2
  refine AW.skip ?_
  refine AW.run tok [] (by intro C; conv=>lhs; simp) (by omega) ?_
  refine AW.run tok [] (by intro C; conv=>lhs; simp) (by omega) ?_
  exact ⟨a+1,by omega,by omega,by simp [asS],rfl,by simp [asS,hst]; exact congrArg qL (zFN _ _ _).symm,by simp [asS]⟩
 intro h1
 simp at h1
 have hall:cs.take a=cs:=List.take_of_length_le h1
 rw [hall]
 refine AW.exit ?_
 simp
 refine AW.seqRun tok [] (by intro C; conv=>lhs; simp) (by simp) ?_
 exact AW.ret ⟨.inr rfl,_,_,by (conv=>lhs; simp),by simp,by simp⟩
theorem qJA (F:Nat→Bool) (n:Int) (h0:0≤n) (h1:n<256):AX Tryz.prog G 86 [.ptr 5 0,.p (.int .u8 n)] [(5,.vars 89 (qL (jI 256 F)))] (.p (.bool (F n.toNat))) [5] [(5,.vars 89 (qL (jI 256 F)))]:=by
 refine AX.intro tok 2000 Tryz.func86 (by kernel_rfl) rfl ?_
 simp only [Tryz.f86,St.startX]
 refine AW.seqRun tok [] (by intro C; conv=>lhs; simp) trivial ?_
 refine AW.seqRun tok [.bool (F n.toNat)] (by intro C; conv=>lhs; simp) (by simp [qSZ (show n.toNat<256 by omega)]; omega) ?_
 exact AW.ret ⟨.inr rfl,_,_,by (conv=>lhs; simp),trivial,by simp,by simp,by simp,by simp⟩
def uO (F:Nat→Bool) (s:List UInt8):List UInt8:=s.dropWhile fun b=>F b.toNat
def qEB (F:Nat→Bool) (s:List UInt8):List UInt8:=(s.reverse.dropWhile fun b=>F b.toNat).reverse
def tlS (r:List UInt8) (F:Nat→Bool):St:=⟨[.p (.str r),.ptr 5 0]++List.replicate 14 .dead,[5],[(5,.vars 89 (qL (jI 256 F)))],1000⟩
theorem qAN (F:Nat→Bool) (s:List UInt8):AX Tryz.prog G 52 [.p (.str s),.ptr 5 0] [(5,.vars 89 (qL (jI 256 F)))] (.p (.str (uO F s))) [5] [(5,.vars 89 (qL (jI 256 F)))]:=by
 refine AX.intro tok 1000 Tryz.func52 (by kernel_rfl) rfl ?_
 simp only [Tryz.f52,St.startX]
 refine AW.seqRun tok [] (by intro C; conv=>lhs; simp) trivial ?_
 refine AW.seq (AW.block ?_)
 refine AW.loop (α:=List UInt8) (fun r=>uO F r=uO F s) (fun r=>tlS r F) (fun r=>r.length) s rfl ⟨by simp [tlS],rfl,by simp [tlS],by simp [tlS]⟩ ?_
 intro r hI
 simp only [tlS]
 refine AW.seq ?_
 refine AW.seqRun tok [] (by intro C; conv=>lhs; simp) trivial ?_
 refine AW.cond (c := .tmp 7) (by conv=>lhs; simp) trivial ?_ ?_
 ·intro h1
  simp at h1
  obtain ⟨b,r,rfl⟩:∃ b r',r=b::r':=by
   cases r with
   | nil=>simp at h1
   | cons b r=>exact ⟨b,r,rfl⟩
  have hb:b.toNat<256:=b.toNat_lt
  refine AW.skip (AW.block (AW.seq ?_))
  refine AW.seqRunX tok 3 [.int .u8 b.toNat] [] rfl rfl (by intro C; conv=>lhs; simp) (by simp) (zA rfl (qJA F b.toNat (by omega) (by omega)) (by simp)) (by intro C; conv=>lhs; simp) trivial ?_
  refine AW.cond (c := .tmp 12) (by conv=>lhs; simp) trivial ?_ ?_
  ·intro h2
   simp at h2
   refine AW.exit ?_
   simp
   refine AW.seqRun tok [] (by intro C; conv=>lhs; simp) trivial ?_
   exact AW.ret ⟨.inr rfl,_,_,by (conv=>lhs; simp),trivial,by rw [← hI]; simp [uO,h2],by simp,by simp,by simp⟩
  intro h2
  simp at h2
  refine AW.skip ?_
  refine AW.run tok [] (by intro C; conv=>lhs; simp) (by omega) ?_
  exact ⟨r,by rw [← hI]; simp [uO,h2],by simp,by simp [tlS],rfl,by simp [tlS],by simp [tlS]⟩
 intro h1
 simp at h1
 subst h1
 refine AW.exit ?_
 simp
 refine AW.seqRun tok [] (by intro C; conv=>lhs; simp) trivial ?_
 exact AW.ret ⟨.inr rfl,_,_,by (conv=>lhs; simp),trivial,by rw [← hI]; simp [uO],by simp,by simp,by simp⟩
theorem qFN (F:Nat→Bool) (s:List UInt8):AX Tryz.prog G 53 [.p (.str s),.ptr 5 0] [(5,.vars 89 (qL (jI 256 F)))] (.p (.str (qEB F s))) [5] [(5,.vars 89 (qL (jI 256 F)))]:=by
 refine AX.intro tok 1000 Tryz.func53 (by kernel_rfl) rfl ?_
 simp only [Tryz.f53,St.startX]
 refine AW.strFact (i:=0) rfl ?_
 intro hlen
 refine AW.seqRun tok [] (by intro C; conv=>lhs; simp) trivial ?_
 refine AW.seq (AW.block ?_)
 refine AW.loop (α:=List UInt8) (fun r=>qEB F r=qEB F s∧r.length≤s.length) (fun r=>⟨[.p (.str r),.ptr 5 0]++List.replicate 20 .dead,[5],[(5,.vars 89 (qL (jI 256 F)))],1000⟩) (fun r=>r.length) s ⟨rfl,Nat.le_refl _⟩ ⟨by simp,rfl,by simp,by simp⟩ ?_
 rintro r ⟨hI,hrl⟩
 refine AW.seq ?_
 refine AW.seqRun tok [] (by intro C; conv=>lhs; simp) trivial ?_
 refine AW.cond (c := .tmp 7) (by conv=>lhs; simp) trivial ?_ ?_
 ·intro h1
  simp at h1
  obtain ⟨r,b,rfl⟩:∃ r' b,r=r'++[b]:=⟨r.dropLast,r.getLast (by rintro rfl; simp at h1),(List.dropLast_concat_getLast _).symm⟩
  have hb:b.toNat<256:=b.toNat_lt
  simp at hrl
  refine AW.skip (AW.block (AW.seq ?_))
  refine AW.seqRunX tok 6 [.int .u8 b.toNat] [] rfl rfl (by intro C; conv=>lhs; simp) (by omega) (zA rfl (qJA F b.toNat (by omega) (by omega)) (by simp)) (by intro C; conv=>lhs; simp) trivial ?_
  refine AW.cond (c := .tmp 15) (by conv=>lhs; simp) trivial ?_ ?_
  ·intro h2
   simp at h2
   refine AW.exit ?_
   simp
   refine AW.seqRun tok [] (by intro C; conv=>lhs; simp) trivial ?_
   exact AW.ret ⟨.inr rfl,_,_,by (conv=>lhs; simp),trivial,by rw [← hI]; simp [qEB,h2],by simp,by simp,by simp⟩
  intro h2
  simp at h2
  refine AW.skip ?_
  refine AW.run tok [] (by intro C; conv=>lhs; simp) (by omega) ?_
  exact ⟨r,⟨by rw [← hI]; simp [qEB,h2],by omega⟩,by simp,by simp,rfl,by simp,by simp⟩
 intro h1
 simp at h1
 subst h1
 refine AW.exit ?_
 simp
 refine AW.seqRun tok [] (by intro C; conv=>lhs; simp) trivial ?_
 exact AW.ret ⟨.inr rfl,_,_,by (conv=>lhs; simp),trivial,by rw [← hI]; simp [qEB],by simp,by simp,by simp⟩
def qIF (s cs:List UInt8):List UInt8:=uO (asF cs) (qEB (asF cs) s)
theorem zIL (s cs:List UInt8) (h2:2≤cs.length) (hcs:∀ b∈cs,b.toNat<128):AFn Tryz.prog G 26 [.str s,.str cs] (.str (qIF s cs)):=by
 refine AFn.intro tok Tryz.func26 (by kernel_rfl) rfl ?_
 simp only [Tryz.f26,St.start]
 have hne:cs≠[]:=by rintro rfl; simp at h2
 refine AW.seqRun tok [] (by intro C; conv=>lhs; simp) trivial ?_
 refine AW.seq ?_
 refine AW.seqRun tok [] (by intro C; conv=>lhs; simp) (by simp +contextual) ?_
 refine AW.cond (c := .tmp 12) (by conv=>lhs; simp) trivial ?_ ?_
 ·intro h3
  simp [hne] at h3
  subst h3
  refine AW.seqRun tok [] (by intro C; conv=>lhs; simp) trivial ?_
  exact AW.ret ⟨.inr rfl,_,_,by (conv=>lhs; simp),trivial,by simp [qIF,uO,qEB]⟩
 intro h3
 simp [hne] at h3
 refine AW.skip (AW.seq ?_)
 refine AW.seqRun tok [.int .u8 0] (by intro C; conv=>lhs; simp) (by simp +contextual; omega) ?_
 refine AW.cond (c := .tmp 21) (by conv=>lhs; simp) trivial ?_ ?_
 ·intro h4
  simp at h4
  omega
 intro h4
 refine AW.skip (AW.seq ?_)
 refine AW.seqRun tok [.tup [.str cs],.tup [.agg (jI 256 (asF cs)),.bool true]] (by intro C; conv=>lhs; simp) (by simp [qBY cs hcs]) ?_
 refine AW.seqRun tok [] (by intro C; conv=>lhs; simp) trivial ?_
 refine AW.cond (c := .tmp 34) (by conv=>lhs; simp) trivial ?_ ?_
 ·intro _
  refine AW.seq (AW.region (qX.pref tok 1 [] (by intro C; conv=>lhs; simp) trivial ?_))
  simp only [List.drop_succ_cons,List.drop_zero]
  refine qX.step rfl (zA rfl (qFN (asF cs) s) (by simp)) ?_
  refine qX.step rfl (zA rfl (qAN (asF cs) (qEB (asF cs) s)) (by simp)) ?_
  refine qX.all tok [] (by intro C; conv=>lhs; simp) trivial ?_
  exact AW.ret ⟨.inr rfl,_,_,by (conv=>lhs; simp),trivial,by simp [qIF]⟩
 intro h; simp at h
theorem qUI {s:List UInt8} {k:Nat} (h:k<s.length):s[k]?=some (s.getD k 0):=by simp [List.getD_eq_getElem?_getD,h]
theorem qJE (s:List UInt8) (c:UInt8):AFn Tryz.prog G 49 [.str s,.int .u8 c.toNat] (.str (s.dropWhile (fun b=>b == c))):=by
 refine AFn.introU tok Tryz.func49 (by kernel_rfl) rfl rfl ?_
 simp only [Tryz.f49,qO,List.map_cons,List.map_nil]
 refine rgn [] [[0,1]] ?_
 refine op1 tok ?_
 refine qA (AW.seq (AW.block ?_))
 refine AW.loop (α:=List UInt8) (fun r=>r.dropWhile (fun b=>b == c)=s.dropWhile (fun b=>b == c)) (fun r=>⟨zI 17 [(0,.p (.str r)),(1,.p (.int .u8 c.toNat))],[],[],0⟩) (fun r=>r.length) (s) rfl ⟨qE (by simp),rfl,by simp,by simp⟩ ?_
 rintro r hr
 have hix:0<r.length→r[0]?=some (r.getD 0 0):=fun h=>qUI h
 refine AW.seq (rgn [.int .u8 (r.getD 0 0).toNat] [[],[],[],[],[],[0,1,8,10],[],[],[0,1,13]] ?_)
 iterate 4 refine op1 tok ?_ (hv:=by first | with_reducible exact True.intro | (first | exact fun h=>⟨h,_,hix (by omega),rfl⟩ | simp; done) | omega | simp | (simp +contextual; omega))
 iterate 4 refine op2 tok ?_ (hv:=by first | with_reducible exact True.intro | (first | exact fun h=>⟨h,_,hix (by omega),rfl⟩ | simp; done) | omega | simp | (simp +contextual; omega))
 refine op1 tok ?_ (hv:=by first | with_reducible exact True.intro | (first | exact fun h=>⟨h,_,hix (by omega),rfl⟩ | simp; done) | omega | simp | (simp +contextual; omega))
 refine qA (cnd ?_ ?_)
 ·intro h13
  try simp at h13
  obtain ⟨b,r,rfl⟩:∃ b r',r=b::r':=by
   cases r with
   | nil=>simp at h13
   | cons b r=>exact ⟨b,r,rfl⟩
  have hb:b=c:=UInt8.toNat_inj.1 (by have:=h13.2; simp at this; omega)
  subst hb
  have hr2:List.dropWhile (fun b'=>b' == b) r=List.dropWhile (fun b'=>b' == b) s:=by rw [← hr]; simp
  refine AW.skip (AW.block (rgz [] [[],[],[0,1]] ?_))
  iterate 3 refine op1 tok ?_
  refine qA ?_
  exact ⟨r,hr2,by simp,qE (by simp),rfl,by simp,by simp⟩
 intro h13
 try simp at h13
 have hr3:s.dropWhile (fun b=>b == c)=r:=by
  rw [← hr]
  cases r with
  | nil=>rfl
  | cons b r =>
   have hb:b≠c:=by rintro rfl; simp at h13
   simp [hb]
 rw [hr3]
 refine AW.exit ?_
 simp
 refine rgn [] [[],[4]] ?_
 iterate 2 refine op1 tok ?_
 exact qA (AW.ret qP)
theorem qSJ (s:List UInt8) (c:UInt8):(decide (1≤(s.length:Int)) && decide (List.drop (s.length-1) s=[c]))=decide (s.getLast?=some c):=by
 by_cases h:s=[]
 ·subst h; simp
 obtain ⟨a,b,rfl⟩:∃ a b,s=a++[b]:=⟨s.dropLast,s.getLast h,(List.dropLast_concat_getLast h).symm⟩
 rw [Bool.eq_iff_iff]
 simp
 intro _; omega
theorem qMY (s:List UInt8) (c:UInt8):AFn Tryz.prog G 100 [.str s,.str [c]] (.bool (decide (s.getLast?=some c))):=by
 refine AFn.introU tok Tryz.func100 (by kernel_rfl) rfl rfl ?_
 simp only [Tryz.f100,qO,List.map_cons,List.map_nil]
 refine AW.strFactU (i:=0) rfl (by decide) ?_
 intro hlen
 have hsuf:(decide (1≤(s.length:Int)) && decide (List.drop (s.length-1) s=[c]))=decide (s.getLast?=some c):=qSJ s c
 refine rgn [] [[0,1]] ?_
 refine op1 tok ?_
 refine qA (rgn [] [[],[],[],[],[0,1,9],[],[],[],[],[],[1,10,11,13,15],[],[1,10,17],[],[],[20],[4]] ?_)
 iterate 6 refine op1 tok ?_
 iterate 9 refine op2 tok ?_
 iterate 2 refine op1 tok ?_
 refine qA ?_
 exact AW.ret (qP (k:=by simp [hsuf]))
theorem qRR (s:List UInt8) (c:UInt8):AFn Tryz.prog G 67 [.str s,.str [c]] (.bool (decide (s.getLast?=some c))):=by
 refine AFn.introU tok Tryz.func67 (by kernel_rfl) rfl rfl ?_
 simp only [Tryz.f67,qO,List.map_cons,List.map_nil]
 refine rgn [] [[0,1]] ?_
 refine op1 tok ?_
 refine qA (rgn [.nilp,.bool (decide (s.getLast?=some c))] [[],[],[7],[4]] ?_)
 iterate 4 refine op1 tok ?_ (hv:=by first | with_reducible exact True.intro | (exact qMY s c; done) | omega | simp | (simp +contextual; omega))
 exact qA (AW.ret qP)
theorem qRQ (s:List UInt8) (c:UInt8) (hc:c.toNat<128):AFn Tryz.prog G 66 [.str s,.str [c]] (.str (s.dropWhile (fun b=>b == c))):=by
 refine AFn.introU tok Tryz.func66 (by kernel_rfl) rfl rfl ?_
 simp only [Tryz.f66,qO,List.map_cons,List.map_nil]
 refine rgn [] [[0,1]] ?_
 refine op1 tok ?_
 refine qA (AW.seq (rgn [] [[],[],[],[],[],[0,1,12]] ?_))
 iterate 3 refine op1 tok ?_
 iterate 2 refine op2 tok ?_
 refine op1 tok ?_
 refine qA (cnd ?_ ?_)
 ·intro h12
  try simp at h12
  subst h12
  refine rgn [] [[],[4]] ?_
  iterate 2 refine op1 tok ?_
  exact qA (AW.ret qP)
 intro h12
 try simp at h12
 refine AW.skip (AW.seq (rgn [.int .u8 c.toNat] [[],[],[],[],[],[0,1,17,19],[],[0,1,21]] ?_))
 iterate 4 refine op1 tok ?_ (hv:=by first | with_reducible exact True.intro | (simp; done) | omega | simp | (simp +contextual; omega))
 iterate 3 refine op2 tok ?_ (hv:=by first | with_reducible exact True.intro | (simp; done) | omega | simp | (simp +contextual; omega))
 refine op1 tok ?_ (hv:=by first | with_reducible exact True.intro | (simp; done) | omega | simp | (simp +contextual; omega))
 refine qA (cnd ?_ ?_)
 ·intro h21
  try simp at h21
  refine rgn [.int .u8 c.toNat,.nilp,.str (s.dropWhile (fun b=>b == c))] [[],[],[],[25],[4]] ?_
  iterate 5 refine op1 tok ?_ (hv:=by first | with_reducible exact True.intro | (first | exact qJE s c | simp; done) | omega | simp | (simp +contextual; omega))
  exact qA (AW.ret qP)
 intro h21
 try simp at h21
 omega
theorem qJC (s cs:List UInt8) (h2:2≤cs.length) (hcs:∀ b∈cs,b.toNat<128):AFn Tryz.prog G 66 [.str s,.str cs] (.str (uO (asF cs) s)):=by
 refine AFn.introU tok Tryz.func66 (by kernel_rfl) rfl rfl ?_
 simp only [Tryz.f66,qO,List.map_cons,List.map_nil]
 have hne:cs≠[]:=by rintro rfl; simp at h2
 have hmk:=qBY (G:=G) cs hcs
 refine rgn [] [[0,1]] ?_
 refine op1 tok ?_
 refine qA (AW.seq (rgn [] [[],[],[],[],[],[0,1,12]] ?_))
 iterate 3 refine op1 tok ?_
 iterate 2 refine op2 tok ?_
 refine op1 tok ?_
 refine qA (cnd ?_ ?_)
 ·intro h12
  try simp at h12
  simp [hne] at h12
  subst h12
  refine rgn [] [[],[4]] ?_
  iterate 2 refine op1 tok ?_
  refine qA ?_
  exact AW.ret (qP (k:=by simp [uO]))
 intro h12
 try simp at h12
 refine AW.skip (AW.seq (rgn [.int .u8 0] [[],[],[],[],[],[0,1,17,19],[],[0,1,21]] ?_))
 iterate 4 refine op1 tok ?_
 iterate 3 refine op2 tok ?_
 refine op1 tok ?_
 refine qA (cnd ?_ ?_)
 ·intro h21
  try simp at h21
  omega
 intro h21
 try simp at h21
 refine AW.skip (AW.seq (rgn [.nilp,.tup [.agg (jI 256 (asF cs)),.bool true]] [[],[],[],[],[],[],[0,1,5,30],[0,1,5,6]] ?_))
 iterate 8 refine oq1 tok hmk ?_
 refine qA (rgn [] [[0,1,5,31]] ?_)
 refine op1 tok ?_
 refine qA (cnd ?_ ?_)
 ·intro h31
  try simp at h31
  refine rgn [] [[]] ?_
  refine op1 tok ?_
  refine qK ?_
  refine qB.stepK [33] (zA rfl (qAN (asF cs) s) (by simp)) (by conv=>lhs; simp) rfl ?_
  refine qB.run [[4]] ?_
  refine op1 tok ?_
  exact qA (AW.ret qP)
 intro h31
 try simp at h31
def jL (s:List UInt8):Bool:=decide (0<s.length) && decide (qN s 0=45)
def qBX (s:List UInt8) (k:Nat) (digits:List UInt8):Option (Nat × List UInt8 × Nat) :=
 if k<s.length∧qN s k=46 then (if zM s (k+1)=0 then none else some (k+1+zM s (k+1),digits++(s.take (k+1+zM s (k+1))).drop (k+1),zM s (k+1))) else some (k,digits,0)
def upM (s:List UInt8) (k:Nat):Nat→Int
 | 0=>0
 | i+1=>10 * upM s k i+(qN s (k+i)-48)
def wW (s:List UInt8) (k:Nat):Nat:=if k<s.length∧(qN s k=45∨qN s k=43) then k+1 else k
def qCI (s:List UInt8) (k:Nat):Option (Nat × Int) :=
 if k<s.length∧(qN s k=101∨qN s k=69) then
  (if zM s (wW s (k+1))<1∨2<zM s (wW s (k+1)) then none
   else some (wW s (k+1)+zM s (wW s (k+1)),if k+1<s.length∧qN s (k+1)=45 then-upM s (wW s (k+1)) (zM s (wW s (k+1))) else upM s (wW s (k+1)) (zM s (wW s (k+1)))))
 else some (k,0)
def kS:Dc × Int:=(⟨false,[],0⟩,4)
def jN (neg:Bool) (digits:List UInt8) (sc:Int):Dc × Int:=if sc<0 then wI neg (digits++zH (-sc).toNat) 0 else wI neg digits sc.toNat
def vQ (s:List UInt8) (neg:Bool) (digits:List UInt8) (scale:Nat):Option (Nat × Int)→Dc × Int
 | none=>kS
 | some (k,up)=>if k=s.length then jN neg digits (scale-up) else kS
def qFQ (s:List UInt8) (neg:Bool):Option (Nat × List UInt8 × Nat)→Dc × Int
 | none=>kS
 | some (k,digits,scale)=>vQ s neg digits scale (qCI s k)
def a0M (s:List UInt8):Nat:=if jL s=true then 1 else 0
def uJ (s:List UInt8):Dc × Int :=
 if zM s (a0M s)=0∨(1<zM s (a0M s)∧qN s (a0M s)=48) then kS
 else qFQ s (jL s) (qBX s (a0M s+zM s (a0M s)) ((s.take (a0M s+zM s (a0M s))).drop (a0M s)))
theorem qFT (s:List UInt8) (k:Nat) (h:k≤s.length):k+zM s k≤s.length:=by
 unfold zM
 have:=(List.takeWhile_sublist (l:=s.drop k) fun b:UInt8=>yO b.toNat).length_le
 simp at this; omega
theorem qSY {s:List UInt8} {k:Nat} (h:0<zM s k):k<s.length:=((qPY (Nat.zero_le _)).1 h).1
theorem uB {s:List UInt8} {k i:Nat} (h:i<zM s k):k+i<s.length∧48≤qN s (k+i)∧qN s (k+i)≤57:=by
 have:=(qPY (Nat.le_of_lt h)).1 h
 simpa [yO] using this
theorem qZQ {s:List UInt8} {k:Nat}:∀ {i:Nat},i≤2→i≤zM s k→0≤upM s k i∧upM s k i≤99∧(i≤1→upM s k i≤9)
 | 0,_,_=>by simp [upM]
 | 1,_,h=>by have:=uB (s:=s) (k:=k) (i:=0) (by omega); simp [upM] at this ⊢; omega
 | 2,_,h=>by
  have h1:=uB (s:=s) (k:=k) (i:=0) (by omega)
  have h2:=uB (s:=s) (k:=k) (i:=1) (by omega)
  simp [upM] at h1 h2 ⊢; omega
theorem zFR (s:List UInt8):a0M s≤1:=by unfold a0M; split <;> omega
theorem zFT (s:List UInt8) (hs:s.length≤100000):AFn Tryz.prog G 98 [.str s] (.tup [(uJ s).1.enc,.int .i64 (uJ s).2]):=by
 refine AFn.introU tok Tryz.func98 (by kernel_rfl) rfl rfl ?_
 simp only [Tryz.f98,qO,List.map_cons,List.map_nil]
 have hrun:=fun k hk=>zJP (G:=G) s k (by omega) hk
 have hix:∀ k:Nat,k<s.length→s[k]?=some (s.getD k 0):=fun k h=>jW h
 refine rgn [] [[],[0,2]] ?_
 iterate 2 refine op1 tok ?_
 refine qA (rgn [] [[]] ?_)
 refine op1 tok ?_
 refine qA (rgn [.int .u8 (qN s 0)] [[],[],[],[],[],[0,2,4,15,17],[],[],[0,2,4,5]] ?_)
 iterate 4 refine op1 tok ?_ (hv:=by first | with_reducible exact True.intro | (first | exact fun h=>⟨h,by omega,_,hix 0 (by omega),rfl⟩ | exact fun h=>⟨h,_,hix 0 (by omega),rfl⟩ | simp; done) | omega | simp | (simp +contextual; omega))
 iterate 3 refine op2 tok ?_ (hv:=by first | with_reducible exact True.intro | (first | exact fun h=>⟨h,by omega,_,hix 0 (by omega),rfl⟩ | exact fun h=>⟨h,_,hix 0 (by omega),rfl⟩ | simp; done) | omega | simp | (simp +contextual; omega))
 iterate 2 refine op1 tok ?_ (hv:=by first | with_reducible exact True.intro | (first | exact fun h=>⟨h,by omega,_,hix 0 (by omega),rfl⟩ | exact fun h=>⟨h,_,hix 0 (by omega),rfl⟩ | simp; done) | omega | simp | (simp +contextual; omega))
 refine qA ?_
 refine AW.join (α:=Unit) (fun _=>True) (fun a=>⟨zI 175 [(0,.p (.str s)),(2,.ptr 2 0),(4,.p (.int .i64 (a0M s))),(5,.p (.bool (jL s)))],[],[(2,.vars 39 [.p (.bool false),.p (.str []),.p (.int .i64 0)])],0⟩) ?_ ?_
 ·
  refine rgn [] [[]] ?_
  refine op1 tok ?_
  refine qA (cnd ?_ ?_)
  ·intro h20
   try simp at h20
   refine rgz [] [[]] ?_
   refine op1 tok ?_
   refine qA ?_
   exact ⟨(),trivial,qE (by simp [a0M,jL,h20]),rfl,by simp [a0M,jL,h20],by simp [a0M,jL,h20]⟩
  intro h20
  try simp at h20
  have hneg:jL s=false:=by
   rw [← Bool.not_eq_true]; intro h; simp only [jL,Bool.and_eq_true,decide_eq_true_eq] at h; exact h20 h.1 h.2
  have hneg0:=hneg
  have ha00:a0M s=0:=by simp [a0M,hneg]
  simp only [jL] at hneg0
  refine AW.skip ?_
  exact ⟨(),trivial,qE (by simp [ha00,hneg0,hneg]),rfl,by simp [ha00,hneg0,hneg],by simp [ha00,hneg0,hneg]⟩
 ·
  rintro a hI
  have ha0:=zFR s
  have hn0:=qPZ s (a0M s)
  have hp0:=qSY (s:=s) (k:=a0M s)
  have hin0:=qFT s (a0M s)
  refine rgn [.nilp,.int .i64 (zM s (a0M s))] [[],[],[],[0,2,4,5,6]] ?_
  iterate 4 refine op1 tok ?_ (hv:=by first | with_reducible exact True.intro | (simp [hrun (a0M s) (by have:=zFR s; omega)]; done) | omega | simp | (simp +contextual; omega))
  refine qA (AW.seq (rgn [.int .u8 (qN s (a0M s))] [[],[],[],[],[],[0,2,4,5,6,26,29],[],[],[],[],[0,2,4,5,6,26,34],[0,2,4,5,6,35]] ?_))
  iterate 3 refine op1 tok ?_ (hv:=by first | with_reducible exact True.intro | (first | exact fun h1 h2=>⟨⟨h1,h2⟩,_,hix (a0M s) (hp0 (by omega)),rfl⟩ | exact fun h1=>⟨h1,fun h2=>⟨h1,h2⟩⟩ | simp; done) | omega | simp | (simp +contextual; omega))
  iterate 8 refine op2 tok ?_ (hv:=by first | with_reducible exact True.intro | (first | exact fun h1 h2=>⟨⟨h1,h2⟩,_,hix (a0M s) (hp0 (by omega)),rfl⟩ | exact fun h1=>⟨h1,fun h2=>⟨h1,h2⟩⟩ | simp; done) | omega | simp | (simp +contextual; omega))
  refine op1 tok ?_ (hv:=by first | with_reducible exact True.intro | (first | exact fun h1 h2=>⟨⟨h1,h2⟩,_,hix (a0M s) (hp0 (by omega)),rfl⟩ | exact fun h1=>⟨h1,fun h2=>⟨h1,h2⟩⟩ | simp; done) | omega | simp | (simp +contextual; omega))
  refine qA (cnd ?_ ?_)
  ·intro h35
   try simp at h35
   have hP:uJ s=kS:=by unfold uJ; rw [if_pos (by omega)]
   refine rgn [] [[],[],[2,3]] ?_
   iterate 3 refine op1 tok ?_
   refine qA ?_
   exact AW.ret (qP (k:=by simp [hP,kS]))
  intro h35
  try simp at h35
  have hP:uJ s=qFQ s (jL s) (qBX s (a0M s+zM s (a0M s)) ((s.take (a0M s+zM s (a0M s))).drop (a0M s))):=by unfold uJ; rw [if_neg (by omega)]
  rw [hP]
  have hin:=hin0 (by have:=hp0 (by omega); omega)
  generalize hdg:(s.take (a0M s+zM s (a0M s))).drop (a0M s)=dg0
  have hdgl:dg0.length≤s.length:=by rw [← hdg]; simp; omega
  obtain ⟨k1,hk1⟩:∃ k1,k1=a0M s+zM s (a0M s):=⟨_,rfl⟩
  rw [← hk1] at hin hdg ⊢
  refine AW.skip (rgn [] [[],[],[],[],[],[0,2,4,5,6,42],[0,2,4,5,6,7]] ?_)
  iterate 7 refine op1 tok ?_ (hv:=by first | with_reducible exact True.intro | (omega; done) | omega | simp | (simp +contextual; omega))
  refine qA (rgn [] [[],[],[0,2,5,7,45],[0,2,4,5,7]] ?_)
  iterate 4 refine op1 tok ?_
  refine qA ?_
  rw [show ((a0M s:Int)+(zM s (a0M s):Nat))=(k1:Nat) by omega]
  refine rgn [] [[]] ?_
  refine op1 tok ?_
  refine qA ?_
  refine AW.join (α:=Nat × List UInt8 × Nat) (fun a=>qBX s k1 dg0=some a∧a.1≤s.length∧a.2.1.length≤200000∧a.2.2≤s.length) (fun a=>⟨zI 175 [(0,.p (.str s)),(2,.ptr 2 0),(4,.p (.int .i64 a.1)),(5,.p (.bool (jL s))),(7,.p (.str a.2.1)),(8,.p (.int .i64 a.2.2))],[],[(2,.vars 39 [.p (.bool false),.p (.str []),.p (.int .i64 0)])],0⟩) ?_ ?_
  ·
   have hr1:=qFT s (k1+1)
   refine rgn [.int .u8 (qN s k1)] [[],[],[],[],[0,2,4,5,7,8,50],[],[],[],[],[0,2,4,5,7,8,55]] ?_
   iterate 5 refine op1 tok ?_ (hv:=by first | with_reducible exact True.intro | (first | exact fun h=>⟨h,_,hix k1 (by omega),rfl⟩ | simp; done) | omega | simp | (simp +contextual; omega))
   iterate 4 refine op2 tok ?_ (hv:=by first | with_reducible exact True.intro | (first | exact fun h=>⟨h,_,hix k1 (by omega),rfl⟩ | simp; done) | omega | simp | (simp +contextual; omega))
   refine op1 tok ?_ (hv:=by first | with_reducible exact True.intro | (first | exact fun h=>⟨h,_,hix k1 (by omega),rfl⟩ | simp; done) | omega | simp | (simp +contextual; omega))
   refine qA (cnd ?_ ?_)
   ·intro h55
    try simp at h55
    refine rgn [.nilp,.int .i64 (zM s (k1+1))] [[],[],[],[],[0,2,4,5,7,8]] ?_
    iterate 5 refine op1 tok ?_ (hv:=by first | with_reducible exact True.intro | (first | omega | exact hrun (k1+1) (by omega); done) | omega | simp | (simp +contextual; omega))
    refine qA (AW.seq (rgn [] [[],[0,2,4,5,7,8,61]] ?_))
    iterate 2 refine op1 tok ?_
    refine qA (cnd ?_ ?_)
    ·intro h61
     try simp at h61
     have hP2:qBX s k1 dg0=none:=by simp [qBX,h55.1,h55.2,h61]
     refine rgn [] [[],[],[2,3]] ?_
     iterate 3 refine op1 tok ?_
     refine qA ?_
     exact AW.ret (qP (k:=by simp [hP2,qFQ,kS]))
    intro h61
    try simp at h61
    refine AW.skip (rgn [] [[],[],[],[],[],[],[],[0,2,4,5,8,63,64,66,70],[],[0,2,4,5,8,72],[0,2,4,5,7,8]] ?_)
    iterate 11 refine op1 tok ?_
    refine qA (rgz [] [[],[],[],[0,2,5,7,8,76],[0,2,4,5,7,8]] ?_)
    iterate 5 refine op1 tok ?_
    refine qA ?_
    exact ⟨(k1+1+zM s (k1+1),dg0++(s.take (k1+1+zM s (k1+1))).drop (k1+1),zM s (k1+1)),⟨by simp [qBX,h55.1,h55.2,h61],hr1 (by omega),by simp; omega,by have:=hr1 (by omega); show zM s (k1+1)≤s.length; omega⟩,qE (by simp [hdg,show ((k1:Int)+1+(zM s (k1+1):Nat)).toNat=k1+1+zM s (k1+1) from by omega]),rfl,by simp [hdg,show ((k1:Int)+1+(zM s (k1+1):Nat)).toNat=k1+1+zM s (k1+1) from by omega],by simp [hdg,show ((k1:Int)+1+(zM s (k1+1):Nat)).toNat=k1+1+zM s (k1+1) from by omega]⟩
   intro h55
   try simp at h55
   refine AW.skip ?_
   exact ⟨(k1,dg0,0),⟨by simp only [qBX]; rw [if_neg (by intro h; exact h55 h.1 h.2)],hin,by show dg0.length≤200000; omega,by simp⟩,qE (by simp [hdg]),rfl,by simp [hdg],by simp [hdg]⟩
  ·
   rintro ⟨k,digits,scale⟩ ⟨hp2,hk,hdl,hsc⟩
   simp only at hk hdl hsc
   have hT:qFQ s (jL s) (qBX s k1 dg0)=vQ s (jL s) digits scale (qCI s k):=by rw [hp2]; rfl
   rw [hT]
   have hix1:(k:Int)+1<s.length→s[((k:Int)+1).toNat]?=some (s.getD (k+1) 0):=fun h=>by rw [show ((k:Int)+1).toNat=k+1 by omega]; exact hix (k+1) (by omega)
   refine rgn [] [[]] ?_
   refine op1 tok ?_
   refine qA ?_
   refine AW.join (α:=Nat × Int) (fun b=>qCI s k=some b∧b.1≤300000 ∧ -99≤b.2∧b.2≤99) (fun b=>⟨zI 175 [(0,.p (.str s)),(2,.ptr 2 0),(4,.p (.int .i64 b.1)),(5,.p (.bool (jL s))),(7,.p (.str digits)),(8,.p (.int .i64 scale)),(9,.p (.int .i64 b.2))],[],[(2,.vars 39 [.p (.bool false),.p (.str []),.p (.int .i64 0)])],0⟩) ?_ ?_
   ·
    refine rgn [.int .u8 (qN s k),.int .u8 (qN s k)] [[],[],[],[],[0,2,4,5,7,8,9,81],[],[],[],[],[0,2,4,5,7,8,9,81,86],[],[],[],[],[0,2,4,5,7,8,9,81,91],[0,2,4,5,7,8,9,92]] ?_
    iterate 5 refine op1 tok ?_ (hv:=by first | with_reducible exact True.intro | (((repeat' (first | with_reducible apply And.intro | intro _)) <;> first | omega | assumption | contradiction | exact ⟨_,hix _ (by omega),rfl⟩ | simp_all); done) | omega | simp | (simp +contextual; omega))
    iterate 10 refine op2 tok ?_ (hv:=by first | with_reducible exact True.intro | (((repeat' (first | with_reducible apply And.intro | intro _)) <;> first | omega | assumption | contradiction | exact ⟨_,hix _ (by omega),rfl⟩ | simp_all); done) | omega | simp | (simp +contextual; omega))
    refine op1 tok ?_ (hv:=by first | with_reducible exact True.intro | (((repeat' (first | with_reducible apply And.intro | intro _)) <;> first | omega | assumption | contradiction | exact ⟨_,hix _ (by omega),rfl⟩ | simp_all); done) | omega | simp | (simp +contextual; omega))
    refine qA (cnd ?_ ?_)
    ·intro h92
     try simp at h92
     refine rgn [] [[],[],[0,2,4,5,7,8,9]] ?_
     iterate 3 refine op1 tok ?_
     refine qA (rgn [.int .u8 (qN s (k+1))] [[],[],[],[],[0,2,4,5,7,8,9,99],[],[],[],[],[0,2,4,5,7,8,9,104],[0,2,4,5,7,8,9,10]] ?_)
     iterate 5 refine op1 tok ?_ (hv:=by first | with_reducible exact True.intro | (((repeat' (first | with_reducible apply And.intro | intro _)) <;> first | omega | assumption | contradiction | exact ⟨_,hix _ (by omega),rfl⟩ | simp_all); done) | omega | simp | (simp +contextual; omega))
     iterate 4 refine op2 tok ?_ (hv:=by first | with_reducible exact True.intro | (((repeat' (first | with_reducible apply And.intro | intro _)) <;> first | omega | assumption | contradiction | exact ⟨_,hix _ (by omega),rfl⟩ | simp_all); done) | omega | simp | (simp +contextual; omega))
     iterate 2 refine op1 tok ?_ (hv:=by first | with_reducible exact True.intro | (((repeat' (first | with_reducible apply And.intro | intro _)) <;> first | omega | assumption | contradiction | exact ⟨_,hix _ (by omega),rfl⟩ | simp_all); done) | omega | simp | (simp +contextual; omega))
     refine qA ?_
     refine AW.join (α:=Unit) (fun _=>True) (fun a=>⟨zI 175 [(0,.p (.str s)),(2,.ptr 2 0),(4,.p (.int .i64 (wW s (k+1)))),(5,.p (.bool (jL s))),(7,.p (.str digits)),(8,.p (.int .i64 scale)),(9,.p (.int .i64 0)),(10,.p (.bool (decide (k+1<s.length) && decide (qN s (k+1)=45))))],[],[(2,.vars 39 [.p (.bool false),.p (.str []),.p (.int .i64 0)])],0⟩) ?_ ?_
     ·
      refine rgn [.int .u8 (qN s (k+1)),.int .u8 (qN s (k+1))] [[],[],[],[],[0,2,4,5,7,8,9,10,109],[],[],[],[],[0,2,4,5,7,8,9,10,109,114],[],[],[],[],[0,2,4,5,7,8,9,10,109,119],[0,2,4,5,7,8,9,10,120]] ?_
      iterate 5 refine op1 tok ?_ (hv:=by first | with_reducible exact True.intro | (((repeat' (first | with_reducible apply And.intro | intro _)) <;> first | omega | assumption | contradiction | exact ⟨_,hix _ (by omega),rfl⟩ | simp_all); done) | omega | simp | (simp +contextual; omega))
      iterate 10 refine op2 tok ?_ (hv:=by first | with_reducible exact True.intro | (((repeat' (first | with_reducible apply And.intro | intro _)) <;> first | omega | assumption | contradiction | exact ⟨_,hix _ (by omega),rfl⟩ | simp_all); done) | omega | simp | (simp +contextual; omega))
      refine op1 tok ?_ (hv:=by first | with_reducible exact True.intro | (((repeat' (first | with_reducible apply And.intro | intro _)) <;> first | omega | assumption | contradiction | exact ⟨_,hix _ (by omega),rfl⟩ | simp_all); done) | omega | simp | (simp +contextual; omega))
      refine qA (cnd ?_ ?_)
      ·intro h120
       try simp at h120
       refine rgz [] [[],[],[0,2,4,5,7,8,9,10]] ?_
       iterate 3 refine op1 tok ?_
       refine qA ?_
       exact ⟨(),trivial,qE (by simp [show wW s (k+1)=k+1+1 from by (unfold wW; rw [if_pos ⟨by omega,h120.2⟩]),show ((k:Int)+1<(s.length:Int))=(k+1<s.length) from propext (by omega)]),rfl,by simp [show wW s (k+1)=k+1+1 from by (unfold wW; rw [if_pos ⟨by omega,h120.2⟩]),show ((k:Int)+1<(s.length:Int))=(k+1<s.length) from propext (by omega)],by simp [show wW s (k+1)=k+1+1 from by (unfold wW; rw [if_pos ⟨by omega,h120.2⟩]),show ((k:Int)+1<(s.length:Int))=(k+1<s.length) from propext (by omega)]⟩
      intro h120
      try simp at h120
      refine AW.skip ?_
      exact ⟨(),trivial,qE (by simp [show wW s (k+1)=k+1 from by (unfold wW; rw [if_neg (by intro h; have:=h120 (by omega); omega)]),show ((k:Int)+1<(s.length:Int))=(k+1<s.length) from propext (by omega)]),rfl,by simp [show wW s (k+1)=k+1 from by (unfold wW; rw [if_neg (by intro h; have:=h120 (by omega); omega)]),show ((k:Int)+1<(s.length:Int))=(k+1<s.length) from propext (by omega)],by simp [show wW s (k+1)=k+1 from by (unfold wW; rw [if_neg (by intro h; have:=h120 (by omega); omega)]),show ((k:Int)+1<(s.length:Int))=(k+1<s.length) from propext (by omega)]⟩
     ·
      rintro a hI
      have hsg:wW s (k+1)≤s.length+1:=by unfold wW; split <;> omega
      have hin3:=qFT s (wW s (k+1))
      have hp3:=qSY (s:=s) (k:=wW s (k+1))
      have hn3:=qPZ s (wW s (k+1))
      obtain ⟨k3,hk3⟩:∃ k3,k3=wW s (k+1):=⟨_,rfl⟩
      rw [← hk3] at hsg hin3 hp3 hn3 ⊢
      refine rgn [.nilp,.int .i64 (zM s k3)] [[],[],[],[0,2,4,5,6,7,8,9,10]] ?_
      iterate 4 refine op1 tok ?_ (hv:=by first | with_reducible exact True.intro | (exact hrun k3 (by omega); done) | omega | simp | (simp +contextual; omega))
      refine qA (AW.seq (rgn [] [[],[],[],[],[],[0,2,4,5,6,7,8,9,10,131]] ?_))
      iterate 3 refine op1 tok ?_
      iterate 2 refine op2 tok ?_
      refine op1 tok ?_
      refine qA (cnd ?_ ?_)
      ·intro h131
       try simp at h131
       have hP3:qCI s k=none:=by simp only [qCI]; rw [if_pos h92,← hk3,if_pos (by omega)]
       refine rgn [] [[],[],[2,3]] ?_
       iterate 3 refine op1 tok ?_
       refine qA ?_
       exact AW.ret (qP (k:=by simp [hP3,vQ,kS]))
      intro h131
      try simp at h131
      have hP3:qCI s k=some (k3+zM s k3,if k+1<s.length∧qN s (k+1)=45 then-upM s k3 (zM s k3) else upM s k3 (zM s k3)):=by simp only [qCI]; rw [if_pos h92,← hk3,if_neg (by omega)]
      have hk3l:k3<s.length:=hp3 (by omega)
      have hdig:=fun i=>uB (s:=s) (k:=k3) (i:=i)
      refine AW.skip (AW.seq (rgn [] [[]] ?_))
      refine op1 tok ?_
      refine qA (AW.block ?_)
      refine AW.loop (α:=Nat) (fun i=>i≤zM s k3) (fun i=>⟨zI 175 [(0,.p (.str s)),(2,.ptr 2 0),(4,.p (.int .i64 k3)),(5,.p (.bool (jL s))),(6,.p (.int .i64 (zM s k3))),(7,.p (.str digits)),(8,.p (.int .i64 scale)),(9,.p (.int .i64 (upM s k3 i))),(10,.p (.bool (decide (k+1<s.length) && decide (qN s (k+1)=45)))),(11,.p (.int .i64 i))],[],[(2,.vars 39 [.p (.bool false),.p (.str []),.p (.int .i64 0)])],0⟩) (fun i=>zM s k3-i) (0) (by omega) ⟨qE (by simp [upM]),rfl,by simp,by simp⟩ ?_
      rintro i hi
      have hup:=qZQ (s:=s) (k:=k3) (i:=i) (by omega) hi
      refine AW.seq (rgn [] [[],[],[0,2,4,5,6,7,8,9,10,11,135]] ?_)
      iterate 3 refine op1 tok ?_
      refine qA (cnd ?_ ?_)
      ·intro h135
       try simp at h135
       have hdi:=hdig i h135
       have hw:IntKind.u8.wrap (qN s (k3+i)-48)=qN s (k3+i)-48:=by simp [IntKind.wrap,IntKind.bits,IntKind.signed]; omega
       refine AW.skip (AW.seq (AW.block (rgz [.int .u8 (qN s (k3+i))] [[],[],[],[],[],[0,2,4,5,6,7,8,10,11,139,140,143],[],[],[0,2,4,5,6,7,8,10,11,139,146],[],[0,2,4,5,6,7,8,9,10,11]] ?_)))
       iterate 11 refine op1 tok ?_ (hv:=by first | with_reducible exact True.intro | (((repeat' (first | with_reducible apply And.intro | intro _)) <;> first | omega | assumption | contradiction | exact ⟨_,hix _ (by omega),rfl⟩ | (rw [hw]; omega) | simp_all); done) | omega | simp | (simp +contextual; omega))
       refine qA (rgz [] [[],[],[0,2,4,5,6,7,8,9,10,11]] ?_)
       iterate 3 refine op1 tok ?_
       refine qA ?_
       exact ⟨i+1,by omega,by omega,qE (by simp [upM,hw]),rfl,by simp [upM,hw],by simp [upM,hw]⟩
      intro h135
      try simp at h135
      have hi2:i=zM s k3:=by omega
      subst hi2
      have hup2:=hin3 (by omega)
      have hw2:IntKind.i64.wrap (- upM s k3 (zM s k3)) = - upM s k3 (zM s k3):=by simp [IntKind.wrap,IntKind.bits,IntKind.signed]; omega
      refine AW.exit ?_
      simp
      refine rgn [] [[],[],[0,2,5,7,8,9,10,150],[0,2,4,5,7,8,9,10]] ?_
      iterate 4 refine op1 tok ?_
      refine qA (rgn [] [[0,2,4,5,7,8,9,151]] ?_)
      refine op1 tok ?_
      refine qA (cnd ?_ ?_)
      ·intro h151
       try simp at h151
       rw [if_pos h151] at hP3
       refine rgz [] [[],[],[0,2,4,5,7,8,9]] ?_
       iterate 3 refine op1 tok ?_
       refine qA ?_
       exact ⟨k3+zM s k3, - upM s k3 (zM s k3),⟨hP3,by omega,by omega,by omega⟩,qE (by simp [hw2]),rfl,by simp [hw2],by simp [hw2]⟩
      intro h151
      try simp at h151
      rw [if_neg (by intro h; exact h151 h.1 h.2)] at hP3
      refine AW.skip ?_
      exact ⟨k3+zM s k3,upM s k3 (zM s k3),⟨hP3,by omega,by omega,by omega⟩,qE (by simp),rfl,by simp,by simp⟩
    intro h92
    try simp at h92
    refine AW.skip ?_
    exact ⟨(k,0),⟨by simp only [qCI]; rw [if_neg (by intro h; have:=h92 h.1; omega)],by show k≤300000; omega,by simp,by simp⟩,qE (by simp),rfl,by simp,by simp⟩
   ·
    rintro ⟨k2,up⟩ ⟨hp3,hk2,hu1,hu2⟩
    simp only at hk2 hu1 hu2
    rw [hp3]
    refine AW.seq (rgn [] [[],[],[],[2,5,7,8,9,157]] ?_)
    iterate 4 refine op1 tok ?_
    refine qA (cnd ?_ ?_)
    ·intro h157
     try simp at h157
     have hR:vQ s (jL s) digits scale (some (k2,up))=kS:=by simp only [vQ]; rw [if_neg (by omega)]
     refine rgn [] [[],[],[2,3]] ?_
     iterate 3 refine op1 tok ?_
     refine qA ?_
     exact AW.ret (qP (k:=by simp [hR,kS]))
    intro h157
    try simp at h157
    have hR:vQ s (jL s) digits scale (some (k2,up))=jN (jL s) digits (scale-up):=by simp only [vQ]; rw [if_pos (by omega)]
    rw [hR]
    clear hR hp3
    have hw3:IntKind.i64.wrap (-((scale:Int)-up)) = -((scale:Int)-up):=by simp [IntKind.wrap,IntKind.bits,IntKind.signed]; omega
    have hz:=qRT (G:=G) (-((scale:Int)-up)) (by omega)
    have hzl:(zH (-((scale:Int)-up)).toNat).length≤300000:=by simp [zH]; omega
    refine AW.skip (rgn [] [[],[],[2,5,7,161],[2,5,7,8]] ?_)
    iterate 4 refine op1 tok ?_
    refine qA (AW.seq (rgn [] [[],[2,5,7,8,163]] ?_))
    iterate 2 refine op1 tok ?_
    refine qA (cnd ?_ ?_)
    ·intro h163
     try simp at h163
     have hL:jN (jL s) digits ((scale:Int)-up)=wI (jL s) (digits++zH (-((scale:Int)-up)).toNat) 0:=by simp only [jN]; rw [if_pos (by omega)]
     have hN:=qZK (G:=G) (jL s) (digits++zH (-((scale:Int)-up)).toNat) 0 (by simp; omega) (by omega)
     refine rgn [.nilp,.str (zH (-((scale:Int)-up)).toNat)] [[],[],[],[2,5,164,167],[],[2,5,7]] ?_
     iterate 6 refine op1 tok ?_ (hv:=by first | with_reducible exact True.intro | (first | (rw [hw3]; exact hz) | omega; done) | omega | simp | (simp +contextual; omega))
     refine qA (rgz [] [[]] ?_)
     refine op1 tok ?_
     refine qA (rgn [.nilp,.tup [(wI (jL s) (digits++zH (-((scale:Int)-up)).toNat) 0).1.enc,.int .i64 (wI (jL s) (digits++zH (-((scale:Int)-up)).toNat) 0).2]] [[],[],[],[2,172],[],[],[],[2,3]] ?_)
     iterate 8 refine oq1 tok hN ?_
     refine qA ?_
     exact AW.ret (qP (k:=by simp [hL]))
    intro h163
    try simp at h163
    obtain ⟨sc,hsc2⟩:∃ sc:Nat,(sc:Int)=(scale:Int)-up:=⟨((scale:Int)-up).toNat,by omega⟩
    have hL:jN (jL s) digits ((scale:Int)-up)=wI (jL s) digits sc:=by simp only [jN]; rw [if_neg (by omega),← hsc2]; rfl
    have hN:=qZK (G:=G) (jL s) digits sc (by omega) (by omega)
    rw [hsc2] at hN
    refine AW.skip (rgn [.nilp,.tup [(wI (jL s) digits sc).1.enc,.int .i64 (wI (jL s) digits sc).2]] [[],[],[],[2,172],[],[],[],[2,3]] ?_)
    iterate 8 refine oq1 tok hN ?_
    refine qA ?_
    exact AW.ret (qP (k:=by simp [hL]))
def wB (d:Dc):List UInt8:=zH (d.scale.toNat+1-d.digits.length)++d.digits
def yI (d:Dc):List UInt8:=(if d.neg=true then [45] else [])++(if d.scale=0 then wB d else (wB d).take ((wB d).length-d.scale.toNat)++46::(wB d).drop ((wB d).length-d.scale.toNat))
theorem qAC {s:List UInt8} {k:Nat} {b:UInt8} {t:List UInt8} (h:s.drop k=b::t):k<s.length∧qN s k=b.toNat:=by
 have h1:k<s.length:=by
  rcases Nat.lt_or_ge k s.length with h1 | h1
  ·exact h1
  rw [List.drop_eq_nil_of_le h1] at h; cases h
 refine ⟨h1, ?_⟩
 have:s[k]?=some b:=by
  have:=congrArg (fun l=>l[0]?) h
  simpa using this
 simp [qN,List.getD_eq_getElem?_getD,this]
theorem qSK (n:Nat) (s:List UInt8):zB (zH n++s)=zB s:=by
 induction n with
 | zero=>rfl
 | succ n ih=>simp only [zH,List.replicate_succ,List.cons_append,zB,List.dropWhile_cons] at ih ⊢; simp [ih]
theorem zAQ {d:Dc} (h:wH d=true) (n:Nat):wI d.neg (zH n++d.digits) d.scale.toNat=(d,0):=by
 unfold wH at h
 simp only [Bool.and_eq_true,decide_eq_true_eq] at h
 obtain ⟨⟨h1,h2⟩,h3⟩:=h
 unfold wI
 rw [qSK]
 by_cases hz:d.digits=[48]
 ·rw [if_pos hz] at h3
  simp at h3
  have:zB d.digits=[]:=by rw [hz]; rfl
  rw [this,h3.1]
  simp only [Int.toNat_zero,yB,if_true]
  obtain ⟨ng,dg,sc⟩:=d
  simp only at hz h3 ⊢
  rw [hz,h3.1,h3.2]
 rw [if_neg hz] at h3
 simp at h3
 obtain ⟨ng,dg,sc⟩:=d
 simp only at hz h1 h2 h3 ⊢
 have e1:zB dg=dg:=by
  cases dg with
  | nil=>rfl
  | cons b t =>
   have hb:b≠48:=by rintro rfl; exact h3.1 rfl
   simp [zB,List.dropWhile_cons,hb]
 have e2:yB dg sc.toNat=(dg,sc.toNat):=by
  cases hs:sc.toNat with
  | zero=>rfl
  | succ k =>
   simp only [yB]
   rw [if_neg]
   intro hl
   have:=(qAB (d:=dg) (by omega)).2 hl
   rcases h3.2 with h | h
   ·omega
   exact h this
 rw [e1,e2]
 simp only
 rw [if_neg (by intro e; rw [e] at h2; simp at h2),if_neg (by omega)]
 rw [show ((sc.toNat:Nat):Int)=sc by omega]
theorem zBS (n:Nat):(zH n).all qJ=true:=by
 rw [List.all_eq_true]; intro b hb; have:=(List.mem_replicate.1 hb).2; subst this; decide
theorem zBT {p:UInt8→Bool} {l:List UInt8} (h:l.all p=true) (n:Nat):(l.take n).all p=true:=by
 rw [List.all_eq_true] at h ⊢; exact fun b hb=>h b (List.mem_of_mem_take hb)
theorem zBU {p:UInt8→Bool} {l:List UInt8} (h:l.all p=true) (n:Nat):(l.drop n).all p=true:=by
 rw [List.all_eq_true] at h ⊢; exact fun b hb=>h b (List.mem_of_mem_drop hb)
theorem qWC {d:Dc} (h:wH d=true):∃ W R:List UInt8,yI d=(if d.neg=true then [45] else [])++(W++if R=[] then [] else 46::R)∧W.all qJ=true∧R.all qJ=true∧W≠[]∧(W.length=1∨qN W 0≠48)∧wI d.neg (W++R) R.length=(d,0):=by
 have hd:=h
 unfold wH at hd
 simp only [Bool.and_eq_true,decide_eq_true_eq] at hd
 obtain ⟨⟨h1,h2⟩,h3⟩:=hd
 have hpa:(wB d).all qJ=true:=by unfold wB; rw [List.all_append,zBS,h1]; rfl
 have hpl:(wB d).length=if d.scale.toNat+1≤d.digits.length then d.digits.length else d.scale.toNat+1:=by
  unfold wB; simp [zH]; split <;> omega
 have hn:=zAQ h (d.scale.toNat+1-d.digits.length)
 have hp0:qN (wB d) 0=48→wB d=[48]∨(d.digits.length≤d.scale.toNat):=by
  intro hb
  by_cases hz:d.digits.length≤d.scale.toNat
  ·exact .inr hz
  refine .inl ?_
  have e:wB d=d.digits:=by unfold wB; rw [show d.scale.toNat+1-d.digits.length=0 by omega]; rfl
  rw [e] at hb ⊢
  by_cases hz:d.digits=[48]
  ·exact hz
  rw [if_neg hz] at h3; simp at h3; exact absurd hb h3.1
 unfold yI
 by_cases hs:d.scale=0
 ·rw [if_pos hs]
  refine ⟨wB d,[],by simp,hpa,rfl,by intro e; rw [e] at hpl; simp at hpl; split at hpl <;> omega, ?_, ?_⟩
  ·by_cases hb:qN (wB d) 0=48
   ·rcases hp0 hb with e | e
    ·rw [e]; exact .inl rfl
    omega
   exact .inr hb
  rw [List.append_nil,List.length_nil,show (0:Nat)=d.scale.toNat by omega]
  exact hn
 rw [if_neg hs]
 have hle:d.scale.toNat+1≤(wB d).length:=by rw [hpl]; split <;> omega
 have hRl:((wB d).drop ((wB d).length-d.scale.toNat)).length=d.scale.toNat:=by rw [List.length_drop]; omega
 have hWl:((wB d).take ((wB d).length-d.scale.toNat)).length=(wB d).length-d.scale.toNat:=by rw [List.length_take]; omega
 have hRne:(wB d).drop ((wB d).length-d.scale.toNat)≠[]:=by intro e; rw [e] at hRl; simp at hRl; omega
 have hWne:(wB d).take ((wB d).length-d.scale.toNat)≠[]:=by intro e; rw [e] at hWl; simp at hWl; omega
 have hb0:qN ((wB d).take ((wB d).length-d.scale.toNat)) 0=qN (wB d) 0:=by
  unfold qN
  rw [List.getD_eq_getElem?_getD,List.getElem?_take,if_pos (by omega),← List.getD_eq_getElem?_getD]
 refine ⟨(wB d).take ((wB d).length-d.scale.toNat),(wB d).drop ((wB d).length-d.scale.toNat),by rw [if_neg hRne],zBT hpa _,zBU hpa _,hWne, ?_, ?_⟩
 ·rw [hb0]
  by_cases hb:qN (wB d) 0=48
  ·rcases hp0 hb with e | e
   ·rw [e] at hle; simp at hle; omega
   left; rw [hWl,hpl,if_neg (by omega)]; omega
  exact .inr hb
 rw [hRl,List.take_append_drop]
 exact hn
def wK (t:List UInt8):List UInt8:=if t.head?=some 45∨t.head?=some 43 then t.drop 1 else t
def uG (s:List UInt8):Option Int:=match s with
 | []=>some 0
 | b::t=>if b≠101∧b≠69 then none
  else if (wK t).dropWhile qJ≠[]∨((wK t).takeWhile qJ).length<1∨2<((wK t).takeWhile qJ).length then none
  else some (if t.head?=some 45 then-(qBG ((wK t).takeWhile qJ):Int) else qBG ((wK t).takeWhile qJ))
def qLP (s:List UInt8):Bool:=decide (s.head?=some 45)
def yZ (s:List UInt8):List UInt8:=if s.head?=some 45 then s.drop 1 else s
def vI (r:List UInt8):Option (List UInt8 × List UInt8) :=
 if r.head?=some 46 then (if (r.drop 1).takeWhile qJ=[] then none else some ((r.drop 1).takeWhile qJ,(r.drop 1).dropWhile qJ)) else some ([],r)
def qMF (neg:Bool) (W P:List UInt8):Option Int→Dc × Int
 | none=>kS
 | some up=>if W=[]∨(1<W.length∧W.head?=some 48) then kS else jN neg (W++P) (P.length-up)
def zJ (s:List UInt8):Dc × Int:=match vI ((yZ s).dropWhile qJ) with
 | none=>kS
 | some (P,r)=>qMF (qLP s) ((yZ s).takeWhile qJ) P (uG r)
theorem zCM {W F:List UInt8} (hW:W.all qJ=true) (hF:∀ b,F.head?=some b→qJ b=false):(W++F).takeWhile qJ=W∧(W++F).dropWhile qJ=F:=by
 induction W with
 | nil =>
  cases F with
  | nil=>exact ⟨rfl,rfl⟩
  | cons b F=>have:=hF b rfl; simp [List.takeWhile_cons,List.dropWhile_cons,this]
 | cons b W ih =>
  simp only [List.all_cons,Bool.and_eq_true] at hW
  obtain ⟨h1,h2⟩:=ih hW.2
  simp [List.takeWhile_cons,List.dropWhile_cons,hW.1,h1,h2]
theorem qTL (ng : Bool) (W R : List UInt8) (hW : W.all qJ = true) (hR : R.all qJ = true) (h0 : W ≠ []) (h1 : W.length = 1 ∨ qN W 0 ≠ 48) :
  zJ ((if ng=true then [45] else [])++(W++if R=[] then [] else 46::R))=wI ng (W++R) R.length:=by
 generalize hF:(if R=[] then [] else 46::R)=F
 generalize hs:((if ng=true then [45] else [])++(W++F))=s
 obtain ⟨w0,W',rfl⟩:∃ w0 W',W=w0::W':=by cases W with
  | nil=>exact absurd rfl h0
  | cons a W=>exact ⟨a,W,rfl⟩
 have hw0:qJ w0=true:=by simp only [List.all_cons,Bool.and_eq_true] at hW; exact hW.1
 have hw1:w0≠45:=by rintro rfl; revert hw0; decide
 have hb:yZ s=(w0::W')++F∧qLP s=ng:=by
  rw [← hs]
  cases ng with
  | true=>simp [yZ,qLP]
  | false=>simp [yZ,qLP,hw1]
 have hFh:∀ b,F.head?=some b→qJ b=false:=by
  rw [← hF]; split
  ·simp
  intro b hb; simp at hb; subst hb; decide
 obtain ⟨t1,t2⟩:=zCM hW hFh
 have hfr:vI F=some (R,[]):=by
  rw [← hF]
  split
  ·rename_i hR0; subst hR0; rfl
  rename_i hR0
  obtain ⟨t3,t4⟩:=zCM (W:=R) (F:=[]) hR (by simp)
  rw [List.append_nil] at t3 t4
  unfold vI
  simp only [List.head?_cons,if_true,List.drop_succ_cons,List.drop_zero,t3,t4]
  rw [if_neg hR0]
 unfold zJ
 rw [hb.1,hb.2,t1,t2,hfr]
 simp only [uG,qMF]
 rw [if_neg (by
  rintro (h | ⟨h,h'⟩)
  ·cases h
  rcases h1 with h1 | h1
  ·omega
  simp at h'; subst h'; exact h1 rfl)]
 unfold jN
 rw [if_neg (by omega)]
 simp
theorem qFY {d:Dc} (h:wH d=true):zJ (yI d)=(d,0):=by
 obtain ⟨W,R,hp,hW,hR,h0,h1,hn⟩:=qWC h
 rw [hp,qTL d.neg W R hW hR h0 h1,hn]
namespace Sy
variable {P:Program} {G:qR}
theorem AFn.of_calls {f : FuncId} {args : List PD} {r : PD} (hc : uK P f) (h : ∀ (M : qY) (w : World) (vs : Array Value), GOK G M w → (∀ b o v, M b o = some v → w.cell? ⟨b, o, none⟩ = some v) → vs.size = args.length →
  (∀ (i:Nat) u d,vs[i]?=some u→args[i]?=some d→Rd M u d)→Calls P f vs w fun e w'=>∃ v,e = .returned v∧Rd M v r∧RowKit.Below w.heap.size w w'):AFn P G f args r:=by
 refine ⟨hc,fun M w vs hg hmem hsz hrd=>(h M w vs hg hmem hsz hrd).mono ?_⟩
 rintro e w' ⟨v,rfl,hv,hb⟩
 refine ⟨v,M,rfl,hv,fun b o u hu => ?_,fun _ _ _ h=>h,fun _ _ _=>rfl,hb⟩
 have h1:=hmem b o u hu
 exact (World.cell?_of_block (w:=w) (hb.block b (xV h1))).trans h1
theorem jB {f : FuncId} {fn : Func} {c : Code} (hf : P.funcs[f]? = some fn) (hn : (fn.name == "runtime.NumGoroutine") = false) (hb : fn.body = some c) : uK P f := ⟨fn, c, hf, hn, hb⟩
theorem qRM {M:qY} {vs:Array Value} {s:List UInt8} (hsz:vs.size=1) (h:∀ (i:Nat) u d,vs[i]?=some u→[PD.str s][i]?=some d→Rd M u d):∃ b:ByteArray,vs = #[.string b]∧b.data.toList=s∧b.size≤maxLen:=by
 obtain ⟨l⟩:=vs
 match l,hsz with
 | [u],_ =>
  have:=h 0 u (.str s) rfl rfl
  cases this with
  | @str b _ hs hm=>exact ⟨b,rfl,hs,by rw [kU hs]; exact hm⟩
def qHQ:List PD:=(List.range 256).map fun c => .int .u8 (Lib.firstT c)
def qXM:List PD:=(List.range 32).map fun i => .int .u8 (if i % 2=0 then Lib.accLo (i / 2) else Lib.accHi (i / 2))
def qVI (g3 g4:Nat) (G:qR):Prop:=G g3=some qHQ∧G g4=some qXM
theorem qXZ {g3 g4:Nat} {M:qY} {w:World} (hG:qVI g3 g4 G) (hg:GOK G M w) (hmem:∀ b o v,M b o=some v→w.cell? ⟨b,o,none⟩=some v):Lib.Utf8Tabs g3 g4 w:=by
 have key:∀ (g:Nat) (cs:List PD) (j:Nat) (n:Int),G g=some cs→cs[j]?=some (.int .u8 n)→w.cell? ⟨g,j,none⟩=some (.int .u8 n):=by
  intro g cs j n h1 h2
  obtain ⟨h3,h4⟩:=hg.1 g cs h1
  obtain ⟨u,hu,_⟩:=h3 j _ h2
  have:=h4 j _ u h2 hu
  cases this
  exact hmem _ _ _ hu
 refine ⟨fun c hc=>key _ _ _ _ hG.1 (by simp [qHQ,hc]),fun i hi=>⟨key _ _ _ _ hG.2 ?_,key _ _ _ _ hG.2 ?_⟩⟩
 ·simp [qXM,show 2 * i<32 by omega]
 simp only [qXM,List.getElem?_map,List.getElem?_range (show 2 * i+1<32 by omega),Option.map_some]
 rw [if_neg (by omega),show (2 * i+1) / 2=i by omega]
def u8G (g3 g4:Nat):qR:=fun g=>if g=g3 then some qHQ else if g=g4 then some qXM else none
theorem zGO {g3 g4:Nat} (h:g4≠g3):qVI g3 g4 (u8G g3 g4):=⟨by simp [u8G],by simp [u8G,h]⟩
theorem zJK {g3 g4:Nat} {W:World} (h:Lib.Utf8Tabs g3 g4 W) (hne:g4≠g3):GOK (u8G g3 g4) (jM W) W:=by
 have one : ∀ (g j : Nat) (cs : List PD), (∀ (j : Nat) d, cs[j]? = some d → ∃ n : Int, d = .int .u8 n ∧ 0 ≤ n ∧ n ≤ 255 ∧ W.cell? ⟨g, j, none⟩ = some (.int .u8 n)) →
   (∀ (j:Nat) d,cs[j]?=some d→∃ u,jM W g j=some u∧u.oneCell'=true)∧(∀ (j:Nat) d u,cs[j]?=some d→jM W g j=some u→Rd (jM W) u d):=by
  intro g _ cs hc
  refine ⟨fun j d hd => ?_,fun j d u hd hu => ?_⟩
  ·obtain ⟨n,rfl,_,_,h⟩:=hc j d hd; exact ⟨_,h,rfl⟩
  obtain ⟨n,rfl,h0,h1,h⟩:=hc j d hd
  have:some u=some (Value.int .u8 n):=hu.symm.trans h
  cases this
  exact .int (by rw [jD]; exact h0) (by rw [kQ]; exact h1)
 have hft:∀ c,(0:Int)≤Lib.firstT c∧(Lib.firstT c:Int)≤255:=fun c=>by
  rcases Lib.firstT_cases c with h | h | h | h | h | h | h | h | h <;> rw [h] <;> omega
 have hno:GX (u8G g3 g4) W:=fun g cs hg ht=>by
  simp only [u8G] at hg
  split at hg
  ·cases hg; exact absurd ht (by rw [show qYY qHQ=false from rfl]; simp)
  split at hg
  ·cases hg; exact absurd ht (by rw [show qYY qXM=false from rfl]; simp)
  cases hg
 refine ⟨?_,hno⟩
 intro g cs hg
 simp only [u8G] at hg
 split at hg
 ·rename_i e
  subst e
  cases hg
  refine one g 0 _ fun j d hd => ?_
  have hj:j<256:=by have:=(List.getElem?_eq_some_iff.1 hd).1; simpa [qHQ] using this
  simp [qHQ,hj] at hd
  exact ⟨_,hd.symm,(hft j).1,(hft j).2,h.1 j hj⟩
 split at hg
 ·rename_i _ e
  subst e
  cases hg
  refine one g 0 _ fun j d hd => ?_
  have hj:j<32:=by have:=(List.getElem?_eq_some_iff.1 hd).1; simpa [qXM] using this
  simp only [qXM,List.getElem?_map,List.getElem?_range hj,Option.map_some,Option.some.injEq] at hd
  have hb:=h.2 (j / 2) (by omega)
  have hacc:∀ i,i<16→(0:Int)≤Lib.accLo i∧(Lib.accLo i:Int)≤255∧(0:Int)≤Lib.accHi i∧(Lib.accHi i:Int)≤255:=by decide
  have hac:=hacc (j / 2) (by omega)
  by_cases h2:j % 2=0
  ·rw [if_pos h2] at hd
   exact ⟨_,hd.symm,hac.1,hac.2.1,by have:=hb.1; rwa [show 2 * (j / 2)=j by omega] at this⟩
  rw [if_neg h2] at hd
  exact ⟨_,hd.symm,hac.2.2.1,hac.2.2.2,by have:=hb.2; rwa [show 2 * (j / 2)+1=j by omega] at this⟩
 cases hg
end Sy
abbrev U8 (G:qR):Prop:=qVI 0 1 G
end Go.Proofs.YtlmedakhioiahaaGreatDoor
namespace Go.Proofs
open Go.Shelf
def Tryz.lays196_ren:Go.Shelf.Ren:=⟨fun | 196=>136 | 259=>162 | n=>n,fun | 9=>9 | 4=>4 | 3=>3 | 5=>5 | 12=>12 | 119=>173 | 0=>0 | 46=>114 | 139=>176 | 138=>175 | 53=>37 | n=>n,fun | 3=>0 | 4=>1 | n=>n⟩
theorem Tryz.lays196:Go.Proofs.Lays.n196 Tryz.prog Tryz.lays196_ren:={
 mixed:=by kernel_rfl
 f196:=Tryz.func136.trans (congrArg some (by kernel_rfl))
 f259:=Tryz.func162.trans (congrArg some (by kernel_rfl))
 t0:=Tryz.underlying0
 a0:=Tryz.isAgg0
 z0:=Tryz.sizeOf0
 v0:=Tryz.zeroValue0
 t3:=Tryz.underlying3
 a3:=Tryz.isAgg3
 z3:=Tryz.sizeOf3
 v3:=Tryz.zeroValue3
 t4:=Tryz.underlying4
 a4:=Tryz.isAgg4
 z4:=Tryz.sizeOf4
 v4:=Tryz.zeroValue4
 t5:=Tryz.underlying5
 a5:=Tryz.isAgg5
 z5:=Tryz.sizeOf5
 v5:=Tryz.zeroValue5
 t9:=Tryz.underlying9
 a9:=Tryz.isAgg9
 z9:=Tryz.sizeOf9
 v9:=Tryz.zeroValue9
 t12:=Tryz.underlying12
 a12:=Tryz.isAgg12
 z12:=Tryz.sizeOf12
 v12:=Tryz.zeroValue12
 t46:=Tryz.underlying114
 a46:=Tryz.isAgg114
 z46:=Tryz.sizeOf114
 v46:=Tryz.zeroValue114
 t53:=Tryz.underlying37
 a53:=Tryz.isAgg37
 z53:=Tryz.sizeOf37
 v53:=Tryz.zeroValue37
 t119:=Tryz.underlying173
 a119:=Tryz.isAgg173
 z119:=Tryz.sizeOf173
 t138:=Tryz.underlying175
 a138:=Tryz.isAgg175
 z138:=Tryz.sizeOf175
 v138:=Tryz.zeroValue175
 t139:=Tryz.underlying176
 a139:=Tryz.isAgg176
 z139:=Tryz.sizeOf176
 v139:=Tryz.zeroValue176
 g3:=by kernel_rfl
 g4:=by kernel_rfl }
def Tryz.lays197_ren:Go.Shelf.Ren:=⟨fun | 197=>87 | 260=>121 | n=>n,fun | 9=>9 | 21=>21 | 3=>3 | 4=>4 | 5=>5 | 105=>120 | 119=>173 | 0=>0 | 46=>114 | 139=>176 | 138=>175 | n=>n,fun | 3=>0 | 4=>1 | n=>n⟩
theorem Tryz.lays197:Go.Proofs.Lays.n197 Tryz.prog Tryz.lays197_ren:={
 mixed:=by kernel_rfl
 f197:=Tryz.func87.trans (congrArg some (by kernel_rfl))
 f260:=Tryz.func121.trans (congrArg some (by kernel_rfl))
 t0:=Tryz.underlying0
 a0:=Tryz.isAgg0
 z0:=Tryz.sizeOf0
 v0:=Tryz.zeroValue0
 t3:=Tryz.underlying3
 a3:=Tryz.isAgg3
 z3:=Tryz.sizeOf3
 v3:=Tryz.zeroValue3
 t4:=Tryz.underlying4
 a4:=Tryz.isAgg4
 z4:=Tryz.sizeOf4
 v4:=Tryz.zeroValue4
 t5:=Tryz.underlying5
 a5:=Tryz.isAgg5
 z5:=Tryz.sizeOf5
 v5:=Tryz.zeroValue5
 t9:=Tryz.underlying9
 a9:=Tryz.isAgg9
 z9:=Tryz.sizeOf9
 v9:=Tryz.zeroValue9
 t21:=Tryz.underlying21
 a21:=Tryz.isAgg21
 z21:=Tryz.sizeOf21
 v21:=Tryz.zeroValue21
 t46:=Tryz.underlying114
 a46:=Tryz.isAgg114
 z46:=Tryz.sizeOf114
 v46:=Tryz.zeroValue114
 t105:=Tryz.underlying120
 a105:=Tryz.isAgg120
 z105:=Tryz.sizeOf120
 v105:=Tryz.zeroValue120
 t119:=Tryz.underlying173
 a119:=Tryz.isAgg173
 z119:=Tryz.sizeOf173
 t138:=Tryz.underlying175
 a138:=Tryz.isAgg175
 z138:=Tryz.sizeOf175
 v138:=Tryz.zeroValue175
 t139:=Tryz.underlying176
 a139:=Tryz.isAgg176
 z139:=Tryz.sizeOf176
 v139:=Tryz.zeroValue176
 g3:=by kernel_rfl
 g4:=by kernel_rfl }
def Tryz.lays105_ren:Go.Shelf.Ren:=⟨fun | 105=>72 | 212=>104 | 99=>81 | 165=>105 | 166=>75 | 170=>106 | 169=>76 | 263=>137 | 264=>138 | 206=>115 | 240=>107 | 241=>139 | 276=>140 | 277=>163 | n=>n,fun | 9=>9 | 3=>3 | 4=>4 | 20=>20 | 0=>0 | 46=>114 | 109=>134 | 5=>5 | 72=>111 | 76=>96 | 51=>161 | 146=>162 | 53=>37 | 148=>164 | 70=>109 | 37=>75 | 75=>95 | 127=>139 | 164=>166 | 80=>101 | n=>n,fun | n=>n⟩
theorem Tryz.lays105:Go.Proofs.Lays.n105 Tryz.prog Tryz.lays105_ren:={
 mixed:=by kernel_rfl
 f99:=Tryz.func81.trans (congrArg some (by kernel_rfl))
 f105:=Tryz.func72.trans (congrArg some (by kernel_rfl))
 f165:=Tryz.func105.trans (congrArg some (by kernel_rfl))
 f166:=Tryz.func75.trans (congrArg some (by kernel_rfl))
 f169:=Tryz.func76.trans (congrArg some (by kernel_rfl))
 f170:=Tryz.func106.trans (congrArg some (by kernel_rfl))
 f206:=Tryz.func115.trans (congrArg some (by kernel_rfl))
 f212:=Tryz.func104.trans (congrArg some (by kernel_rfl))
 f240:=Tryz.func107.trans (congrArg some (by kernel_rfl))
 f241:=Tryz.func139.trans (congrArg some (by kernel_rfl))
 f263:=Tryz.func137.trans (congrArg some (by kernel_rfl))
 f264:=Tryz.func138.trans (congrArg some (by kernel_rfl))
 f276:=Tryz.func140.trans (congrArg some (by kernel_rfl))
 f277:=Tryz.func163.trans (congrArg some (by kernel_rfl))
 t0:=Tryz.underlying0
 a0:=Tryz.isAgg0
 z0:=Tryz.sizeOf0
 v0:=Tryz.zeroValue0
 t3:=Tryz.underlying3
 a3:=Tryz.isAgg3
 z3:=Tryz.sizeOf3
 v3:=Tryz.zeroValue3
 t4:=Tryz.underlying4
 a4:=Tryz.isAgg4
 z4:=Tryz.sizeOf4
 v4:=Tryz.zeroValue4
 t5:=Tryz.underlying5
 a5:=Tryz.isAgg5
 z5:=Tryz.sizeOf5
 v5:=Tryz.zeroValue5
 t9:=Tryz.underlying9
 a9:=Tryz.isAgg9
 z9:=Tryz.sizeOf9
 v9:=Tryz.zeroValue9
 t20:=Tryz.underlying20
 a20:=Tryz.isAgg20
 z20:=Tryz.sizeOf20
 v20:=Tryz.zeroValue20
 t37:=Tryz.underlying75
 a37:=Tryz.isAgg75
 z37:=Tryz.sizeOf75
 v37:=Tryz.zeroValue75
 t46:=Tryz.underlying114
 a46:=Tryz.isAgg114
 z46:=Tryz.sizeOf114
 v46:=Tryz.zeroValue114
 t51:=Tryz.underlying161
 a51:=Tryz.isAgg161
 z51:=Tryz.sizeOf161
 v51:=Tryz.zeroValue161
 t53:=Tryz.underlying37
 a53:=Tryz.isAgg37
 z53:=Tryz.sizeOf37
 v53:=Tryz.zeroValue37
 t70:=Tryz.underlying109
 a70:=Tryz.isAgg109
 z70:=Tryz.sizeOf109
 v70:=Tryz.zeroValue109
 t72:=Tryz.underlying111
 a72:=Tryz.isAgg111
 z72:=Tryz.sizeOf111
 v72:=Tryz.zeroValue111
 t75:=Tryz.underlying95
 a75:=Tryz.isAgg95
 z75:=Tryz.sizeOf95
 v75:=Tryz.zeroValue95
 t76:=Tryz.underlying96
 a76:=Tryz.isAgg96
 z76:=Tryz.sizeOf96
 v76:=Tryz.zeroValue96
 t109:=Tryz.underlying134
 a109:=Tryz.isAgg134
 z109:=Tryz.sizeOf134
 v109:=Tryz.zeroValue134
 t127:=Tryz.underlying139
 a127:=Tryz.isAgg139
 z127:=Tryz.sizeOf139
 v127:=Tryz.zeroValue139
 t146:=Tryz.underlying162
 a146:=Tryz.isAgg162
 z146:=Tryz.sizeOf162
 v146:=Tryz.zeroValue162
 t148:=Tryz.underlying164
 a148:=Tryz.isAgg164
 z148:=Tryz.sizeOf164
 v148:=Tryz.zeroValue164
 t164:=Tryz.underlying166
 a164:=Tryz.isAgg166
 z164:=Tryz.sizeOf166
 v164:=Tryz.zeroValue166 }
def Tryz.lays169_ren:Go.Shelf.Ren:=⟨fun | 169=>76 | n=>n,fun | 70=>109 | 9=>9 | 0=>0 | 72=>111 | 37=>75 | 127=>139 | 3=>3 | 5=>5 | n=>n,fun | n=>n⟩
theorem Tryz.lays169:Go.Proofs.Lays.n169 Tryz.prog Tryz.lays169_ren:={
 mixed:=by kernel_rfl
 f169:=Tryz.func76.trans (congrArg some (by kernel_rfl))
 t0:=Tryz.underlying0
 a0:=Tryz.isAgg0
 z0:=Tryz.sizeOf0
 v0:=Tryz.zeroValue0
 t3:=Tryz.underlying3
 a3:=Tryz.isAgg3
 z3:=Tryz.sizeOf3
 v3:=Tryz.zeroValue3
 t9:=Tryz.underlying9
 a9:=Tryz.isAgg9
 z9:=Tryz.sizeOf9
 v9:=Tryz.zeroValue9
 t37:=Tryz.underlying75
 a37:=Tryz.isAgg75
 z37:=Tryz.sizeOf75
 v37:=Tryz.zeroValue75
 t70:=Tryz.underlying109
 a70:=Tryz.isAgg109
 z70:=Tryz.sizeOf109
 v70:=Tryz.zeroValue109
 t72:=Tryz.underlying111
 a72:=Tryz.isAgg111
 z72:=Tryz.sizeOf111
 v72:=Tryz.zeroValue111
 t127:=Tryz.underlying139
 a127:=Tryz.isAgg139
 z127:=Tryz.sizeOf139
 v127:=Tryz.zeroValue139 }
def Tryz.lays156_ren:Go.Shelf.Ren:=⟨fun | 156=>77 | 165=>105 | 166=>75 | 169=>76 | 240=>107 | 241=>139 | 276=>140 | 277=>163 | n=>n,fun | 31=>32 | 9=>9 | 3=>3 | 4=>4 | 0=>0 | 20=>20 | 72=>111 | 76=>96 | 70=>109 | 37=>75 | 75=>95 | 127=>139 | 164=>166 | 5=>5 | 80=>101 | n=>n,fun | n=>n⟩
theorem Tryz.lays156:Go.Proofs.Lays.n156 Tryz.prog Tryz.lays156_ren:={
 mixed:=by kernel_rfl
 f156:=Tryz.func77.trans (congrArg some (by kernel_rfl))
 f165:=Tryz.func105.trans (congrArg some (by kernel_rfl))
 f166:=Tryz.func75.trans (congrArg some (by kernel_rfl))
 f169:=Tryz.func76.trans (congrArg some (by kernel_rfl))
 f240:=Tryz.func107.trans (congrArg some (by kernel_rfl))
 f241:=Tryz.func139.trans (congrArg some (by kernel_rfl))
 f276:=Tryz.func140.trans (congrArg some (by kernel_rfl))
 f277:=Tryz.func163.trans (congrArg some (by kernel_rfl))
 t0:=Tryz.underlying0
 a0:=Tryz.isAgg0
 z0:=Tryz.sizeOf0
 v0:=Tryz.zeroValue0
 t3:=Tryz.underlying3
 a3:=Tryz.isAgg3
 z3:=Tryz.sizeOf3
 v3:=Tryz.zeroValue3
 t4:=Tryz.underlying4
 a4:=Tryz.isAgg4
 z4:=Tryz.sizeOf4
 v4:=Tryz.zeroValue4
 t9:=Tryz.underlying9
 a9:=Tryz.isAgg9
 z9:=Tryz.sizeOf9
 v9:=Tryz.zeroValue9
 t20:=Tryz.underlying20
 a20:=Tryz.isAgg20
 z20:=Tryz.sizeOf20
 v20:=Tryz.zeroValue20
 t31:=Tryz.underlying32
 a31:=Tryz.isAgg32
 z31:=Tryz.sizeOf32
 v31:=Tryz.zeroValue32
 t37:=Tryz.underlying75
 a37:=Tryz.isAgg75
 z37:=Tryz.sizeOf75
 v37:=Tryz.zeroValue75
 t70:=Tryz.underlying109
 a70:=Tryz.isAgg109
 z70:=Tryz.sizeOf109
 v70:=Tryz.zeroValue109
 t72:=Tryz.underlying111
 a72:=Tryz.isAgg111
 z72:=Tryz.sizeOf111
 v72:=Tryz.zeroValue111
 t75:=Tryz.underlying95
 a75:=Tryz.isAgg95
 z75:=Tryz.sizeOf95
 v75:=Tryz.zeroValue95
 t76:=Tryz.underlying96
 a76:=Tryz.isAgg96
 z76:=Tryz.sizeOf96
 v76:=Tryz.zeroValue96
 t127:=Tryz.underlying139
 a127:=Tryz.isAgg139
 z127:=Tryz.sizeOf139
 v127:=Tryz.zeroValue139
 t164:=Tryz.underlying166
 a164:=Tryz.isAgg166
 z164:=Tryz.sizeOf166
 v164:=Tryz.zeroValue166 }
end Go.Proofs
namespace Go.Proofs.YtlmedakhioiahaaGreatDoor
open Sy Go
variable {G:qR}
theorem qXK {M:qY} {vs:Array Value} {s:List UInt8} {n:Int} (hsz:vs.size=2) (h:∀ (i:Nat) u d,vs[i]?=some u→[PD.str s,PD.int .i64 n][i]?=some d→Rd M u d):∃ a:ByteArray,vs = #[.string a,.int .i64 n]∧a.data.toList=s∧n≤9223372036854775807:=by
 obtain ⟨l⟩:=vs
 match l,hsz with
 | [u,v],_ =>
  have h1:=h 0 u (.str s) rfl rfl
  have h2:=h 1 v (.int .i64 n) rfl rfl
  cases h1 with
  | @str a _ ha _ =>
  cases h2 with
  | int h3 h4=>exact ⟨a,rfl,ha,by rw [kQ] at h4; exact h4⟩
theorem qNG:Builder.Extra Tryz.prog Tryz.lays105_ren where
 sizeBuilder:=by kernel_rfl
 liesBuilder:=by kernel_rfl
 t5:=Tryz.underlying5
 a5:=Tryz.isAgg5
 z5:=Tryz.sizeOf5
 v5:=Tryz.zeroValue5
 infoByte:=by kernel_rfl
 cellsByte:=by kernel_rfl
 sizeByte:=by kernel_rfl
 neB5:=by decide
theorem qPJ (s:List UInt8) (n:Nat) (h:s.length * n≤140737488355328):AFn Tryz.prog G 72 [.str s,.int .i64 n] (.str (Lib.repeatL s n)):=by
 refine AFn.of_calls (jB Tryz.func72 (by kernel_rfl) rfl) fun M w vs hg hmem hsz hrd => ?_
 obtain ⟨x,rfl,rfl,hn⟩:=qXK hsz hrd
 refine (Any.strings_Repeat Tryz.lays105 qNG x n w (by omega) (by rw [kU rfl]; exact h)).mono ?_
 rintro e w' ⟨rfl,hb⟩
 refine ⟨_,rfl,.str (by simp) ?_,hb⟩
 rw [Lib.repeatL_length,Nat.mul_comm]; simp only [maxLen]; omega
end Go.Proofs.YtlmedakhioiahaaGreatDoor
