import Derived.Test.YtlmedakhioiahaaGreatDoorM4
import Derived.Test.YtlmedakhioiahaaGreatDoorM3
import Derived.Test.YtlmedakhioiahaaGreatDoorM1
import Derived.Maps.RangeRun
import Derived.Lib.AppendZerosOnto
import Derived.Laws.RangeString
import Derived.Lib.RuneCount
import Derived.Lib.Repeat
import Derived.Lib.ValidU
import Derived.Lib.LaidU8T
import Derived.Shelf.Unicode.ValidAny
import Derived.Shelf.Unicode.DecodeAny
import Derived.Shelf.Strings.Repeat
import Derived.Shelf.Strings.Builder1
import Derived.Shelf.Strings.OnBuilder
import Derived.Test.YtlmedakhioiahaaGreatDoorProg
import Derived.Shelf.Small.Strs
import Derived.Lib.ValidLaws
namespace Go.Proofs.YtlmedakhioiahaaGreatDoor.Sy
open Go
section
variable {P:Program} {T:Tab} {G:qO} {Q:Exit→St→Prop} {st st':St}
theorem Turned.refl (w:World) (b:Nat):Turned w w b:=⟨rfl,rfl,rfl,rfl,fun _ _=>rfl⟩
theorem Rel.beginBox {c : Ctx} {M : qV} {μ : Mu} {st : St} {tmps : Array Value} {w : World} (r : Rel c M μ st tmps w) {id k j : Nat} {e : TypeId} {cells : List V} (hb : zO id st.H = some (.vars e cells)) (hj : cells[j]? = some .nilsl)
  (hf:st.fresh k=true) (e':TypeId) (sz:Nat):∃ μ',Rel c M μ' { st with H:=zQ id (.vars e (cells.set j (.ms k))) ((k,.row e' sz [])::st.H) } tmps w:=by
 have hm:=zH hb
 have hk:qM id st.H=true:=qG.2 ⟨_,hm⟩
 have hne:id≠k:=by
  rintro rfl
  have:=(St.fresh_spec hf).2.2.2
  rw [hk] at this; cases this
 have r1:=r.adopt (l:=⟨none,.slice none 0 0⟩) hf (fun b hb=>by cases hb) (bx := .row e' sz []) (.rowN (by rw [qW]) (by rw [qW]))
 have hbx:=r1.box id _ (List.mem_cons_of_mem _ hm)
 cases hbx with
 | @vars _ _ b arr h0 hh hs ho hc =>
 refine ⟨_,r1.write (id:=id) (b:=b) (w':=w) (bx := .vars e (cells.set j (.ms k))) (by simp [qM,hk]) h0 (Turned.refl w b) (.vars h0 hh (by simpa using hs) ho fun i u x hu hx => ?_)⟩
 rw [List.getElem?_set] at hx
 split at hx
 ·rename_i hji
  subst hji
  split at hx
  ·cases hx
   have:=hc j u .nilsl hu hj
   cases this
   exact .ms (by rw [qW]) rfl
  cases hx
 exact hc i u x hu hx
theorem AW.beginBox {c : Code} (id k j : Nat) (e' : TypeId) (sz : Nat) {e : TypeId} {cells : List V} (hb : zO id st.H = some (.vars e cells)) (hj : cells[j]? = some .nilsl) (hf : st.fresh k = true)
  (h:({ st with H:=zQ id (.vars e (cells.set j (.ms k))) ((k,.row e' sz [])::st.H) }:St)=st') (k:AW P G c Q st'):AW P G c Q st:=fun x M μ tmps w hg r=>by
 obtain ⟨μ',r'⟩:=r.beginBox hb hj hf e' sz
 exact k x M μ' tmps w hg (h ▸ r')
theorem qD.beginBox {ops : Array Oper} {l : List Oper} {orc : List PD} (id k j : Nat) (e' : TypeId) (sz : Nat) {e : TypeId} {cells : List V} (hb : zO id st.H = some (.vars e cells)) (hj : cells[j]? = some .nilsl) (hf : st.fresh k = true)
  (h:({ st with H:=zQ id (.vars e (cells.set j (.ms k))) ((k,.row e' sz [])::st.H) }:St)=st') (k:qD P G ops Q l st' orc):qD P G ops Q l st orc:=fun x M μ tmps w hg r=>by
 obtain ⟨μ',r'⟩:=r.beginBox hb hj hf e' sz
 exact k x M μ' tmps w hg (h ▸ r')
theorem AW.pinsTo {c:Code} (ps:List Nat) (hs:∀ i∈ps,i∈st.pins) (h:({ st with pins:=ps }:St)=st') (k:AW P G c Q st'):AW P G c Q st:=fun x M μ tmps w hg r =>
 k x M μ tmps w hg (h ▸ ⟨r.mem,r.ext,r.old,r.slots,fun i hi=>r.pins i (hs i hi),r.box,r.nodup,r.inj,r.own,r.size,r.below⟩)
theorem qD.stepKIf (ks : List Nat) (d : Nat) {orc : List PD} {ops : Array Oper} {o : Oper} {rest : List Oper} {x : V} {st1 : St} {j : Nat} {pol : Bool} (hgd : o.guard = some (j, pol)) (hd : (ops[j]?).bind (·.dst) = some d)
  (h:qY P G o st x st1) (hb:decide (d<st.tmps.length)=true∧V.guards pol (st.tmps.getD d .dead)=some true) (hk:(st1.put o.dst (.when true x)).keep ks=st') (k:qD P G ops Q rest st' orc):qD P G ops Q (o::rest) st orc :=
 qU.stepIfT hgd hd (of_decide_eq_true hb.1) hb.2 h (qU.keep ks (hk ▸ k))
theorem AW.fillE {c:Code} (id:Nat) (ns:List (Option Nat)) (h:st.fill id ns=st') (k:AW P G c Q st'):AW P G c Q st:=fun x M μ tmps w hg r=>k x M μ tmps w hg (h ▸ r.fill id ns)
end
set_option linter.unusedSimpArgs false
section
variable {P:Program} {T:Tab} {G:qO} {Q:Exit→St→Prop} {st st':St}
def vT (ks:List (List UInt8)) (vs:List V) (s:List UInt8) (v:V):List V:=if s∈ks then vs.set (ks.idxOf s) v else vs++[v]
theorem zGM (k:Nat) {t:TypeId} {ms:Array (String × TypeId)} (ht:P.underlying t=some (.interface ms)) (t':TypeId) (v':Value) (w:World):(Op.equalIn (k+1) t (.iface t' v') .nilIface).run P w = .ok false w:=by
 simp [Op.equalIn,run_underlying ht]
theorem zAV (k:Nat) {t:TypeId} {ms:Array (String × TypeId)} (ht:P.underlying t=some (.interface ms)) (w:World):(Op.equalIn (k+1) t .nilIface .nilIface).run P w = .ok true w:=by
 simp [Op.equalIn,run_underlying ht]
def qOJ (P:Program) (t:TypeId):Bool:=match P.underlying t with
 | some (.interface _)=>true
 | _=>false
theorem qOI {P:Program} {t:TypeId} (h:qOJ P t=true):∃ ms,P.underlying t=some (.interface ms):=by
 unfold qOJ at h
 split at h
 ·exact ⟨_,by assumption⟩
 cases h
end
section
variable {P:Program} {T:Tab} {G:qO} {Q:Exit→St→Prop} {st st':St}
theorem Rel.freezeAll {c:Ctx} {μ:Mu} {tmps:Array Value} {w:World}:∀ (ids:List Nat) {M:qV} {st:St},Rel c M μ st tmps w→∃ M',Rel c M' μ (freezeAll st ids) tmps w
 | [],M,_,r=>⟨M,r⟩
 | i::l,M,st,r=>by
  obtain ⟨M1,r1⟩:=r.freeze i
  exact Rel.freezeAll l r1
end
section
variable {P:Program} {T:Tab} {G:qO}
theorem AX.ren {f:FuncId} {xs:List V} {H:List (Nat × Box)} {r:V} {ps:List Nat} {H':List (Nat × Box)} (i j:Nat) (h:AX P G f xs H r ps H') (hf:(⟨[r],ps,H',0⟩:St).fresh j=true):AX P G f xs H (r.ren i j) (ps.filter (· != i)) (qKX i j H'):=by
 refine ⟨h.1,fun M μ w vs hg rel=>(h.2 M μ w vs hg rel).mono ?_⟩
 rintro e w' ⟨v,M',μ',rfl,r'⟩
 have:=r'.ren (i:=i) hf
 exact ⟨v,M',_,rfl,by simpa only [St.ren,V.renL] using this⟩
end
section
variable {P:Program} {T:Tab} {G:qO} {Q:Exit→St→Prop} {l:List Oper} {m:Nat} {tss:List (List Nat)} {sms:List Sm}
inductive DRun (P:Program) (G:qO) (st0:St):List Oper→List (List Nat)→St→List Sm→St→Prop
 | nil {tss:List (List Nat)} {st:St}:(st.H.map (·.1)).Nodup→DRun P G st0 [] tss st [] st
 | one {o : Oper} {rest : List Oper} {ts : List Nat} {tss : List (List Nat)} {st st2 : St} {s : Sm} {zs : List Sm} : o.guard = none → (st.H.map (·.1)).Nodup → Facts st0 s → (∀ p ∈ s.H, p ∈ st.H) →
   (∀ c M μ st' tmps w R K,jA G c→Rel c M μ st' tmps w→yF st'.tmps (wS st.tmps ts)→(∀ id bx,(id,bx)∈s.H→(id,bx)∈st'.H)→(∀ n∈s.new,({ st' with H:=zD (s.H.map (·.1)) st'.H }:St).fresh n=true) →
    (∀ u w' M' μ' H2,Rel c M' μ' { st' with H:=H2 } tmps w'→RV M' μ' u s.x→(∀ p,p∈H2↔p∈s.H'∨(p∈st'.H∧p.1 ∉ s.H.map (·.1)))→K (Act.put ⟨tmps,[]⟩ o.dst u) w')→o.wp P ⟨tmps,[]⟩ w K R) →
   DRun P G st0 rest tss (st.after o.dst s) zs st2→DRun P G st0 (o::rest) (ts::tss) st (s::zs) st2
theorem DRun.len {st0:St} {rest:List Oper} {ts:List (List Nat)} {st st2:St} {zs:List Sm} (h:DRun P G st0 rest ts st zs st2):zs.length=rest.length:=by
 induction h with
 | nil=>rfl
 | one _ _ _ _ _ _ ih=>simp [ih]
theorem DRun.told (hchk : zP l m tss = true) (hconf : xG l m (sms.map Sm.sum) = true) {st0 : St} {rest : List Oper} {ts : List (List Nat)} {st st2 : St} {zs : List Sm} (h : DRun P G st0 rest ts st zs st2) : ∀ k : Nat,
  rest=(l.take m).drop k→ts=tss.drop k→zs=sms.drop k→k≤m→sms.length=m→st.pins=st0.pins→st.base=st0.base→DoneD l m sms st0 (fun j=>decide (j<k)) st.tmps st.H →
  (∀ i,k≤i→i<m→Told P G l m sms st0 i)∧st2.pins=st0.pins∧st2.base=st0.base∧DoneD l m sms st0 (fun j=>decide (j<m)) st2.tmps st2.H∧(st2.H.map (·.1)).Nodup:=by
 induction h with
 | @nil ts st hnd =>
  intro k hr _ hz hk hxl hp hb D
  have hkm:k=m:=by
   have h3:(List.drop k (List.take m l)).length=0:=by rw [← hr]; rfl
   have:=uM hchk
   simp at h3
   omega
  subst hkm
  exact ⟨fun i h1 h2=>by omega,hp,hb,D,hnd⟩
 | @one o rest t1 tss1 st st2 s zs hgd hnd F hsub hgo _ ih =>
  intro k hr hts hz hk hxl hp hb D
  have hkm:k<m:=by
   have h3:(List.drop k (List.take m l)).length=rest.length+1:=by rw [← hr]; rfl
   simp at h3
   omega
  obtain ⟨o',ho',htk,hsep⟩:=jJ hchk hkm
  have hoo:o=o':=by
   have h3:(List.drop k (List.take m l))[0]?=some o:=by rw [← hr]; rfl
   rw [List.getElem?_drop,List.getElem?_take,Nat.add_zero,if_pos hkm,ho'] at h3
   cases h3; rfl
  subst hoo
  have hrest:rest=(l.take m).drop (k+1):=by
   have:=congrArg (List.drop 1) hr
   simpa [List.drop_drop,Nat.add_comm] using this
  have ht1:t1=o.looksAt l.toArray:=by
   have h3:(List.drop k tss)[0]?=some t1:=by rw [← hts]; rfl
   rw [List.getElem?_drop,Nat.add_zero,htk] at h3
   cases h3; rfl
  have hts1:tss1=tss.drop (k+1):=by
   have:=congrArg (List.drop 1) hts
   simpa [List.drop_drop,Nat.add_comm] using this
  have hdk:wP l k=o.dst:=by simp [wP,ho']
  have hxk:sms[k]?=some s:=by
   have h3:(List.drop k sms)[0]?=some s:=by rw [← hz]; rfl
   rw [List.getElem?_drop,Nat.add_zero] at h3; exact h3
  have hz':zs=sms.drop (k+1):=by
   have:=congrArg (List.drop 1) hz
   simpa [List.drop_drop,Nat.add_comm] using this
  have D':DoneD l m sms st0 (fun j=>decide (j<k+1)) (st.after o.dst s).tmps (st.after o.dst s).H:=by
   have:=D.go hchk hconf (DC.below hchk k) (L':=fun j=>decide (j<k+1)) hkm hdk hxk (by simp) F (fun j=>by
    by_cases h1:j<k
    ·simp [h1,show j<k+1 by omega]
    by_cases h2:j=k
    ·simp [h2]
    simp [h1,h2,show ¬ j<k+1 by omega]) hsub hnd (H2:=s.H'++zD (s.H.map (·.1)) st.H) (fun p=>by rw [List.mem_append,yN])
   have e1:(st.after o.dst s).tmps=qKY st.tmps o.dst s.x:=by cases hq:o.dst <;> rfl
   rw [e1]; exact this
  have e2:(st.after o.dst s).pins=st.pins:=by cases hq:o.dst <;> rfl
  have e3:(st.after o.dst s).base=st.base:=by cases hq:o.dst <;> rfl
  obtain ⟨h1,h2,h3⟩:=ih (k+1) hrest hts1 hz' hkm hxl (e2.trans hp) (e3.trans hb) D'
  refine ⟨fun i hi1 hi2 => ?_,h2,h3⟩
  rcases Nat.eq_or_lt_of_le hi1 with e | e
  ·subst e
   subst ht1
   exact ⟨o,s,st.tmps,st.H,ho',hxk,D,F,hsub,qGV ho' hgd hgo⟩
  exact h1 i e hi2
theorem AW.runDraw1 (hmix : P.follows .mixedOrders = true) (m : Nat) (tss : List (List Nat)) {id : Nat} {st st1 : St} {sms : List Sm} (hchk : zP l m tss = true)
  (h1:DRun P G st (l.take m) tss st sms st1) (hconf:xG l m (sms.map Sm.sum)=true) (hlate:qU P G l.toArray Q (l.drop m) st1) :
  AW P G (.region id l.toArray true) Q st:=by
 intro c M μ tmps w hg r
 refine wp_region_any hmix ?_
 have hml:=uM hchk
 have hxl:sms.length=m:=by
  rw [h1.len]; simp; omega
 obtain ⟨hgo,hp2,_,D2,hnd2⟩:=h1.told hchk hconf 0 (by simp) (by simp) (by simp) (Nat.zero_le _) hxl rfl rfl (DoneD.put0 st)
 have hsize:l.toArray.size=l.length:=by simp
 refine qKA hchk hconf st (fun i hi=>hgo i (Nat.zero_le _) hi) st1 hp2 D2 hnd2 hlate hg _ _ _ M μ st.tmps st.H tmps _ rfl ?_ (by simp) (fun j _ hj=>by simp [Array.getD]) (fun j o _ h=>by simp [Array.getD] at h) ?_ (r.same ⟨rfl,rfl,rfl,Nat.le_refl _,fun _ _=>rfl⟩)
 ·rw [hsize]
  exact Nat.le_trans (List.length_filter_le _ _) (by simp)
 have:(fun j=>(Array.replicate l.toArray.size false).getD j false)=fun j=>decide (j<0):=by
  funext j; simp [Array.getD]
 rw [this]; exact DoneD.put0 st
def jB (P:Program) (G:qO) (st0:St) (l:List Oper) (tss:List (List Nat)) (st:St) (acc:qBM) (K:qBM→St→Prop):Prop:=∃ sms st1,DRun P G st0 l tss st sms st1∧K (acc++sms.map Sm.sum) st1
variable {K:qBM→St→Prop} {st st' st0:St} {rest:List Oper} {ts:List Nat} {orc orc':List PD} {acc:qBM} {o:Oper} {sm:zEU} {v:Know→Prop}
theorem jB.nil (hn:ndB st.H=true) (k:K acc st):jB P G st0 [] tss st acc K:=⟨_,_,.nil (yC hn),by simpa using k⟩
theorem jB.one (hT : TOK P T) (h : ∀ C, qGX C T G st0 ts o st orc = some (v C, st', sm, orc')) (hv : v (kn P G)) (hgd : o.guard = none) (hn : ndB st.H = true) (k : jB P G st0 rest tss st' (acc ++ [sm]) K) :
  jB P G st0 (o::rest) (ts::tss) st acc K:=by
 have h1:=h (kn P G)
 unfold qGX at h1
 split at h1
 ·rename_i v1 s orc1 h2
  simp only [Option.some.injEq,Prod.mk.injEq] at h1
  obtain ⟨h3,rfl,rfl,rfl⟩:=h1
  obtain ⟨sms,st1,e,hk⟩:=k
  have S:=uX hT (yC hn) h2 (h3 ▸ hv)
  exact ⟨s::sms,st1,.one hgd (yC hn) ⟨S.q,S.good,S.ps,S.new⟩ (fun p hp=>qBS st _ p (S.H p hp)) S.goes e,by simpa using hk⟩
 cases h1
theorem r1 (hT : TOK P T) (k : jB P G st0 rest tss st' (acc ++ [sm]) K) (h : ∀ C, qGX C T G st0 ts o st orc = some (v C, st', sm, orc') := by intro C; conv => lhs; simp) (hv : v (kn P G) := by first | with_reducible exact True.intro | omega | simp | (simp +contextual; omega)) (hgd : o.guard = none := by rfl) (hn : ndB st.H = true := by kernel_rfl) :
  jB P G st0 (o::rest) (ts::tss) st acc K:=jB.one hT h hv hgd hn k
theorem jB.call {x : Operand} {args : Array Operand} {tys : Array TypeId} {f : FuncId} {xs : List V} {H : List (Nat × Box)} {r : V} {ps : List Nat} {H' : List (Nat × Box)} (new : List Nat) (hc : AX P G f xs H r ps H') (ho : o.op = .call { callee := .value x, args := args, argTypes := tys }) (hgd : o.guard = none)
  (hcx:CX G ⟨wS st.tmps ts,H.map (·.1),H,st.base⟩ x args.toList f xs H r ps H') (hrest:(St.rest ⟨wS st.tmps ts,H.map (·.1),H,st.base⟩ H ps).H=[]) (hpins:∀ i∈ps,i∈(St.rest ⟨wS st.tmps ts,H.map (·.1),H,st.base⟩ H ps).pins)
  (hsub:∀ p∈H,p∈st.H) (hnew:∀ n∈new,st0.fresh n=true) (hky:∀ i,qM i H'=true→i∈H.map (·.1)∨i∈new) (hgood:∀ i∈V.ids r++jH H',i∈ps∨i∈new) (hn:ndB st.H=true) (hst:st.after o.dst ⟨r,H,H',ps,new,false⟩=st')
  (k:jB P G st0 rest tss st' (acc++[(Sm.mk r H H' ps new false).sum]) K):jB P G st0 (o::rest) (ts::tss) st acc K:=by
 subst hst
 obtain ⟨sms,st1,e,hk⟩:=k
 have hsn:(H.map (·.1)).Nodup:=hcx.2.2.2.2.1
 have y:=zF ho hc hcx
 refine ⟨⟨r,H,H',ps,new,false⟩::sms,st1,.one hgd (yC hn) ⟨fun h=>absurd h (by simp),hgood,hky,hnew⟩ hsub (fun c M μ st' tmps w R K hG rel hle hbox hnw k => ?_) e,by simpa using hk⟩
 exact qBA (s:=⟨r,H,H',ps,new,false⟩) (small:=⟨wS st.tmps ts,H.map (·.1),H,st.base⟩) (s':=({ St.rest (⟨wS st.tmps ts,H.map (·.1),H,st.base⟩:St) H ps with H:=H'++(St.rest (⟨wS st.tmps ts,H.map (·.1),H,st.base⟩:St) H ps).H }:St)) rfl hsn (by show H'=H'++_; rw [hrest,List.append_nil]) (fun i hi=>hpins i hi) hky hgood y c M μ st' tmps w R K hG rel hle hbox hnw k
theorem AW.drawR (hmix : P.follows .mixedOrders = true) (m : Nat) (tss : List (List Nat)) (orc2 : List PD) {id : Nat} {l : List Oper} (hchk : zP l m tss = true)
  (h:jB P G st (l.take m) tss st [] fun qSO st1=>xG l m qSO=true∧qD P G l.toArray Q (l.drop m) st1 orc2):AW P G (.region id l.toArray true) Q st:=by
 obtain ⟨sms,st1,e,hc,hl⟩:=h
 exact AW.runDraw1 hmix m tss hchk e (by simpa using hc) hl
end
set_option linter.unusedVariables false
section
variable {P:Program} {T:Tab} {G:qO} {l:List Oper} {tss:List (List Nat)} {K:qBM→St→Prop} {st st' st0:St} {rest:List Oper} {ts:List Nat} {acc:qBM} {o:Oper}
end
section
variable {P:Program} {T:Tab} {G:qO} {st:St}
end
section
variable {P:Program} {T:Tab} {G:qO} {st:St}
end
section
variable {P:Program} {T:Tab} {G:qO} {Q:Exit→St→Prop} {st:St}
theorem RowOf.drop {M:qV} {sz:Nat} {es:List PD} {news:List Value} (h:RowOf M sz es news) (n:Nat):RowOf M sz (es.drop n) (news.drop (n * sz)) where
 len:=by rw [List.length_drop,List.length_drop,h.len,Nat.sub_mul]
 one:=fun u hu=>h.one u (List.mem_of_mem_drop hu)
 elem:=fun i e he=>h.elem (n+i) e (by rwa [List.getElem?_drop] at he)
 get:=fun i e j d u he hd hu=>by
  rw [List.getElem?_drop] at he hu
  exact h.get (n+i) e j d u he hd (by rw [← hu]; congr 1; rw [Nat.add_mul]; omega)
end
section
variable {P:Program} {T:Tab} {G:qO} {l:List Oper} {tss:List (List Nat)} {K:qBM→St→Prop} {st st' st0:St} {rest:List Oper} {ts:List Nat} {acc:qBM} {o:Oper}
theorem jB.y (Hs H' : List (Nat × Box)) (x : V) (q : Bool) (hgd : o.guard = none) (y : qY P G o ⟨wS st.tmps ts, Hs.map (·.1), Hs, st.base⟩ x ⟨wS st.tmps ts, Hs.map (·.1), H', st.base⟩) (hq : q = true → H' = Hs) (hsub : ∀ p ∈ Hs, p ∈ st.H)
  (hids:∀ i∈V.ids x++jH H',i∈Hs.map (·.1)) (hn:ndB st.H=true) (hns:ndB Hs=true) (hst:st.after o.dst ⟨x,Hs,H',Hs.map (·.1),[],q⟩=st') (k:jB P G st0 rest tss st' (acc++[(Sm.mk x Hs H' (Hs.map (·.1)) [] q).sum]) K):jB P G st0 (o::rest) (ts::tss) st acc K:=by
 subst hst
 obtain ⟨sms,st1,e,hk⟩:=k
 have hgood:∀ i∈V.ids x++jH H',i∈Hs.map (·.1)∨i∈([]:List Nat):=fun i hi => .inl (hids i hi)
 have hky:∀ i,qM i H'=true→i∈Hs.map (·.1)∨i∈([]:List Nat):=fun i hi => .inl (hids i (List.mem_append.2 (.inr (uF hi))))
 refine ⟨⟨x,Hs,H',Hs.map (·.1),[],q⟩::sms,st1,.one hgd (yC hn) ⟨hq,hgood,hky,by simp⟩ hsub (fun c M μ st' tmps w R K hG rel hle hbox hnw k => ?_) e,by simpa using hk⟩
 exact qBA (s:=⟨x,Hs,H',Hs.map (·.1),[],q⟩) (small:=⟨wS st.tmps ts,Hs.map (·.1),Hs,st.base⟩) (s':=⟨wS st.tmps ts,Hs.map (·.1),H',st.base⟩) rfl (yC hns) rfl (fun i hi=>hi) hky hgood y c M μ st' tmps w R K hG rel hle hbox hnw k
end
section
variable {P:Program} {T:Tab} {G:qO} {Q:Exit→St→Prop} {st:St}
end
section
variable {P:Program} {T:Tab} {G:qO} {l:List Oper} {tss:List (List Nat)} {K:qBM→St→Prop} {st st' st0:St} {rest:List Oper} {ts:List Nat} {acc:qBM} {o:Oper}
end
section
variable {P:Program} {T:Tab} {G:qO} {Q:Exit→St→Prop}
def xH (s s':St):Prop:=∀ c M μ tmps w,Rel c M μ s tmps w→Rel c M μ s' tmps w
theorem xH.of {s s':St} (h:St.Le s s'):xH s s':=fun _ _ _ _ _ r=>r.weaken h
theorem AW.runSet (hmix : P.follows .mixedOrders = true) {id : Nat} {l : List Oper} {st : St} (X : (Nat → Bool) → St) (h0 : ∀ L, (∀ j, j < l.length → L j = false) → xH st (X L))
  (hback:∀ i o,l[i]?=some o→∀ e∈o.after,Region.binds .any e=true→e.on<i)
  (step:∀ (L:Nat→Bool) (i:Nat) (o:Oper),l[i]?=some o→L i=false→(∀ e∈o.after,Region.binds .any e=true→L e.on=true) →
   (∀ j o',l[j]?=some o'→L j=true→∀ e∈o'.after,Region.binds .any e=true→L e.on=true) →
   o.guard=none∧∃ x st',qY P G o (X L) x st'∧∀ L',(∀ j,j<l.length→L' j=(L j || j == i))→xH (st'.put o.dst x) (X L'))
  (hend:∀ L,(∀ j,j<l.length→L j=true)→Q .normal (X L)):AW P G (.region id l.toArray true) Q st:=by
 intro c M μ tmps w hg r
 refine wp_region_any hmix ?_
 have key : ∀ (n fuel : Nat) (listed : Array Bool) (M : qV) (μ : Mu) (tmps : Array Value) (w : World), n = ((List.range l.length).filter fun j => !listed.getD j false).length → n ≤ fuel → listed.size = l.length →
   (∀ j o',l[j]?=some o'→listed.getD j false=true→∀ e∈o'.after,Region.binds .any e=true→listed.getD e.on false=true) →
   Rel c M μ (X fun j=>listed.getD j false) tmps w→wpAny P .any l.toArray (zBZ c Q) fuel listed ⟨tmps,[]⟩ w:=by
  intro n
  induction n using Nat.strongRecOn with
  | _ n ih =>
  intro fuel listed M μ tmps w hn hf hsz hdown r
  have hready:∀ i,i∈Region.ready .any l.toArray listed→∃ o,l[i]?=some o∧listed.getD i false=false∧∀ e∈o.after,Region.binds .any e=true→listed.getD e.on false=true:=fun i hi=>by
   obtain ⟨h1,o,ho,hd⟩:=mem_ready.1 hi
   have ho':l[i]?=some o:=by simpa using ho
   have hil:i<l.length:=(List.getElem?_eq_some_iff.1 ho').1
   refine ⟨o,ho', ?_,hd⟩
   have e1:i<listed.size:=by omega
   simp [e1] at h1 ⊢
   exact h1
  have hnil:Region.ready .any l.toArray listed=[]→Q .normal (X fun j=>listed.getD j false):=fun hr=>by
   refine hend _ fun j hj => ?_
   induction j using Nat.strongRecOn with
   | _ j ihj =>
   cases hv:listed.getD j false with
   | true=>rfl
   | false =>
    have hr0:j∈Region.ready .any l.toArray listed:=by
     refine mem_ready.2 ⟨?_,l[j],by simp [hj],fun e he hb => ?_⟩
     ·have e1:j<listed.size:=by omega
      simp [e1] at hv ⊢
      exact hv
     have hlt:=hback j l[j] (by simp [hj]) e he hb
     exact ihj _ hlt (by omega)
    rw [hr] at hr0; cases hr0
  cases fuel with
  | zero =>
   have hr:Region.ready .any l.toArray listed=[]:=by
    cases hq:Region.ready .any l.toArray listed with
    | nil=>rfl
    | cons i rest =>
     obtain ⟨o,ho,hu,_⟩:=hready i (by rw [hq]; simp)
     have hmem:i∈(List.range l.length).filter fun j => !listed.getD j false:=by
      refine List.mem_filter.2 ⟨List.mem_range.2 (List.getElem?_eq_some_iff.1 ho).1, ?_⟩
      show (!listed.getD i false)=true
      rw [hu]; rfl
     have:=List.length_pos_of_mem hmem
     omega
   exact ⟨hr,_,M,μ,r,rfl,hnil hr⟩
  | succ fuel =>
   refine ⟨fun hr=>⟨_,M,μ,r,rfl,hnil hr⟩,fun i hi => ?_⟩
   obtain ⟨o,ho,hu,hd⟩:=hready i hi
   have hil:i<l.length:=(List.getElem?_eq_some_iff.1 ho).1
   obtain ⟨hgd,x,st',y,hle⟩:=step _ i o ho hu hd hdown
   unfold wpOp
   rw [show l.toArray[i]?=some o by simpa using ho]
   show if Region.wanted o (yielded l.toArray tmps)=true then _ else _
   rw [if_pos (by simp [Region.wanted,hgd])]
   refine .inl (kT (y c M μ tmps w hg r) ?_)
   rintro u w' ⟨M',μ',r',hv⟩
   have hget:∀ j,(listed.setIfInBounds i true).getD j false=(listed.getD j false || j == i):=fun j=>by
    by_cases hji:j=i
    ·subst hji; simp [Array.getD,show j<listed.size by omega]
    simp only [Array.getD_eq_getD_getElem?,Array.getElem?_setIfInBounds_ne (Ne.symm hji)]
    simp [hji]
   have hcnt:((List.range l.length).filter fun j => !(listed.setIfInBounds i true).getD j false).length<n:=by
    rw [hn]
    have hsub:((List.range l.length).filter fun j => !(listed.setIfInBounds i true).getD j false)=((List.range l.length).filter fun j => !listed.getD j false).filter (fun j=>j != i):=by
     rw [List.filter_filter]
     refine List.filter_congr fun j _ => ?_
     rw [hget]
     generalize listed.getD j false=z
     by_cases h1:j=i
     ·subst h1; cases z <;> simp
     have e:(j == i)=false:=by simpa using h1
     cases z <;> simp [e,bne]
    rw [hsub]
    exact List.length_filter_lt_length_iff_exists.2 ⟨i,List.mem_filter.2 ⟨List.mem_range.2 hil,by show (!listed.getD i false)=true; rw [hu]; rfl⟩,by simp⟩
   rw [Act.put_tmps]
   refine ih _ hcnt fuel _ M' μ' _ w' rfl (by omega) (by simpa using hsz) ?_ ?_
   ·intro j o' ho' hj e he hb
    rw [hget] at hj ⊢
    by_cases hji:j=i
    ·subst hji
     rw [ho] at ho'; cases ho'
     rw [hd e he hb]; rfl
    have:listed.getD j false=true:=by simpa [hji] using hj
    rw [hdown j o' ho' this e he hb]; rfl
   exact hle _ (fun j _=>hget j) c M' μ' _ w' (r'.put hv o.dst)
 have hfalse:∀ j,(Array.replicate l.toArray.size false).getD j false=false:=fun j=>by simp [Array.getD]
 refine key _ _ _ M μ tmps _ rfl ?_ (by simp) (fun j o' _ h=>by rw [hfalse] at h; cases h) (h0 _ (fun j _=>hfalse j) c M μ tmps _ (r.same ⟨rfl,rfl,rfl,Nat.le_refl _,fun _ _=>rfl⟩))
 exact Nat.le_trans (List.length_filter_le _ _) (by simp)
theorem AW.seqRunSet (hmix : P.follows .mixedOrders = true) {id : Nat} {l : List Oper} {b : Code} {st : St} (X : (Nat → Bool) → St) (h0 : ∀ L, (∀ j, j < l.length → L j = false) → xH st (X L))
  (hback:∀ i o,l[i]?=some o→∀ e∈o.after,Region.binds .any e=true→e.on<i)
  (step:∀ (L:Nat→Bool) (i:Nat) (o:Oper),l[i]?=some o→L i=false→(∀ e∈o.after,Region.binds .any e=true→L e.on=true) →
   (∀ j o',l[j]?=some o'→L j=true→∀ e∈o'.after,Region.binds .any e=true→L e.on=true) →
   o.guard=none∧∃ x st',qY P G o (X L) x st'∧∀ L',(∀ j,j<l.length→L' j=(L j || j == i))→xH (st'.put o.dst x) (X L'))
  (hend:∀ L,(∀ j,j<l.length→L j=true)→AW P G b Q (X L)):AW P G (.seq (.region id l.toArray true) b) Q st :=
 AW.seq (AW.runSet hmix X h0 hback step hend)
theorem RBox.mpx_of {M:qV} {μ:Mu} {w:World} {id:Nat} (r:RBox M μ w id (.mp [] [])):RBox M μ w id (.mpx [] []):=by
 cases r with
 | @mp _ _ b clock es h0 hv h3 hB h4 h5 h6 h7 =>
  have he:es = #[]:=Array.size_eq_zero_iff.1 (by simpa using h4)
  subst he
  exact .mpx h0 hv h3 hB rfl (fun e he=>by simp at he) (fun k hk=>by simp at hk)
theorem RBox.mpx_perm {M : qV} {μ : Mu} {w : World} {id : Nat} {ks ks' : List (List UInt8)} {vs vs' : List V} (r : RBox M μ w id (.mpx ks vs)) (hl : ks'.length = vs'.length)
  (h1:∀ p∈ks.zip vs,p∈ks'.zip vs') (h2:∀ k∈ks',k∈ks):RBox M μ w id (.mpx ks' vs'):=by
 cases r with
 | mpx h0 hv h3 hB hl0 h4 h5 =>
  refine .mpx h0 hv h3 hB hl (fun e he => ?_) (fun k hk=>h5 k (h2 k hk))
  obtain ⟨i,ba,g1,g2,g3,g4⟩:=h4 e he
  have hi:i<ks.length:=(List.getElem?_eq_some_iff.1 g2).1
  have hx:vs[i]?=some (vs[i]'(by omega)):=List.getElem?_eq_getElem _
  have hz:(ks.zip vs)[i]?=some (ba.data.toList,vs[i]'(by omega)):=List.getElem?_zip_eq_some.2 ⟨g2,hx⟩
  obtain ⟨j,hj,hje⟩:=List.mem_iff_getElem.1 (h1 _ (List.mem_of_getElem? hz))
  obtain ⟨k1,k2⟩:=List.getElem?_zip_eq_some.1 (List.getElem?_eq_some_iff.2 ⟨hj,hje⟩)
  refine ⟨j,ba,g1,k1,g3,fun x hx' => ?_⟩
  simp only at k2
  rw [k2] at hx'; cases hx'
  exact g4 _ hx
theorem Rel.boxAs {c:Ctx} {M:qV} {μ:Mu} {st:St} {tmps:Array Value} {w:World} (r:Rel c M μ st tmps w) {H':List (Nat × Box)} (hk:H'.map (·.1)=st.H.map (·.1)) (hb:∀ i bx,(i,bx)∈H'→RBox M μ w i bx):Rel c M μ { st with H:=H' } tmps w:=by
 have hkey:∀ i,qM i H'=true→qM i st.H=true:=fun i h=>by
  rw [zE] at h ⊢; rw [← hk]; exact h
 exact ⟨r.mem,r.ext,r.old,r.slots,r.pins,hb,by rw [hk]; exact r.nodup,fun i j b hi hj=>r.inj i j b (hkey i hi) (hkey j hj),fun i b hi=>r.own i b (hkey i hi),r.size,r.below⟩
theorem qOC {es : Array MapEntry} {ks : List (List UInt8)} {vs : List V} {M : qV} {μ : Mu} (h4 : ∀ e ∈ es.toList, ∃ (i : Nat) (ba : ByteArray), e.key = .string ba ∧ ks[i]? = some ba.data.toList ∧ ba.data.toList.length ≤ maxLen ∧ ∀ x, vs[i]? = some x → RV M μ e.val x) :
  ∀ x∈es.toList,MapKept.IsKey .string x.key:=fun x hx=>by
 obtain ⟨i,ba,g1,_⟩:=h4 x hx
 rw [g1]; trivial
variable {st:St}
theorem qBP (hT : TOK P T) {o : Oper} {t : TypeId} {m k y : Operand} {kt et : TypeId} {p q q' : Prop} {id : Nat} {s : List UInt8} {v : V} {ks : List (List UInt8)} {vs : List V} (ho : o.op = .insert t m k y) (hk : zT T t = some (.map kt et)) (hkt : zT T kt = some .str)
  (h1:st.arg G m=(p,.ms id)) (hp:p) (h2:st.arg G k=(q,.p (.str s))) (hq:q) (h3:st.arg G y=(q',v)) (hq':q') (hb:zO id st.H=some (.mpx ks vs)) (hnk:s ∉ ks):qY P G o st .dead { st with H:=zQ id (.mpx (ks++[s]) (vs++[v])) st.H }:=by
 intro c M μ tmps w hg r
 have hd:=hT.map hk
 have hdk:=hT.str hkt
 have e1:=qE hg r h1 hp
 have e2:=(qE hg r h2 hq).p_inv
 have e3:=qE hg r h3 hq'
 generalize hu1:Act.eval ⟨tmps,[]⟩ m=u1 at e1
 generalize hu2:Act.eval ⟨tmps,[]⟩ k=u2 at e2
 generalize hu3:Act.eval ⟨tmps,[]⟩ y=u3 at e3
 cases e1 with
 | ms hval hone =>
 cases e2 with
 | @str ba _ hba hlen =>
 have hm:=zH hb
 have hbx:=r.box id _ hm
 cases hbx with
 | @mpx _ _ b clock es h0 hv h3 hB hl h4 h5 =>
 rw [hv] at hval
 subst hval
 have hks:=qOC h4
 have hik:MapKept.IsKey .string (.string ba):=trivial
 have hbl:b<w.heap.size:=(r.own id b (qG.2 ⟨_,hm⟩) h0).2.1
 rcases MapKept.findNow_spec hik es.toList 0 hks with ⟨g1,g2⟩ | ⟨j,e',g1,g2,g3⟩
 ·have e:(execOp (Act.eval ⟨tmps,[]⟩) o).run P w = .ok .skip { w with heap:=w.heap.setIfInBounds b (.map (es.push { key := .string ba,val:=u3,born:=clock }) (clock+1)) }:=by
   simp [execOp,ho,hu1,hu2,hu3,Instr.mapUpdate,run_underlying hd,MapKept.run_getObj_map h3,MapKept.run_checkKey hdk hik,MapKept.run_findKey hdk g1,MapKept.run_setObj_map _ h3,Result.andThen]
  rw [e]
  refine ⟨M,μ,r.write (qG.2 ⟨_,hm⟩) h0 ⟨rfl,rfl,rfl,by simp,fun k hk=>by simp [Array.getElem?_setIfInBounds_ne (Ne.symm hk)]⟩ (.mpx (clock:=clock+1) (es:=es.push { key := .string ba,val:=u3,born:=clock }) h0 hv ?_ (hB.push _ _) (by simp [hl]) ?_ ?_),.dead⟩
  ·simp [hbl]
  ·intro e he
   rw [Array.toList_push,List.mem_append] at he
   rcases he with he | he
   ·obtain ⟨i,ba',k1,k2,k3,k4⟩:=h4 e he
    have hi:i<ks.length:=(List.getElem?_eq_some_iff.1 k2).1
    refine ⟨i,ba',k1,by rw [List.getElem?_append_left hi]; exact k2,k3,fun x hx => ?_⟩
    rw [List.getElem?_append_left (by omega)] at hx
    exact k4 x hx
   rw [List.mem_singleton] at he; subst he
   refine ⟨ks.length,ba,rfl,by rw [hba]; simp,by rw [hba]; exact hlen,fun x hx => ?_⟩
   rw [List.getElem?_append_right (by omega),hl] at hx
   simp at hx; subst hx
   exact e3
  intro k hk'
  rcases List.mem_append.1 hk' with hk' | hk'
  ·obtain ⟨e,he,ba',k1,k2⟩:=h5 k hk'
   exact ⟨e,by rw [Array.toList_push]; exact List.mem_append_left _ he,ba',k1,k2⟩
  rw [List.mem_singleton] at hk'; subst hk'
  exact ⟨_,by rw [Array.toList_push]; exact List.mem_append_right _ (List.mem_singleton.2 rfl),ba,rfl,hba⟩
 exfalso
 obtain ⟨i,ba',k1,k2,_⟩:=h4 e' (List.mem_of_getElem? g2)
 rw [g3] at k1
 cases k1
 rw [hba] at k2
 exact hnk (List.mem_of_getElem? k2)
theorem qBN (hT : TOK P T) {o : Oper} {t : TypeId} {m k : Operand} {ok : Bool} {kt et : TypeId} {p q : Prop} {id : Nat} {s : List UInt8} {v : V} {ks : List (List UInt8)} {vs : List V} (ho : o.op = .lookup t m k ok) (hk : zT T t = some (.map kt et)) (hkt : zT T kt = some .str)
  (h1:st.arg G m=(p,.ms id)) (hp:p) (h2:st.arg G k=(q,.p (.str s))) (hq:q) (hb:zO id st.H=some (.mpx ks vs)) (hnd:ks.Nodup) (i:Nat) (hi:ks[i]?=some s) (hx:vs[i]?=some v):qY P G o st (if ok then .tuple [v,.p (.bool true)] else v) st:=by
 intro c M μ tmps w hg r
 have hd:=hT.map hk
 have hdk:=hT.str hkt
 have e1:=qE hg r h1 hp
 have e2:=(qE hg r h2 hq).p_inv
 generalize hu1:Act.eval ⟨tmps,[]⟩ m=u1 at e1
 generalize hu2:Act.eval ⟨tmps,[]⟩ k=u2 at e2
 cases e1 with
 | ms hval hone =>
 cases e2 with
 | @str ba _ hba hlen =>
 have hbx:=r.box id _ (zH hb)
 cases hbx with
 | @mpx _ _ b clock es h0 hv h3 hB hl h4 h5 =>
 rw [hv] at hval
 subst hval
 have hks:=qOC h4
 have hik:MapKept.IsKey .string (.string ba):=trivial
 rcases MapKept.findNow_spec hik es.toList 0 hks with ⟨g1,g2⟩ | ⟨j,e',g1,g2,g3⟩
 ·exfalso
  obtain ⟨e,he,ba',k1,k2⟩:=h5 s (List.mem_of_getElem? hi)
  refine g2 e he ?_
  rw [k1]
  congr 1
  exact zBR (k2.trans hba.symm)
 obtain ⟨i',ba',k1,k2,k3,k4⟩:=h4 e' (List.mem_of_getElem? g2)
 rw [g3] at k1
 cases k1
 rw [hba] at k2
 obtain ⟨a1,a2⟩:=List.getElem?_eq_some_iff.1 k2
 obtain ⟨b1,b2⟩:=List.getElem?_eq_some_iff.1 hi
 have hii:i'=i:=(List.getElem_inj hnd).1 (a2.trans b2.symm)
 subst hii
 have hrv:=k4 v hx
 have e:(execOp (Act.eval ⟨tmps,[]⟩) o).run P w = .ok (.value (if ok then .tuple #[e'.val,.bool true] else e'.val)) w:=by
  cases ok <;> simp [execOp,ho,hu1,hu2,Instr.lookup,run_underlying hd,MapKept.run_getObj_map h3,MapKept.run_checkKey hdk hik,MapKept.run_findKey hdk g1,Result.andThen]
 rw [e]
 refine ⟨M,μ,r, ?_⟩
 cases ok with
 | false=>exact hrv
 | true =>
  refine .tuple rfl fun i u x hu hx => ?_
  match i with
  | 0=>simp at hu hx; subst hu; subst hx; exact hrv
  | 1=>simp at hu hx; subst hu; subst hx; exact .p (.bool _)
  | i+2=>simp at hu
theorem qBO (hT : TOK P T) {o : Oper} {t : TypeId} {m k : Operand} {ok : Bool} {kt et : TypeId} {ti : TI} {p q : Prop} {id : Nat} {s : List UInt8} {d : PD} {ks : List (List UInt8)} {vs : List V} (ho : o.op = .lookup t m k ok) (hk : zT T t = some (.map kt et)) (hkt : zT T kt = some .str) (hti : T et = some ti) (hz : ti.zero = .p d)
  (h1:st.arg G m=(p,.ms id)) (hp:p) (h2:st.arg G k=(q,.p (.str s))) (hq:q) (hb:zO id st.H=some (.mpx ks vs)) (hnk:s ∉ ks):qY P G o st (if ok then .tuple [.p d,.p (.bool false)] else .p d) st:=by
 intro c M μ tmps w hg r
 have hd:=hT.map hk
 have hdk:=hT.str hkt
 have e1:=qE hg r h1 hp
 have e2:=(qE hg r h2 hq).p_inv
 generalize hu1:Act.eval ⟨tmps,[]⟩ m=u1 at e1
 generalize hu2:Act.eval ⟨tmps,[]⟩ k=u2 at e2
 cases e1 with
 | ms hval hone =>
 cases e2 with
 | @str ba _ hba hlen =>
 have hbx:=r.box id _ (zH hb)
 cases hbx with
 | @mpx _ _ b clock es h0 hv h3 hB hl h4 h5 =>
 rw [hv] at hval
 subst hval
 have hks:=qOC h4
 have hik:MapKept.IsKey .string (.string ba):=trivial
 rcases MapKept.findNow_spec hik es.toList 0 hks with ⟨g1,g2⟩ | ⟨j,e',g1,g2,g3⟩
 ·obtain ⟨z,hz,hrz⟩:=qLN hT hti hz M μ w
  have e:(execOp (Act.eval ⟨tmps,[]⟩) o).run P w = .ok (.value (if ok then .tuple #[z,.bool false] else z)) w:=by
   cases ok <;> simp [execOp,ho,hu1,hu2,Instr.lookup,run_underlying hd,MapKept.run_getObj_map h3,MapKept.run_checkKey hdk hik,MapKept.run_findKey hdk g1,hz,Result.andThen]
  rw [e]
  refine ⟨M,μ,r, ?_⟩
  cases ok with
  | false=>exact hrz
  | true =>
   refine .tuple rfl fun i u x hu hx => ?_
   match i with
   | 0=>simp at hu hx; subst hu; subst hx; exact hrz
   | 1=>simp at hu hx; subst hu; subst hx; exact .p (.bool _)
   | i+2=>simp at hu
 exfalso
 obtain ⟨i,ba',k1,k2,_⟩:=h4 e' (List.mem_of_getElem? g2)
 rw [g3] at k1
 cases k1
 rw [hba] at k2
 exact hnk (List.mem_of_getElem? k2)
end
set_option maxHeartbeats 4000000
section
variable {P:Program} {T:Tab} {G:qO} {Q:Exit→St→Prop}
theorem jS (hT:TOK P T) {st:St} {o:Oper} {orc orc':List PD} {v:Prop} {x:V} (h:yX T G st o.op orc=some (v,x,orc')) (hv:v):qY P G o st x st:=by
 intro c M μ tmps w hg r
 obtain ⟨u,e,hu⟩:=qGN hT hg r h hv
 rw [e]
 exact ⟨M,μ,r,hu⟩
def dd (b:Bool) (v:V):V:=if b=true then v else .dead
@[simp] theorem zKG (v:V):dd true v=v:=rfl
@[simp] theorem qKE (v:V):dd false v = .dead:=rfl
theorem zBD {id:Nat} {b:Bool} {v:V} (h:V.noRef id v=true):V.noRef id (dd b v)=true:=by cases b <;> simp [h,V.noRef]
def dl {α:Type} (b:Bool) (k:α):List α:=if b=true then [k] else []
@[simp] theorem qWE {α:Type} (k:α):dl true k=[k]:=rfl
@[simp] theorem zBA {α:Type} (k:α):dl false k=[]:=rfl
def qCD (t tj f1 f2 f3 f4:Nat) (b1 b2 b3 b4:ByteArray):List (Option Nat × Op):=[(some 3,.makeMap t none),
 (some 4,.move (.tmp 0)),(some 5,.nilCheck (.tmp 4)),(some 6,.fieldAddr tj (.tmp 5) f1),(none,.insert t (.tmp 3) (.const (.string b1)) (.tmp 6)),
 (some 7,.move (.tmp 0)),(some 8,.nilCheck (.tmp 7)),(some 9,.fieldAddr tj (.tmp 8) f2),(none,.insert t (.tmp 3) (.const (.string b2)) (.tmp 9)),
 (some 10,.move (.tmp 0)),(some 11,.nilCheck (.tmp 10)),(some 12,.fieldAddr tj (.tmp 11) f3),(none,.insert t (.tmp 3) (.const (.string b3)) (.tmp 12)),
 (some 13,.move (.tmp 0)),(some 14,.nilCheck (.tmp 13)),(some 15,.fieldAddr tj (.tmp 14) f4),(none,.insert t (.tmp 3) (.const (.string b4)) (.tmp 15)),
 (some 16,.move (.tmp 3)),(some 2,.assign (.tmp 16))]
def qXP:List (List Nat):=[[],[],[1],[2],[0,3],[],[5],[6],[0,7],[],[9],[10],[0,11],[],[13],[14],[0,15],
 [0,1,2,3,4,5,6,7,8,9,10,11,12,13,14,15,16],[17,0,1,2,3,4,5,6,7,8,9,10,11,12,13,14,15,16,17]]
def zN (n jd mid o1 o2 o3 o4 bs:Nat) (k1 k2 k3 k4:List UInt8) (ps:List Nat) (H0:List (Nat × Box)) (L:Nat→Bool):St :=
 ⟨zR n [(0,.ptr jd 0),(2,dd (L 18) (.ms mid)),(3,dd (L 0) (.ms mid)),(4,dd (L 1) (.ptr jd 0)),(5,dd (L 2) (.ptr jd 0)),(6,dd (L 3) (.ptr jd o1)),(7,dd (L 5) (.ptr jd 0)),(8,dd (L 6) (.ptr jd 0)),(9,dd (L 7) (.ptr jd o2)),
  (10,dd (L 9) (.ptr jd 0)),(11,dd (L 10) (.ptr jd 0)),(12,dd (L 11) (.ptr jd o3)),(13,dd (L 13) (.ptr jd 0)),(14,dd (L 14) (.ptr jd 0)),(15,dd (L 15) (.ptr jd o4)),(16,dd (L 17) (.ms mid))],ps,
  dl (L 0) (mid,.mpx (dl (L 4) k1++dl (L 8) k2++dl (L 12) k3++dl (L 16) k4) (dl (L 4) (.ptr jd o1)++dl (L 8) (.ptr jd o2)++dl (L 12) (.ptr jd o3)++dl (L 16) (.ptr jd o4)))++H0,bs⟩
theorem qJM {n jd mid o1 o2 o3 o4 bs:Nat} {k1 k2 k3 k4:List UInt8} {ps:List Nat} {H0:List (Nat × Box)} (L:Nat→Bool) (hH0:(H0.map (·.1)).Nodup) (hky:qM mid H0=false):((zN n jd mid o1 o2 o3 o4 bs k1 k2 k3 k4 ps H0 L).H.map (·.1)).Nodup:=by
 cases h:L 0 with
 | false=>simpa [zN,h] using hH0
 | true =>
  simp only [zN,h,qWE,List.singleton_append,List.map_cons]
  exact List.nodup_cons.2 ⟨fun h=>(by have:=zE.2 h; rw [hky] at this; cases this),hH0⟩
theorem AW.mapLit (hT : TOK P T) (hmix : P.follows .mixedOrders = true) {id n jd mid o1 o2 o3 o4 bs t tj f1 f2 f3 f4 : Nat} {kt et : TypeId} {b1 b2 b3 b4 : ByteArray} {ps : List Nat} {H0 : List (Nat × Box)} {l : List Oper} {b : Code} {st : St} (hn : 17 ≤ n) (hm : mid = bs + 3)
  (hl:l.map (fun o=>(o.dst,o.op))=qCD t tj f1 f2 f3 f4 b1 b2 b3 b4) (hgd:∀ o∈l,o.guard=none) (hed:l.map (fun o=>(o.after.toList.filter (Region.binds .any)).map (·.on))=qXP)
  (hk:zT T t=some (.map kt et)) (hkt:zT T kt=some .str)
  (hf1:∀ (st:St) s,st.arg G (.tmp s)=(True,.ptr jd 0)→yX T G st (.fieldAddr tj (.tmp s) f1) []=some (True,.ptr jd o1,[]))
  (hf2:∀ (st:St) s,st.arg G (.tmp s)=(True,.ptr jd 0)→yX T G st (.fieldAddr tj (.tmp s) f2) []=some (True,.ptr jd o2,[]))
  (hf3:∀ (st:St) s,st.arg G (.tmp s)=(True,.ptr jd 0)→yX T G st (.fieldAddr tj (.tmp s) f3) []=some (True,.ptr jd o3,[]))
  (hf4:∀ (st:St) s,st.arg G (.tmp s)=(True,.ptr jd 0)→yX T G st (.fieldAddr tj (.tmp s) f4) []=some (True,.ptr jd o4,[]))
  (hs1:b1.size≤9223372036854775807) (hs2:b2.size≤9223372036854775807) (hs3:b3.size≤9223372036854775807) (hs4:b4.size≤9223372036854775807)
  (hnd:[b1.data.toList,b2.data.toList,b3.data.toList,b4.data.toList].Nodup) (hjd:jd≠mid) (hps:mid ∉ ps) (hno:yU mid H0=true) (hky:qM mid H0=false)
  (h0:St.Le st (zN n jd mid o1 o2 o3 o4 bs b1.data.toList b2.data.toList b3.data.toList b4.data.toList ps H0 fun _=>false)) (hH0:(H0.map (·.1)).Nodup)
  (hend:AW P G b Q ⟨zR n [(2,.ms mid)],ps,(mid,.mpx [b1.data.toList,b2.data.toList,b3.data.toList,b4.data.toList] [.ptr jd o1,.ptr jd o2,.ptr jd o3,.ptr jd o4])::H0,bs⟩):AW P G (.seq (.region id l.toArray true) b) Q st:=by
 have hlen:l.length=19:=by have:=congrArg List.length hl; simpa [qCD] using this
 have hX:∀ L L':Nat→Bool,(∀ j,j<19→L j=L' j)→zN n jd mid o1 o2 o3 o4 bs b1.data.toList b2.data.toList b3.data.toList b4.data.toList ps H0 L=zN n jd mid o1 o2 o3 o4 bs b1.data.toList b2.data.toList b3.data.toList b4.data.toList ps H0 L':=fun L L' h=>by
  unfold zN
  simp only [h 0 (by omega),h 1 (by omega),h 2 (by omega),h 3 (by omega),h 4 (by omega),h 5 (by omega),h 6 (by omega),h 7 (by omega),h 8 (by omega),h 9 (by omega),h 10 (by omega),h 11 (by omega),h 12 (by omega),h 13 (by omega),h 14 (by omega),h 15 (by omega),h 16 (by omega),h 17 (by omega),h 18 (by omega)]
 have hops:∀ (i:Nat) (o:Oper),l[i]?=some o→(qCD t tj f1 f2 f3 f4 b1 b2 b3 b4)[i]?=some (o.dst,o.op):=fun i o h=>by rw [← hl,List.getElem?_map,h]; rfl
 have heds:∀ (i:Nat) (o:Oper),l[i]?=some o→∀ k,k∈qXP.getD i []→∃ e∈o.after,Region.binds .any e=true∧e.on=k:=fun i o h k hk=>by
  rw [← hed,List.getD_eq_getElem?_getD,List.getElem?_map,h] at hk
  simp only [Option.map_some,Option.getD_some,List.mem_map,List.mem_filter] at hk
  obtain ⟨e,⟨h1,h2⟩,h3⟩:=hk
  exact ⟨e,by simpa using h1,h2,h3⟩
 refine AW.seqRunSet hmix (zN n jd mid o1 o2 o3 o4 bs b1.data.toList b2.data.toList b3.data.toList b4.data.toList ps H0) (fun L hL => ?_) (fun i o h e he hb => ?_) (fun L i o ho hLi hE hdn=>⟨hgd o (List.mem_of_getElem? ho), ?_⟩) (fun L hL => ?_)
 ·rw [hX L (fun _=>false) (fun j hj=>hL j (by omega))]
  exact xH.of h0
 ·have hmem:e.on∈qXP.getD i []:=by
   rw [← hed,List.getD_eq_getElem?_getD,List.getElem?_map,h]
   simp only [Option.map_some,Option.getD_some,List.mem_map,List.mem_filter]
   exact ⟨e,⟨by simpa using he,hb⟩,rfl⟩
  have hi:i<19:=by have:=(List.getElem?_eq_some_iff.1 h).1; omega
  have key:∀ i,i<19→∀ k∈qXP.getD i [],k<i:=by decide
  exact key i hi _ hmem
 ·have hi:i<19:=by have:=(List.getElem?_eq_some_iff.1 ho).1; omega
  have hop:=hops i o ho
  have hE':∀ k,k∈qXP.getD i []→L k=true:=fun k hk=>by
   obtain ⟨e,he,hb,hon⟩:=heds i o ho k hk
   rw [← hon]; exact hE e he hb
  have hD:∀ j,j<19→L j=true→∀ k,k∈qXP.getD j []→L k=true:=fun j hj hLj k hk=>by
   obtain ⟨e,he,hb,hon⟩:=heds j l[j] (by simp [hlen,hj]) k hk
   rw [← hon]; exact hdn j l[j] (by simp [hlen,hj]) hLj e he hb
  have hno0:L 0=false→L 4=false∧L 8=false∧L 12=false∧L 16=false∧L 17=false∧L 18=false:=fun h=>by
   refine ⟨?_, ?_, ?_, ?_, ?_, ?_⟩ <;> (rw [← Bool.not_eq_true]; intro hx; first | (have:=hD 4 (by omega) hx 0 (by decide); simp [h] at this; done) | (have:=hD 8 (by omega) hx 0 (by decide); simp [h] at this; done) | (have:=hD 12 (by omega) hx 0 (by decide); simp [h] at this; done) | (have:=hD 16 (by omega) hx 0 (by decide); simp [h] at this; done) | (have:=hD 17 (by omega) hx 0 (by decide); simp [h] at this; done) | (have:=hD 18 (by omega) hx 0 (by decide); simp [h] at this; done))
  have hLL:∀ L':Nat→Bool,(∀ j,j<l.length→L' j=(L j || j == i))→zN n jd mid o1 o2 o3 o4 bs b1.data.toList b2.data.toList b3.data.toList b4.data.toList ps H0 L'=zN n jd mid o1 o2 o3 o4 bs b1.data.toList b2.data.toList b3.data.toList b4.data.toList ps H0 (fun j=>L j || j == i):=fun L' h=>hX _ _ fun j hj=>h j (by omega)
  have hcase:i=0∨(i=1∨i=5∨i=9∨i=13)∨(i=2∨i=6∨i=10∨i=14)∨(i=3∨i=7∨i=11∨i=15)∨(i=4∨i=8∨i=12∨i=16)∨i=17∨i=18:=by omega
  have hnk:∀ k,k<17→k<n:=fun k hk=>by omega
  have hndp:=fun L=>qJM (n:=n) (jd:=jd) (o1:=o1) (o2:=o2) (o3:=o3) (o4:=o4) (bs:=bs) (k1:=b1.data.toList) (k2:=b2.data.toList) (k3:=b3.data.toList) (k4:=b4.data.toList) (ps:=ps) L hH0 hky
  rcases hcase with h | h | h | h | h | h | h
  ·subst h
   simp only [qCD,List.getElem?_cons_zero,Option.some.injEq,Prod.mk.injEq] at hop
   obtain ⟨h1,h2⟩:=hop
   obtain ⟨q4,q8,q12,q16,q17,q18⟩:=hno0 hLi
   refine ⟨.ms mid,{ zN n jd mid o1 o2 o3 o4 bs b1.data.toList b2.data.toList b3.data.toList b4.data.toList ps H0 L with H:=(mid,.mp [] [])::H0 },qMU hT (orc:=[]) (orc':=[]) (vc:=((zN n jd mid o1 o2 o3 o4 bs b1.data.toList b2.data.toList b3.data.toList b4.data.toList ps H0 L).fresh mid=true)) (by unfold eff; simp only [← h2,← h1]; simp [uG,zN,hm,hLi]) ?_,fun L' h' => ?_⟩
   ·simp only [St.fresh,zN,hLi,q17,q18,qKE,zBA,List.nil_append,hno,hky,Bool.and_eq_true]
    refine ⟨⟨⟨qHW ?_,by simpa using hps⟩,trivial⟩,by simp⟩
    have hr:∀ b o,V.noRef mid (dd b (.ptr jd o))=true:=fun b o=>zBD (by simpa [V.noRef] using hjd)
    simp [qFP,hr,V.noRef,hjd]
   rw [hLL L' h',← h1]
   intro c M μ tmps w r
   have hb:=r.box
   refine Rel.weaken (Rel.boxAs (H':=(mid,.mpx [] [])::H0) r rfl (fun i bx hi => ?_)) ⟨?_,rfl, ?_,hndp _⟩
   ·rcases List.mem_cons.1 hi with hi | hi
    ·cases hi; exact RBox.mpx_of (hb mid _ (List.mem_cons_self))
    exact hb i bx (List.mem_cons_of_mem _ hi)
   ·simp [St.put,zN,qDF,hLi]
   simp [zN,hLi,q4,q8,q12,q16]
  ·rcases h with rfl | rfl | rfl | rfl <;>
   ·simp only [qCD,List.getElem?_cons_succ,List.getElem?_cons_zero,Option.some.injEq,Prod.mk.injEq] at hop
    obtain ⟨h1,h2⟩:=hop
    refine ⟨.ptr jd 0,_,jS hT (orc:=[]) (orc':=[]) (v:=True) (by rw [← h2]; simp [yX,zN,zJ,hnk]) trivial,fun L' h'=>xH.of ?_⟩
    rw [hLL L' h',← h1]
    refine ⟨?_,rfl, ?_,hndp _⟩
    ·simp [St.put,zN,qDF]
    simp [St.put,zN]
  ·rcases h with rfl | rfl | rfl | rfl <;>
   ·simp only [qCD,List.getElem?_cons_succ,List.getElem?_cons_zero,Option.some.injEq,Prod.mk.injEq] at hop
    obtain ⟨h1,h2⟩:=hop
    have hp:=hE' _ (List.mem_singleton.2 rfl)
    refine ⟨.ptr jd 0,_,jS hT (orc:=[]) (orc':=[]) (v:=True) (by rw [← h2]; simp [yX,zN,zJ,hnk,hp]) trivial,fun L' h'=>xH.of ?_⟩
    rw [hLL L' h',← h1]
    refine ⟨?_,rfl, ?_,hndp _⟩
    ·simp [St.put,zN,qDF]
    simp [St.put,zN]
  ·rcases h with rfl | rfl | rfl | rfl
   ·simp only [qCD,List.getElem?_cons_succ,List.getElem?_cons_zero,Option.some.injEq,Prod.mk.injEq] at hop
    obtain ⟨h1,h2⟩:=hop
    have hp:=hE' 2 (by decide)
    refine ⟨.ptr jd o1,_,jS hT (orc:=[]) (orc':=[]) (v:=True) (by rw [← h2]; exact hf1 _ _ (by simp [zN,zJ,hnk,hp])) trivial,fun L' h'=>xH.of ?_⟩
    rw [hLL L' h',← h1]
    exact ⟨by simp [St.put,zN,qDF],rfl,by simp [St.put,zN],hndp _⟩
   ·simp only [qCD,List.getElem?_cons_succ,List.getElem?_cons_zero,Option.some.injEq,Prod.mk.injEq] at hop
    obtain ⟨h1,h2⟩:=hop
    have hp:=hE' 6 (by decide)
    refine ⟨.ptr jd o2,_,jS hT (orc:=[]) (orc':=[]) (v:=True) (by rw [← h2]; exact hf2 _ _ (by simp [zN,zJ,hnk,hp])) trivial,fun L' h'=>xH.of ?_⟩
    rw [hLL L' h',← h1]
    exact ⟨by simp [St.put,zN,qDF],rfl,by simp [St.put,zN],hndp _⟩
   ·simp only [qCD,List.getElem?_cons_succ,List.getElem?_cons_zero,Option.some.injEq,Prod.mk.injEq] at hop
    obtain ⟨h1,h2⟩:=hop
    have hp:=hE' 10 (by decide)
    refine ⟨.ptr jd o3,_,jS hT (orc:=[]) (orc':=[]) (v:=True) (by rw [← h2]; exact hf3 _ _ (by simp [zN,zJ,hnk,hp])) trivial,fun L' h'=>xH.of ?_⟩
    rw [hLL L' h',← h1]
    exact ⟨by simp [St.put,zN,qDF],rfl,by simp [St.put,zN],hndp _⟩
   simp only [qCD,List.getElem?_cons_succ,List.getElem?_cons_zero,Option.some.injEq,Prod.mk.injEq] at hop
   obtain ⟨h1,h2⟩:=hop
   have hp:=hE' 14 (by decide)
   refine ⟨.ptr jd o4,_,jS hT (orc:=[]) (orc':=[]) (v:=True) (by rw [← h2]; exact hf4 _ _ (by simp [zN,zJ,hnk,hp])) trivial,fun L' h'=>xH.of ?_⟩
   rw [hLL L' h',← h1]
   exact ⟨by simp [St.put,zN,qDF],rfl,by simp [St.put,zN],hndp _⟩
  ·simp only [List.nodup_cons,List.mem_cons,List.not_mem_nil,not_or,not_false_eq_true,and_true,or_false,List.nodup_nil] at hnd
   obtain ⟨⟨n12,n13,n14⟩,⟨n23,n24⟩,n34⟩:=hnd
   have n21:=Ne.symm n12
   have n31:=Ne.symm n13
   have n41:=Ne.symm n14
   have n32:=Ne.symm n23
   have n42:=Ne.symm n24
   have n43:=Ne.symm n34
   have fin : ∀ (st' : St) (L' : Nat → Bool) (ks : List (List UInt8)) (vs : List V), L' 0 = true → st' = { zN n jd mid o1 o2 o3 o4 bs b1.data.toList b2.data.toList b3.data.toList b4.data.toList ps H0 L' with H := (mid, .mpx ks vs) :: H0 } →
     (∀ p∈ks.zip vs,p∈(dl (L' 4) b1.data.toList++dl (L' 8) b2.data.toList++dl (L' 12) b3.data.toList++dl (L' 16) b4.data.toList).zip (dl (L' 4) (V.ptr jd o1)++dl (L' 8) (V.ptr jd o2)++dl (L' 12) (V.ptr jd o3)++dl (L' 16) (V.ptr jd o4))) →
     (∀ k∈dl (L' 4) b1.data.toList++dl (L' 8) b2.data.toList++dl (L' 12) b3.data.toList++dl (L' 16) b4.data.toList,k∈ks) →
     xH st' (zN n jd mid o1 o2 o3 o4 bs b1.data.toList b2.data.toList b3.data.toList b4.data.toList ps H0 L'):=by
    intro st' L' ks vs hL0 e hz hkk c M μ tmps w r
    subst e
    have hb:=r.box
    refine Rel.boxAs (H':=(zN n jd mid o1 o2 o3 o4 bs b1.data.toList b2.data.toList b3.data.toList b4.data.toList ps H0 L').H) r (by simp [zN,hL0]) (fun i bx hi => ?_)
    simp only [zN,hL0,qWE,List.singleton_append,List.mem_cons] at hi
    rcases hi with hi | hi
    ·cases hi
     refine RBox.mpx_perm (hb mid _ (List.mem_cons_self)) ?_ hz hkk
     cases L' 4 <;> cases L' 8 <;> cases L' 12 <;> cases L' 16 <;> rfl
    exact hb i bx (List.mem_cons_of_mem _ hi)
   rcases h with rfl | rfl | rfl | rfl
   ·simp only [qCD,List.getElem?_cons_succ,List.getElem?_cons_zero,Option.some.injEq,Prod.mk.injEq] at hop
    obtain ⟨h1,h2⟩:=hop
    have hp:=hE' 3 (by decide)
    have hq:=hE' 0 (by decide)
    refine ⟨.dead,_,qBP hT h2.symm hk hkt (p:=True) (id:=mid) (by simp [zN,zJ,hnk,hq]) trivial (q:=True) (s:=b1.data.toList) (by simp [St.arg,St.ev,jV,hs1,V.strip,V.pur]) trivial (q':=True) (v := .ptr jd o1) (by simp [zN,zJ,hnk,hp]) trivial (ks:=dl (L 4) b1.data.toList++dl (L 8) b2.data.toList++dl (L 12) b3.data.toList++dl (L 16) b4.data.toList) (vs:=dl (L 4) (.ptr jd o1)++dl (L 8) (.ptr jd o2)++dl (L 12) (.ptr jd o3)++dl (L 16) (.ptr jd o4)) (by simp [zN,zO,hq]) (by rw [hLi]; cases L 8 <;> cases L 12 <;> cases L 16 <;> simp [*]),fun L' h' => ?_⟩
    rw [hLL L' h',← h1]
    refine fin _ _ (dl (L 4) b1.data.toList++dl (L 8) b2.data.toList++dl (L 12) b3.data.toList++dl (L 16) b4.data.toList++[b1.data.toList]) (dl (L 4) (.ptr jd o1)++dl (L 8) (.ptr jd o2)++dl (L 12) (.ptr jd o3)++dl (L 16) (.ptr jd o4)++[.ptr jd o1]) (by simp [hq]) (by simp [St.put,zN,hq,zQ]) ?_ ?_
    ·rw [hLi]; cases L 8 <;> cases L 12 <;> cases L 16 <;> simp
    rw [hLi]; cases L 8 <;> cases L 12 <;> cases L 16 <;> simp
   ·simp only [qCD,List.getElem?_cons_succ,List.getElem?_cons_zero,Option.some.injEq,Prod.mk.injEq] at hop
    obtain ⟨h1,h2⟩:=hop
    have hp:=hE' 7 (by decide)
    have hq:=hE' 0 (by decide)
    refine ⟨.dead,_,qBP hT h2.symm hk hkt (p:=True) (id:=mid) (by simp [zN,zJ,hnk,hq]) trivial (q:=True) (s:=b2.data.toList) (by simp [St.arg,St.ev,jV,hs2,V.strip,V.pur]) trivial (q':=True) (v := .ptr jd o2) (by simp [zN,zJ,hnk,hp]) trivial (ks:=dl (L 4) b1.data.toList++dl (L 8) b2.data.toList++dl (L 12) b3.data.toList++dl (L 16) b4.data.toList) (vs:=dl (L 4) (.ptr jd o1)++dl (L 8) (.ptr jd o2)++dl (L 12) (.ptr jd o3)++dl (L 16) (.ptr jd o4)) (by simp [zN,zO,hq]) (by rw [hLi]; cases L 4 <;> cases L 12 <;> cases L 16 <;> simp [*]),fun L' h' => ?_⟩
    rw [hLL L' h',← h1]
    refine fin _ _ (dl (L 4) b1.data.toList++dl (L 8) b2.data.toList++dl (L 12) b3.data.toList++dl (L 16) b4.data.toList++[b2.data.toList]) (dl (L 4) (.ptr jd o1)++dl (L 8) (.ptr jd o2)++dl (L 12) (.ptr jd o3)++dl (L 16) (.ptr jd o4)++[.ptr jd o2]) (by simp [hq]) (by simp [St.put,zN,hq,zQ]) ?_ ?_
    ·rw [hLi]; cases L 4 <;> cases L 12 <;> cases L 16 <;> simp
    rw [hLi]; cases L 4 <;> cases L 12 <;> cases L 16 <;> simp
   ·simp only [qCD,List.getElem?_cons_succ,List.getElem?_cons_zero,Option.some.injEq,Prod.mk.injEq] at hop
    obtain ⟨h1,h2⟩:=hop
    have hp:=hE' 11 (by decide)
    have hq:=hE' 0 (by decide)
    refine ⟨.dead,_,qBP hT h2.symm hk hkt (p:=True) (id:=mid) (by simp [zN,zJ,hnk,hq]) trivial (q:=True) (s:=b3.data.toList) (by simp [St.arg,St.ev,jV,hs3,V.strip,V.pur]) trivial (q':=True) (v := .ptr jd o3) (by simp [zN,zJ,hnk,hp]) trivial (ks:=dl (L 4) b1.data.toList++dl (L 8) b2.data.toList++dl (L 12) b3.data.toList++dl (L 16) b4.data.toList) (vs:=dl (L 4) (.ptr jd o1)++dl (L 8) (.ptr jd o2)++dl (L 12) (.ptr jd o3)++dl (L 16) (.ptr jd o4)) (by simp [zN,zO,hq]) (by rw [hLi]; cases L 4 <;> cases L 8 <;> cases L 16 <;> simp [*]),fun L' h' => ?_⟩
    rw [hLL L' h',← h1]
    refine fin _ _ (dl (L 4) b1.data.toList++dl (L 8) b2.data.toList++dl (L 12) b3.data.toList++dl (L 16) b4.data.toList++[b3.data.toList]) (dl (L 4) (.ptr jd o1)++dl (L 8) (.ptr jd o2)++dl (L 12) (.ptr jd o3)++dl (L 16) (.ptr jd o4)++[.ptr jd o3]) (by simp [hq]) (by simp [St.put,zN,hq,zQ]) ?_ ?_
    ·rw [hLi]; cases L 4 <;> cases L 8 <;> cases L 16 <;> simp
    rw [hLi]; cases L 4 <;> cases L 8 <;> cases L 16 <;> simp
   simp only [qCD,List.getElem?_cons_succ,List.getElem?_cons_zero,Option.some.injEq,Prod.mk.injEq] at hop
   obtain ⟨h1,h2⟩:=hop
   have hp:=hE' 15 (by decide)
   have hq:=hE' 0 (by decide)
   refine ⟨.dead,_,qBP hT h2.symm hk hkt (p:=True) (id:=mid) (by simp [zN,zJ,hnk,hq]) trivial (q:=True) (s:=b4.data.toList) (by simp [St.arg,St.ev,jV,hs4,V.strip,V.pur]) trivial (q':=True) (v := .ptr jd o4) (by simp [zN,zJ,hnk,hp]) trivial (ks:=dl (L 4) b1.data.toList++dl (L 8) b2.data.toList++dl (L 12) b3.data.toList++dl (L 16) b4.data.toList) (vs:=dl (L 4) (.ptr jd o1)++dl (L 8) (.ptr jd o2)++dl (L 12) (.ptr jd o3)++dl (L 16) (.ptr jd o4)) (by simp [zN,zO,hq]) (by rw [hLi]; cases L 4 <;> cases L 8 <;> cases L 12 <;> simp [*]),fun L' h' => ?_⟩
   rw [hLL L' h',← h1]
   refine fin _ _ (dl (L 4) b1.data.toList++dl (L 8) b2.data.toList++dl (L 12) b3.data.toList++dl (L 16) b4.data.toList++[b4.data.toList]) (dl (L 4) (.ptr jd o1)++dl (L 8) (.ptr jd o2)++dl (L 12) (.ptr jd o3)++dl (L 16) (.ptr jd o4)++[.ptr jd o4]) (by simp [hq]) (by simp [St.put,zN,hq,zQ]) ?_ ?_
   ·rw [hLi]; cases L 4 <;> cases L 8 <;> cases L 12 <;> simp
   rw [hLi]; cases L 4 <;> cases L 8 <;> cases L 12 <;> simp
  ·subst h
   simp only [qCD,List.getElem?_cons_succ,List.getElem?_cons_zero,Option.some.injEq,Prod.mk.injEq] at hop
   obtain ⟨h1,h2⟩:=hop
   have hp:=hE' 0 (by decide)
   refine ⟨.ms mid,_,jS hT (orc:=[]) (orc':=[]) (v:=True) (by rw [← h2]; simp [yX,zN,zJ,hnk,hp]) trivial,fun L' h'=>xH.of ?_⟩
   rw [hLL L' h',← h1]
   exact ⟨by simp [St.put,zN,qDF],rfl,by simp [St.put,zN],hndp _⟩
  subst h
  simp only [qCD,List.getElem?_cons_succ,List.getElem?_cons_zero,Option.some.injEq,Prod.mk.injEq] at hop
  obtain ⟨h1,h2⟩:=hop
  have hp:=hE' 17 (by decide)
  refine ⟨.ms mid,_,jS hT (orc:=[]) (orc':=[]) (v:=True) (by rw [← h2]; simp [yX,zN,zJ,hnk,hp]) trivial,fun L' h'=>xH.of ?_⟩
  rw [hLL L' h',← h1]
  exact ⟨by simp [St.put,zN,qDF],rfl,by simp [St.put,zN],hndp _⟩
 rw [hX L (fun _=>true) (fun j hj=>hL j (by omega))]
 refine AW.weaken ?_ hend
 refine ⟨?_,rfl, ?_, ?_⟩
 ·exact qJ (by simp)
 ·simp [zN]
 have:=qJM (n:=n) (jd:=jd) (o1:=o1) (o2:=o2) (o3:=o3) (o4:=o4) (bs:=bs) (k1:=b1.data.toList) (k2:=b2.data.toList) (k3:=b3.data.toList) (k4:=b4.data.toList) (ps:=ps) (fun _=>true) hH0 hky
 simpa [zN] using this
end
end Go.Proofs.YtlmedakhioiahaaGreatDoor.Sy
namespace Go.Proofs.YtlmedakhioiahaaGreatDoor
open Sy Go
set_option maxRecDepth 100000
set_option linter.unusedSimpArgs false
set_option linter.unusedVariables false
structure Dc where
 neg:Bool
 digits:List UInt8
 scale:Int
 deriving DecidableEq
@[simp] def Dc.enc (d:Dc):PD := .agg [.bool d.neg,.str d.digits,.int .i64 d.scale]
inductive Val where
 | mk (kind mask:Int) (num:Dc) (text:List UInt8) (keys:List (List UInt8)) (kids:List Val) (code:Int)
def Val.kind:Val→Int
 | .mk k _ _ _ _ _ _=>k
def Val.mask:Val→Int
 | .mk _ m _ _ _ _ _=>m
def Val.num:Val→Dc
 | .mk _ _ n _ _ _ _=>n
def Val.text:Val→List UInt8
 | .mk _ _ _ t _ _ _=>t
def Val.keys:Val→List (List UInt8)
 | .mk _ _ _ _ ks _ _=>ks
def Val.kids:Val→List Val
 | .mk _ _ _ _ _ vs _=>vs
def Val.code:Val→Int
 | .mk _ _ _ _ _ _ c=>c
@[simp] theorem Val.kind_mk (k m:Int) (n:Dc) (t:List UInt8) (ks:List (List UInt8)) (vs:List Val) (c:Int):(Val.mk k m n t ks vs c).kind=k:=rfl
@[simp] theorem Val.mask_mk (k m:Int) (n:Dc) (t:List UInt8) (ks:List (List UInt8)) (vs:List Val) (c:Int):(Val.mk k m n t ks vs c).mask=m:=rfl
@[simp] theorem Val.num_mk (k m:Int) (n:Dc) (t:List UInt8) (ks:List (List UInt8)) (vs:List Val) (c:Int):(Val.mk k m n t ks vs c).num=n:=rfl
@[simp] theorem Val.text_mk (k m:Int) (n:Dc) (t:List UInt8) (ks:List (List UInt8)) (vs:List Val) (c:Int):(Val.mk k m n t ks vs c).text=t:=rfl
@[simp] theorem Val.keys_mk (k m:Int) (n:Dc) (t:List UInt8) (ks:List (List UInt8)) (vs:List Val) (c:Int):(Val.mk k m n t ks vs c).keys=ks:=rfl
@[simp] theorem Val.kids_mk (k m:Int) (n:Dc) (t:List UInt8) (ks:List (List UInt8)) (vs:List Val) (c:Int):(Val.mk k m n t ks vs c).kids=vs:=rfl
@[simp] theorem Val.code_mk (k m:Int) (n:Dc) (t:List UInt8) (ks:List (List UInt8)) (vs:List Val) (c:Int):(Val.mk k m n t ks vs c).code=c:=rfl
mutual
def Val.enc:Val→PD
 | .mk k m n t ks vs c => .agg [.int .i64 k,.int .u64 m,.bool n.neg,.str n.digits,.int .i64 n.scale,.str t,.sl 1 (ks.map PD.str),.sl 9 (Val.encL vs),.int .i64 c]
def Val.encL:List Val→List PD
 | []=>[]
 | v::vs=>Val.enc v::Val.encL vs
end
def dc0:Dc:=⟨false,[],0⟩
theorem Val.encL_map:∀ l,Val.encL l=l.map Val.enc
 | []=>by simp only [Val.encL,List.map_nil]
 | v::vs=>by simp only [Val.encL,List.map_cons,Val.encL_map vs]
@[simp] theorem Val.enc_def (v:Val):v.enc = .agg [.int .i64 v.kind,.int .u64 v.mask,.bool v.num.neg,.str v.num.digits,.int .i64 v.num.scale,.str v.text,.sl 1 (v.keys.map PD.str),.sl 9 (v.kids.map Val.enc),.int .i64 v.code]:=by
 cases v; simp only [Val.enc,Val.encL_map,Val.kind,Val.mask,Val.num,Val.text,Val.keys,Val.kids,Val.code]
mutual
def Val.sz:Val→Nat
 | .mk _ _ _ _ _ vs _=>1+Val.szL vs
def Val.szL:List Val→Nat
 | []=>0
 | v::vs=>Val.sz v+Val.szL vs
end
theorem Val.szL_mem {k:Val}:∀ {l:List Val},k∈l→Val.sz k≤Val.szL l
 | v::vs,h=>by
  simp only [Val.szL]
  rcases List.mem_cons.1 h with rfl | h
  ·omega
  have:=Val.szL_mem h; omega
theorem Val.sz_kid {v k:Val} (h:k∈v.kids):Val.sz k<Val.sz v:=by
 cases v; simp only [Val.kids] at h; simp only [Val.sz]; have:=Val.szL_mem h; omega
theorem Val.induct {p:Val→Prop} (h:∀ v,(∀ k∈v.kids,p k)→p v) (v:Val):p v:=by
 have key:∀ n v,Val.sz v=n→p v:=by
  intro n
  induction n using Nat.strongRecOn with
  | _ n ih=>intro v hv; exact h v fun k hk=>ih _ (hv ▸ Val.sz_kid hk) k rfl
 exact key _ v rfl
theorem Val.ext {a b:Val} (h1:a.kind=b.kind) (h2:a.mask=b.mask) (h3:a.num=b.num) (h4:a.text=b.text) (h5:a.keys=b.keys) (h6:a.kids=b.kids) (h7:a.code=b.code):a=b:=by
 cases a; cases b; simp_all [Val.kind,Val.mask,Val.num,Val.text,Val.keys,Val.kids,Val.code]
theorem Dc.ext' {a b:Dc} (h1:a.neg=b.neg) (h2:a.digits=b.digits) (h3:a.scale=b.scale):a=b:=by cases a; cases b; simp_all
set_option maxHeartbeats 4000000
variable {G:qO}
structure Jb where
 p:List UInt8
 f:List UInt8
 i:List UInt8
 n:List UInt8
 a:Int
 b:Int
 c:Int
 d:Int
@[simp] def Jb.pds (j:Jb):List PD:=[.str j.p,.str j.f,.str j.i,.str j.n,.int .i64 j.a,.int .i64 j.b,.int .i64 j.c,.int .i64 j.d]
@[simp] def Jb.cells (j:Jb):List V:=j.pds.map .p
@[simp] def Jb.enc (j:Jb):PD := .agg j.pds
def zS:List (List UInt8):=[[112,111,108,105,99,121],[102,105,108,116,101,114],[105,110,112,117,116],[110,97,109,101,115]]
def wX:List (List UInt8):=[[108,111,103,114,111,111,109],[108,111,103,99,114,97,115,104],[111,117,116,114,111,111,109],[111,117,116,99,114,97,115,104]]
def wR:List (List UInt8):=zS++wX
theorem qNE  : AFn Tryz.prog G 13 [] (.sl 1 (wR.map PD.str)):=by
 refine AFn.introU tok Tryz.func13 (by kernel_rfl) rfl rfl ?_
 simp only [Tryz.f13,qR,List.map_cons,List.map_nil]
 refine rgn [] [[2]] ?_
 refine op1 tok ?_
 refine qA (rgn [.str [112,111,108,105,99,121],.str [102,105,108,116,101,114],.str [105,110,112,117,116],.str [110,97,109,101,115],.str [108,111,103,114,111,111,109],.str [108,111,103,99,114,97,115,104],.str [111,117,116,114,111,111,109],.str [111,117,116,99,114,97,115,104]] [[],[0]] ?_)
 iterate 2 refine op1 tok ?_
 refine qA ?_
 exact AW.ret (qZ (k:=by simp [wR,zS,wX]))
theorem qPN (jd:Nat) (cs:List V) (hjd:jd≠703) (hcs:V.noRefL 703 cs=true):AX Tryz.prog G 18 [.ptr jd 0] [(jd,.vars 23 cs)] (.ms 703) [jd] [(703,.mpx zS [.ptr jd 0,.ptr jd 1,.ptr jd 2,.ptr jd 3]),(jd,.vars 23 cs)]:=by
 refine AX.introU tok 700 Tryz.func18 (by kernel_rfl) rfl rfl ?_
 simp only [Tryz.f18,qR,List.map_cons,List.map_nil]
 unfold zS
 refine rgn [] [[0]] ?_
 refine op1 tok ?_
 refine qA ?_
 refine AW.mapLit tok mixed (n:=17) (jd:=jd) (mid:=703) (bs:=700) (o1:=0) (o2:=1) (o3:=2) (o4:=3) (ps:=[jd]) (H0:=[(jd,.vars 23 cs)]) (by omega) rfl rfl (by decide) (by rfl) (by rfl) (by rfl) (by intro st s h; simp only [yX]; rw [h]; conv=>lhs; simp) (by intro st s h; simp only [yX]; rw [h]; conv=>lhs; simp) (by intro st s h; simp only [yX]; rw [h]; conv=>lhs; simp) (by intro st s h; simp only [yX]; rw [h]; conv=>lhs; simp) (by decide) (by decide) (by decide) (by decide) (by decide) hjd (by simpa using Ne.symm hjd) (by simp [yU,Box.noRef,hcs]) (by simp [qM,hjd]) ⟨by simp only [zN,qKE]; exact qJ (by simp),rfl,by simp [zN],by simp [zN]⟩ (by simp) ?_
 exact AW.ret (zI (k:=by simp) (c:=by simp [Ne.symm hjd]))
theorem qJF (jd:Nat) (cs:List V) (hjd:jd≠713) (hcs:V.noRefL 713 cs=true):AX Tryz.prog G 20 [.ptr jd 0] [(jd,.vars 23 cs)] (.ms 713) [jd] [(713,.mpx wX [.ptr jd 4,.ptr jd 5,.ptr jd 6,.ptr jd 7]),(jd,.vars 23 cs)]:=by
 refine AX.introU tok 710 Tryz.func20 (by kernel_rfl) rfl rfl ?_
 simp only [Tryz.f20,qR,List.map_cons,List.map_nil]
 unfold wX
 refine rgn [] [[0]] ?_
 refine op1 tok ?_
 refine qA ?_
 refine AW.mapLit tok mixed (n:=17) (jd:=jd) (mid:=713) (bs:=710) (o1:=4) (o2:=5) (o3:=6) (o4:=7) (ps:=[jd]) (H0:=[(jd,.vars 23 cs)]) (by omega) rfl rfl (by decide) (by rfl) (by rfl) (by rfl) (by intro st s h; simp only [yX]; rw [h]; conv=>lhs; simp) (by intro st s h; simp only [yX]; rw [h]; conv=>lhs; simp) (by intro st s h; simp only [yX]; rw [h]; conv=>lhs; simp) (by intro st s h; simp only [yX]; rw [h]; conv=>lhs; simp) (by decide) (by decide) (by decide) (by decide) (by decide) hjd (by simpa using Ne.symm hjd) (by simp [yU,Box.noRef,hcs]) (by simp [qM,hjd]) ⟨by simp only [zN,qKE]; exact qJ (by simp),rfl,by simp [zN],by simp [zN]⟩ (by simp) ?_
 exact AW.ret (zI (k:=by simp) (c:=by simp [Ne.symm hjd]))
def kG (n:Int):Bool:=decide (48≤n) && decide (n≤57)
def qI (b:UInt8):Bool:=kG b.toNat
def uO (D:List UInt8):Nat:=D.foldl (fun n c=>n * 10+(c.toNat-48)) 0
def qS (s:List UInt8) (i:Nat):Int:=((s.getD i 0).toNat:Int)
theorem qDM {s:List UInt8} {i:Nat} (h:i<s.length):s[i]?=some (s.getD i 0):=by simp [List.getD_eq_getElem?_getD,h]
def wQ (s:List UInt8) (k:Nat):Nat:=((s.drop k).takeWhile fun b=>kG b.toNat).length
theorem qDW {p:UInt8→Bool}:∀ {l:List UInt8} {n:Nat},n≤(l.takeWhile p).length→((n<(l.takeWhile p).length)↔∃ b,l[n]?=some b∧p b=true)
 | [],n,h=>by simp at h; subst h; simp
 | a::l,n,h=>by
  rw [List.takeWhile_cons] at h ⊢
  by_cases ha:p a=true
  ·rw [if_pos ha] at h ⊢
   cases n with
   | zero=>simp [ha]
   | succ n=>simpa using qDW (l:=l) (n:=n) (by simpa using h)
  rw [if_neg ha] at h ⊢
  simp at h; subst h
  simp [ha]
theorem zDG {s:List UInt8} {k n:Nat} (h:n≤wQ s k):n<wQ s k↔(k+n<s.length∧kG (qS s (k+n))=true):=by
 unfold wQ at h ⊢
 rw [qDW h]
 constructor
 ·rintro ⟨b,hb,hd⟩
  rw [List.getElem?_drop] at hb
  have:=(List.getElem?_eq_some_iff.1 hb).1
  refine ⟨this, ?_⟩
  rw [qS,List.getD_eq_getElem?_getD,hb]; exact hd
 rintro ⟨h1,h2⟩
 exact ⟨s.getD (k+n) 0,by rw [List.getElem?_drop]; exact qDM h1,h2⟩
def wB (n:Nat):List UInt8:=List.replicate n 48
def zB (s:List UInt8):List UInt8:=s.dropWhile (· == 48)
def kX (d:List UInt8):Nat→List UInt8 × Nat
 | 0=>(d,0)
 | k+1=>if d.getLast?=some 48 then kX d.dropLast k else (d,k+1)
def yH (neg:Bool) (digits:List UInt8) (scale:Nat):Dc × Int :=
 let x:=kX (zB digits) scale
 if x.1=[] then (⟨false,[48],0⟩,0) else if 60<x.1.length∨60<x.2 then (⟨false,[],0⟩,3) else (⟨neg,x.1,x.2⟩,0)
theorem qHB {d:List UInt8} (h:0<d.length):qS d (d.length-1)=48↔d.getLast?=some 48:=by
 rw [List.getLast?_eq_getElem?,qS,List.getD_eq_getElem?_getD,qDM (by omega)]
 simp only [Option.getD_some,Option.some.injEq]
 constructor
 ·intro h2; exact UInt8.toNat_inj.1 (by have:((d.getD (d.length-1) 0).toNat:Int)=48:=h2; show (d.getD (d.length-1) 0).toNat=48; omega)
 intro h2; rw [h2]; rfl
theorem qFI (d:List UInt8):d.take (d.length-1)=d.dropLast:=(List.dropLast_eq_take).symm
def kL (u:Nat):List UInt8:=if h:u=0 then [] else kL (u / 10)++[UInt8.ofNat (48+u % 10)]
termination_by u
decreasing_by omega
theorem uJ:kL 0=[]:=by rw [kL]; simp
theorem qEQ {u:Nat} (h:0<u):kL u=kL (u / 10)++[UInt8.ofNat (48+u % 10)]:=by rw [kL]; rw [dif_neg (by omega)]
theorem qBC:∀ k u:Nat,u<10 ^ k→(kL u).length≤k
 | 0,u,h=>by
  have:u=0:=by simpa using h
  subst this; rw [uJ]; simp
 | k+1,u,h=>by
  rcases Nat.eq_zero_or_pos u with h0 | h0
  ·subst h0; rw [uJ]; simp
  rw [qEQ h0,List.length_append,List.length_singleton]
  have:=qBC k (u / 10) (by rw [Nat.pow_succ] at h; omega)
  omega
def vB (n:Int):Dc:=(yH (decide (n<0)) (kL n.natAbs) 0).1
def qKW (l:List UInt8) (k:Nat):List UInt8:=(List.range l.length).map fun i=>if i<k∨l.length-k≤i then l.getD (l.length-1-i) 0 else l.getD i 0
theorem vZ (l:List UInt8) (k:Nat):(qKW l k).length=l.length:=by simp [qKW]
theorem uA (l:List UInt8) (k:Nat) {i:Nat} (h:i<l.length):(qKW l k)[i]?=some (if i<k∨l.length-k≤i then l.getD (l.length-1-i) 0 else l.getD i 0):=by
 simp [qKW,h]
theorem qBJ (L:List UInt8) (i:Nat) (b:UInt8):(qH L).set i (.int .u8 b.toNat)=qH (L.set i b):=by unfold qH; rw [List.map_set]
theorem qWU (l:List UInt8):qKW l 0=l:=by
 apply List.ext_getElem?
 intro i
 by_cases h:i<l.length
 ·rw [uA l 0 h,if_neg (by omega),List.getD_eq_getElem?_getD,List.getElem?_eq_getElem h]; rfl
 rw [List.getElem?_eq_none (by rw [vZ]; omega),List.getElem?_eq_none (by omega)]
theorem qZO (l:List UInt8) {k:Nat} (h:l.length≤2 * k+1):qKW l k=l.reverse:=by
 apply List.ext_getElem?
 intro i
 by_cases hi:i<l.length
 ·rw [uA l k hi,List.getElem?_reverse hi]
  have h1:l[l.length-1-i]?=some (l[l.length-1-i]'(by omega)):=List.getElem?_eq_getElem _
  rw [h1]
  congr 1
  split
  ·rw [List.getD_eq_getElem?_getD,h1]; rfl
  have h2:l[i]?=some (l[l.length-1-i]'(by omega)):=by rw [← h1]; congr 1; omega
  rw [List.getD_eq_getElem?_getD,h2]; rfl
 rw [List.getElem?_eq_none (by rw [vZ]; omega),List.getElem?_eq_none (by rw [List.length_reverse]; omega)]
theorem qWV (l:List UInt8) {k:Nat} (h:2 * k+1<l.length):((qKW l k).set k (l.getD (l.length-1-k) 0)).set (l.length-1-k) (l.getD k 0)=qKW l (k+1):=by
 apply List.ext_getElem?
 intro i
 by_cases hi:i<l.length
 ·rw [uA l (k+1) hi,List.getElem?_set,List.getElem?_set]
  simp only [List.length_set,vZ]
  by_cases h1:l.length-1-k=i
  ·subst h1
   rw [if_pos rfl,if_pos (by omega),if_pos (.inr (by omega)),show l.length-1-(l.length-1-k)=k by omega]
  rw [if_neg h1]
  by_cases h2:k=i
  ·subst h2
   rw [if_pos rfl,if_pos (by omega),if_pos (.inl (by omega))]
  rw [if_neg h2,uA l k hi]
  congr 1
  by_cases h3:i<k∨l.length-k≤i
  ·rw [if_pos h3,if_pos (by omega)]
  rw [if_neg h3,if_neg (by omega)]
 rw [List.getElem?_eq_none (by simp [vZ]; omega),List.getElem?_eq_none (by rw [vZ]; omega)]
theorem qEU {s:List UInt8} {pos:Nat} (h:pos<s.length):1≤(xM s pos).2:=Lib.decode_width_pos _ _ (by simpa [ByteArray.size] using h)
theorem qKD {s:List UInt8} {pos:Nat} (h:pos<s.length) (ha:(s.getD pos 0).toNat<128):xM s pos=((s.getD pos 0).toNat,1):=by
 have hs:pos<(⟨s.toArray⟩:ByteArray).size:=by simpa [ByteArray.size] using h
 have e:(⟨s.toArray⟩:ByteArray)[pos]'hs=s.getD pos 0:=by simp [List.getD_eq_getElem?_getD,h]; rfl
 unfold xM
 rw [decode_ascii _ _ hs (by rw [e]; exact ha),e]
theorem zBC {s:List UInt8} {pos:Nat} (h:pos<s.length) (ha:128≤(s.getD pos 0).toNat):128≤(xM s pos).1:=by
 have e:((⟨s.toArray⟩:ByteArray).get! (pos+0)).toNat=(s.getD pos 0).toNat:=by
  simp [ByteArray.get!,List.getD_eq_getElem?_getD,h]
 unfold xM Utf8.decode
 simp only [e]
 rw [if_neg (by omega)]
 split
 ·split
  ·simp only [ge_iff_le] at *; omega
  simp [Utf8.runeError]
 split
 ·split
  ·rename_i hc; simp only [ge_iff_le,Bool.and_eq_true,decide_eq_true_eq] at hc; omega
  simp [Utf8.runeError]
 split
 ·split
  ·rename_i hc; simp only [ge_iff_le,Bool.and_eq_true,decide_eq_true_eq] at hc; omega
  simp [Utf8.runeError]
 simp [Utf8.runeError]
def qJR (p:Int→Bool) (s:List UInt8):Nat→Nat→Int
 | 0,_ => -1
 | f+1,pos=>if pos<s.length then (if p (xM s pos).1 then (pos:Int) else qJR p s f (pos+(xM s pos).2)) else -1
def jQ (p:Int→Bool) (s:List UInt8):Int:=qJR p s (s.length+1) 0
theorem qMK (p:Int→Bool) (s:List UInt8):∀ (f g pos:Nat),s.length<pos+f→s.length<pos+g→qJR p s f pos=qJR p s g pos
 | 0,0,_,_,_=>rfl
 | 0,g+1,pos,h,_=>by simp only [qJR]; rw [if_neg (by omega)]
 | f+1,0,pos,_,h=>by simp only [qJR]; rw [if_neg (by omega)]
 | f+1,g+1,pos,hf,hg=>by
  simp only [qJR]
  by_cases h:pos<s.length
  ·rw [if_pos h,if_pos h]
   split
   ·rfl
   have:=qEU h
   exact qMK p s f g _ (by omega) (by omega)
  rw [if_neg h,if_neg h]
def qAK (p:Int→Bool) (s:List UInt8) (pos:Nat):Int:=qJR p s (s.length+1-pos) pos
theorem qML {p:Int→Bool} {s:List UInt8} {pos:Nat} (h:¬ pos<s.length):qAK p s pos = -1:=by
 unfold qAK; cases hf:s.length+1-pos with
 | zero=>rfl
 | succ f=>simp only [qJR]; rw [if_neg h]
theorem qFS {p:Int→Bool} {s:List UInt8} {pos:Nat} (h:pos<s.length) (hp:p (xM s pos).1=true):qAK p s pos=pos:=by
 unfold qAK; rw [show s.length+1-pos=(s.length-pos)+1 by omega]; simp only [qJR]; rw [if_pos h,if_pos hp]
theorem qJS {p:Int→Bool} {s:List UInt8} {pos:Nat} (h:pos<s.length) (hp:p (xM s pos).1=false):qAK p s pos=qAK p s (pos+(xM s pos).2):=by
 unfold qAK; rw [show s.length+1-pos=(s.length-pos)+1 by omega]; simp only [qJR]
 have:=qEU h
 rw [if_pos h,if_neg (by simp [hp])]; exact qMK p s _ _ _ (by omega) (by omega)
theorem qMJ (p:Int→Bool) (s:List UInt8):jQ p s=qAK p s 0:=by simp [jQ,qAK]
theorem qGU {p:Int→Bool} (hbig:∀ n:Int,128≤n→p n=true) (s:List UInt8):∀ (f pos:Nat),f=s.length-pos→pos≤s.length→qAK p s pos=if (s.drop pos).all (fun b => !p b.toNat) then -1 else ((pos+((s.drop pos).takeWhile fun b => !p b.toNat).length:Nat):Int)
 | 0,pos,hf,hp=>by
  rw [qML (by omega),List.drop_eq_nil_of_le (by omega)]; simp
 | f+1,pos,hf,hp=>by
  have hlt:pos<s.length:=by omega
  have hd:s.drop pos=s.getD pos 0::s.drop (pos+1):=by
   rw [List.drop_eq_getElem_cons hlt]; congr 1; simp [List.getD_eq_getElem?_getD,hlt]
  rw [hd]
  have hda0:=fun h=>qKD (s:=s) (pos:=pos) hlt h
  have hdb0:=fun h=>zBC (s:=s) (pos:=pos) hlt h
  clear hd
  generalize s.getD pos 0=c at *
  by_cases ha:c.toNat<128
  ·have hda:=hda0 ha
   cases hpb:p ((c.toNat:Nat):Int) with
   | true=>rw [qFS hlt (by rw [hda]; exact hpb)]; simp [hpb]
   | false =>
    rw [qJS hlt (by rw [hda]; exact hpb),hda,qGU hbig s f (pos+1) (by omega) (by omega)]
    simp only [List.all_cons,hpb,Bool.not_false,Bool.true_and,List.takeWhile_cons,if_true,List.length_cons]
    split <;> first | rfl | (congr 1; omega)
  have hb:=hdb0 (by omega)
  rw [qFS hlt (hbig _ (by omega))]
  have:p ((c.toNat:Nat):Int)=true:=hbig _ (by omega)
  simp [this]
theorem qEL {p:Int→Bool} (hbig:∀ n:Int,128≤n→p n=true) (s:List UInt8):jQ p s=if s.all (fun b => !p b.toNat) then -1 else (((s.takeWhile fun b => !p b.toNat).length:Nat):Int):=by
 rw [qMJ,qGU hbig s _ 0 rfl (by omega)]; simp
theorem qOK (s:List UInt8) (g:FuncId) (p:Int→Bool) (hg:∀ n:Int,AFn Tryz.prog G g [.int .i32 n] (.bool (p n))):AFn Tryz.prog G 161 [.str s,.fn g,.bool true] (.int .i64 (jQ p s)):=by
 refine AFn.introU tok Tryz.func161 (by kernel_rfl) rfl rfl ?_
 simp only [Tryz.f161,qR,List.map_cons,List.map_nil]
 refine rgn [] [[0,1,2]] ?_
 refine op1 tok ?_
 refine qA (AW.seq (rgn [] [[],[1,2,10]] ?_))
 iterate 2 refine op1 tok ?_
 refine qA (AW.block ?_)
 refine AW.loop (α:=Nat) (fun pos=>qAK p s pos=jQ p s) (fun pos=>⟨zR 21 [(1,.p (.fn g)),(2,.p (.bool true)),(10,.it 10)],[],[(10,.iter s pos)],0⟩) (fun pos=>s.length-pos) (0) (qMJ p s).symm ⟨qJ (by simp),rfl,by simp,by simp⟩ ?_
 rintro pos hi
 have hpos:pos<s.length→1≤(xM s pos).2:=qEU
 by_cases hs2:pos<s.length
 ·
  refine rgn [.bool true] [[],[]] ?_
  iterate 2 refine oq1 tok hs2 ?_
  refine qA (AW.seq (cnd ?_ ?_))
  ·intro h12
   try simp at h12
   refine AW.skip (AW.block (rgn [] [[],[],[],[1,2,7,8,10]] ?_))
   iterate 4 refine op1 tok ?_
   refine qA (rgn [.nilp,.bool (p (xM s pos).1)] [[],[],[],[],[1,2,7,10,19]] ?_)
   iterate 5 refine op1 tok ?_ (hv:=by first | with_reducible exact True.intro | (exact hg _; done) | omega | simp | (simp +contextual; omega))
   refine qA (cnd ?_ ?_)
   ·intro h19
    try simp at h19
    have hI:jQ p s=pos:=by rw [← hi,qFS hs2 (by simpa using h19)]
    refine rgn [] [[],[6]] ?_
    iterate 2 refine op1 tok ?_
    refine qA ?_
    exact AW.ret (qZ (k:=by simp [hI]))
   intro h19
   try simp at h19
   have hnx:qAK p s (pos+(xM s pos).2)=jQ p s:=by rw [← qJS hs2 (by simpa using h19)]; exact hi
   refine AW.skip ?_
   exact ⟨pos+(xM s pos).2,hnx,by have:=hpos hs2; omega,qJ (by simp),rfl,by simp,by simp⟩
  intro h12
  try simp at h12
 ·
  refine rgn [.bool false] [[],[]] ?_
  iterate 2 refine oq1 tok hs2 ?_
  refine qA (AW.seq (cnd ?_ ?_))
  ·intro h12
   try simp at h12
  intro h12
  try simp at h12
  refine AW.exit ?_
  simp
  refine rgn [] [[]] ?_
  refine op1 tok ?_
  refine qA ?_
  exact AW.ret (qZ (k:=by simp [← hi,qML hs2]))
theorem qFC (s:List UInt8) (g:FuncId) (p:Int→Bool) (hg:∀ n:Int,AFn Tryz.prog G g [.int .i32 n] (.bool (p n))):AFn Tryz.prog G 135 [.str s,.fn g] (.int .i64 (jQ p s)):=by
 refine AFn.introU tok Tryz.func135 (by kernel_rfl) rfl rfl ?_
 simp only [Tryz.f135,qR,List.map_cons,List.map_nil]
 refine rgn [] [[0,1]] ?_
 refine op1 tok ?_
 refine qA (rgn [.nilp,.int .i64 (jQ p s)] [[],[],[7],[4]] ?_)
 iterate 4 refine op1 tok ?_ (hv:=by first | with_reducible exact True.intro | (exact qOK s g p hg; done) | omega | simp | (simp +contextual; omega))
 exact qA (AW.ret qZ)
theorem qHJ (s:List UInt8) (g:FuncId) (p:Int→Bool) (hg:∀ n:Int,AFn Tryz.prog G g [.int .i32 n] (.bool (p n))):AFn Tryz.prog G 101 [.str s,.fn g] (.bool (decide (0≤jQ p s))):=by
 refine AFn.introU tok Tryz.func101 (by kernel_rfl) rfl rfl ?_
 simp only [Tryz.f101,qR,List.map_cons,List.map_nil]
 refine rgn [] [[0,1]] ?_
 refine op1 tok ?_
 refine qA (rgn [.nilp,.int .i64 (jQ p s)] [[],[],[7],[],[4]] ?_)
 iterate 5 refine op1 tok ?_ (hv:=by first | with_reducible exact True.intro | (first | exact qFC s g p hg | simp; done) | omega | simp | (simp +contextual; omega))
 exact qA (AW.ret qZ)
def jG (n:Int):Bool:=decide (n<48) || decide (57<n)
theorem qQZ (n:Int):AFn Tryz.prog G 102 [.int .i32 n] (.bool (jG n)):=by
 refine AFn.introU tok Tryz.func102 (by kernel_rfl) rfl rfl ?_
 simp only [Tryz.f102,qR,List.map_cons,List.map_nil]
 refine rgn [] [[0]] ?_
 refine op1 tok ?_
 refine qA (rgn [] [[],[],[],[],[5,7],[],[2]] ?_)
 iterate 3 refine op1 tok ?_
 iterate 2 refine op2 tok ?_
 iterate 2 refine op1 tok ?_
 refine qA ?_
 exact AW.ret (qZ (k:=by simp [jG]))
theorem qLW (b:UInt8):jG b.toNat = !qI b:=by
 rw [Bool.eq_iff_iff]; simp [jG,qI,kG]
theorem qXF (s:List UInt8):decide (0≤jQ jG s) = !s.all qI:=by
 rw [qEL (fun n h=>by simp [jG] <;> omega)]
 have:(s.all fun b => !jG b.toNat)=s.all qI:=by congr 1; funext b; rw [qLW]; simp
 rw [this]
 cases s.all qI
 ·simp
 simp
def zY (d:Dc):Bool:=d.digits.all qI && decide (1≤d.digits.length∧d.digits.length≤60∧0≤d.scale∧d.scale≤60) &&
 (if d.digits=[48] then decide (d.scale=0) && !d.neg else decide (qS d.digits 0≠48) && (decide (d.scale=0) || decide (qS d.digits (d.digits.length-1)≠48)))
theorem zBE {d:Dc} (h:d.digits.length=0∨60<d.digits.length∨d.scale<0∨60<d.scale∨d.digits.all qI=false):zY d=false:=by
 unfold zY
 rcases h with h | h | h | h | h
 ·rw [show decide (1≤d.digits.length∧d.digits.length≤60∧0≤d.scale∧d.scale≤60)=false by simp; omega]; simp
 ·rw [show decide (1≤d.digits.length∧d.digits.length≤60∧0≤d.scale∧d.scale≤60)=false by simp; omega]; simp
 ·rw [show decide (1≤d.digits.length∧d.digits.length≤60∧0≤d.scale∧d.scale≤60)=false by simp; omega]; simp
 ·rw [show decide (1≤d.digits.length∧d.digits.length≤60∧0≤d.scale∧d.scale≤60)=false by simp; omega]; simp
 simp [h]
theorem qMV {d : Dc} (h : 1 ≤ d.digits.length ∧ d.digits.length ≤ 60 ∧ 0 ≤ d.scale ∧ d.scale ≤ 60) (ha : d.digits.all qI = true) :
  zY d=(if d.digits=[48] then decide (d.scale=0) && !d.neg else decide (qS d.digits 0≠48) && (decide (d.scale=0) || decide (qS d.digits (d.digits.length-1)≠48))):=by
 unfold zY; rw [ha,show decide (1≤d.digits.length∧d.digits.length≤60∧0≤d.scale∧d.scale≤60)=true by simpa using h]; simp
theorem zBF (d:Dc):AFn Tryz.prog G 68 [d.enc] (.bool (zY d)):=by
 refine AFn.introU tok Tryz.func68 (by kernel_rfl) rfl rfl ?_
 simp only [Tryz.f68,qR,List.map_cons,List.map_nil]
 have hoth:=qHJ (G:=G) d.digits 102 jG qQZ
 rw [qXF] at hoth
 have hix:∀ k:Nat,k<d.digits.length→d.digits[k]?=some (d.digits.getD k 0):=fun k h=>qDM h
 refine rgn [] [[],[1]] ?_
 iterate 2 refine op1 tok ?_
 refine qA (rgn [] [[],[],[],[1,3]] ?_)
 iterate 4 refine op1 tok ?_
 refine qA (AW.seq (AW.block (rgn [.nilp,.bool (!d.digits.all qI)] [[],[],[],[],[],[1,3,13],[],[],[],[],[1,3,18],[],[],[],[],[1,3,23],[],[],[],[],[1,3,28],[1,3,7]] ?_)))
 iterate 22 first | refine op1 tok ?_ (hv:=by first | with_reducible exact True.intro | (((repeat' (first | with_reducible apply And.intro | intro _)) <;> first | exact (hoth) | assumption | omega | contradiction | simp_all); done) | omega | simp | (simp +contextual; omega)) | refine op2 tok ?_ (hv:=by first | with_reducible exact True.intro | (((repeat' (first | with_reducible apply And.intro | intro _)) <;> first | exact (hoth) | assumption | omega | contradiction | simp_all); done) | omega | simp | (simp +contextual; omega))
 refine qA (cnd ?_ ?_)
 ·intro h7
  try simp at h7
  rw [← List.length_eq_zero_iff] at h7
  have hno:zY d=false:=zBE (by
   rcases h7 with h | h
   ·omega
   right; right; right; right; rw [List.all_eq_false]; obtain ⟨x,hx,h⟩:=h; exact ⟨x,hx,by simp [h]⟩)
  refine rgn [] [[]] ?_
  refine op1 tok ?_
  refine qA ?_
  exact AW.ret (qZ (k:=by simp [hno]))
 intro h7
 try simp at h7
 rw [← List.length_eq_zero_iff] at h7
 have hpos:0<d.digits.length:=by omega
 have hal:d.digits.all qI=true:=by simpa using h7.2
 rw [qMV (by omega) hal]
 refine rgn [] [[],[],[],[1,3,29]] ?_
 iterate 4 refine op1 tok ?_
 refine qA (cnd ?_ ?_)
 ·intro h29
  try simp at h29
  refine rgn [] [[],[],[],[],[36,37],[],[],[40],[2]] ?_
  iterate 4 refine op1 tok ?_
  iterate 3 refine op2 tok ?_
  iterate 2 refine op1 tok ?_
  refine qA ?_
  exact AW.ret (qZ (k:=by simp [h29]))
 intro h29
 try simp at h29
 refine AW.skip (rgn [.int .u8 (qS d.digits 0),.int .u8 (qS d.digits (d.digits.length-1))] [[],[],[],[],[1,3,45],[],[],[],[],[3,45,49,50],[],[],[],[45,49,54],[],[],[57],[2]] ?_)
 iterate 5 refine op1 tok ?_ (hv:=by first | with_reducible exact True.intro | (((repeat' (first | with_reducible apply And.intro | intro _)) <;> first | omega | assumption | contradiction | exact ⟨_,hix _ (by omega),rfl⟩ | simp_all); done) | omega | simp | (simp +contextual; omega))
 iterate 11 refine op2 tok ?_ (hv:=by first | with_reducible exact True.intro | (((repeat' (first | with_reducible apply And.intro | intro _)) <;> first | omega | assumption | contradiction | exact ⟨_,hix _ (by omega),rfl⟩ | simp_all); done) | omega | simp | (simp +contextual; omega))
 iterate 2 refine op1 tok ?_ (hv:=by first | with_reducible exact True.intro | (((repeat' (first | with_reducible apply And.intro | intro _)) <;> first | omega | assumption | contradiction | exact ⟨_,hix _ (by omega),rfl⟩ | simp_all); done) | omega | simp | (simp +contextual; omega))
 refine qA ?_
 exact AW.ret (qZ (k:=by simp [h29]))
def kN (s:List UInt8):Nat:=s.foldl (fun n b=>n * 10+(b.toNat-48)) 0
theorem qCA (b:UInt8):qI b=true↔48≤b.toNat∧b.toNat≤57:=by simp [qI,kG]; omega
theorem qHV (s:List UInt8):∀ n,s.foldl (fun n b=>n * 10+(b.toNat-48)) n=n * 10 ^ s.length+kN s:=by
 induction s with
 | nil=>intro n; simp [kN]
 | cons b s ih =>
  intro n
  have e:kN (b::s)=(b.toNat-48) * 10 ^ s.length+kN s:=by unfold kN; rw [List.foldl_cons,ih]; simp [kN]
  rw [List.foldl_cons,ih,e,List.length_cons,Nat.pow_succ,Nat.add_mul,Nat.mul_assoc,Nat.mul_comm 10,Nat.add_assoc]
theorem qBQ (b:UInt8) (s:List UInt8):kN (b::s)=(b.toNat-48) * 10 ^ s.length+kN s:=by
 unfold kN; rw [List.foldl_cons,qHV]; simp [kN]
theorem qPO (s t:List UInt8):kN (s++t)=kN s * 10 ^ t.length+kN t:=by
 unfold kN; rw [List.foldl_append,qHV]; rfl
theorem zCQ {s:List UInt8} (h:s.all qI=true):kN s<10 ^ s.length:=by
 induction s with
 | nil=>simp [kN]
 | cons b s ih =>
  simp only [List.all_cons,Bool.and_eq_true] at h
  have h1:=(qCA b).1 h.1
  have h2:=ih h.2
  rw [qBQ,List.length_cons,Nat.pow_succ]
  have:b.toNat-48≤9:=by omega
  have:=Nat.mul_le_mul_right (10 ^ s.length) this
  omega
theorem zBY {s:List UInt8} (h:s.all qI=true) (n:Nat):(s.take n).all qI=true:=by
 rw [List.all_eq_true] at h ⊢; exact fun b hb=>h b (List.mem_of_mem_take hb)
def wO (s p:List UInt8):Bool:=decide (p.length≤s.length) && decide (s.take p.length=p)
@[simp] theorem zCE (s p:List UInt8):AFn Tryz.prog G 115 [.str s,.str p] (.bool (wO s p)):=by
 refine AFn.intro tok Tryz.func115 (by kernel_rfl) rfl ?_
 simp only [Tryz.f115,St.start]
 refine AW.seqRun tok [] (by intro C; conv=>lhs; simp) trivial ?_
 refine AW.seqRun tok [] (by intro C; conv=>lhs; simp) (by simp +contextual) ?_
 exact AW.ret ⟨.inr rfl,_,_,by (conv=>lhs; simp),trivial,by simp [wO]⟩
@[simp] theorem qPJ (s p:List UInt8):AFn Tryz.prog G 81 [.str s,.str p] (.bool (wO s p)):=by
 refine AFn.intro tok Tryz.func81 (by kernel_rfl) rfl ?_
 simp only [Tryz.f81,St.start]
 refine AW.seqRun tok [] (by intro C; conv=>lhs; simp) trivial ?_
 refine AW.seqRun tok [.tup [.str s,.str p],.bool (wO s p)] (by intro C; conv=>lhs; simp) (by simp) ?_
 exact AW.ret ⟨.inr rfl,_,_,by (conv=>lhs; simp),trivial,by simp⟩
def jR (s p:List UInt8):List UInt8:=if wO s p then s.drop p.length else s
@[simp] theorem zCF (s p:List UInt8):AFn Tryz.prog G 142 [.str s,.str p] (.tup [.str (jR s p),.bool (wO s p)]):=by
 refine AFn.intro tok Tryz.func142 (by kernel_rfl) rfl ?_
 simp only [Tryz.f142,St.start]
 refine AW.seqRun tok [] (by intro C; conv=>lhs; simp) trivial ?_
 refine AW.seq ?_
 refine AW.seqRun tok [.tup [.str s,.str p],.bool (wO s p)] (by intro C; conv=>lhs; simp) (by simp) ?_
 refine AW.cond (c := .tmp 9) (by conv=>lhs; simp) trivial ?_ ?_
 ·intro h1
  simp at h1
  refine AW.seqRun tok [] (by intro C; conv=>lhs; simp) trivial ?_
  exact AW.ret ⟨.inr rfl,_,_,by (conv=>lhs; simp),trivial,by simp [jR,h1]⟩
 intro h1
 simp at h1
 refine AW.skip ?_
 refine AW.seqRun tok [] (by intro C; conv=>lhs; simp) (by simp [wO] at h1 ⊢; omega) ?_
 exact AW.ret ⟨.inr rfl,_,_,by (conv=>lhs; simp),trivial,by simp [jR,h1]⟩
@[simp] theorem qAF (s p:List UInt8):AFn Tryz.prog G 110 [.str s,.str p] (.tup [.str (jR s p),.bool (wO s p)]):=by
 refine AFn.intro tok Tryz.func110 (by kernel_rfl) rfl ?_
 simp only [Tryz.f110,St.start]
 refine AW.seqRun tok [] (by intro C; conv=>lhs; simp) trivial ?_
 refine AW.seqRun tok [.tup [.str s,.str p],.tup [.str (jR s p),.bool (wO s p)]] (by intro C; conv=>lhs; simp) (by simp) ?_
 exact AW.ret ⟨.inr rfl,_,_,by (conv=>lhs; simp),trivial,by simp⟩
theorem zJY:zFJ Tryz.prog 170 Extern.BytealgIndexByte.indexByte:=fun args w=>run_callFunc_extern Tryz.func170 (by kernel_rfl) (by kernel_rfl) (by kernel_rfl) (by kernel_rfl) args w
@[simp] theorem zCD (s:List UInt8) (n:Int):AFn Tryz.prog G 165 [.str s,.int .u8 n] (.int .i64 (Lib.indexByte s n.toNat.toUInt8)):=by
 refine AFn.intro tok Tryz.func165 (by kernel_rfl) rfl ?_
 simp only [Tryz.f165,St.start]
 refine AW.seqRun tok [] (by intro C; conv=>lhs; simp) trivial ?_
 refine AW.seqRunX tok 2 [] [] rfl rfl (by intro C; conv=>lhs; simp) trivial (qPL (s:=s) (n:=n) (p:=True) (q:=True) (r:=True) zJY rfl (by simp) trivial (by simp) trivial (by simp) trivial) (by intro C; conv=>lhs; simp) trivial ?_
 exact AW.ret ⟨.inr rfl,_,_,by (conv=>lhs; simp),trivial,by simp⟩
@[simp] theorem qFD (s:List UInt8) (n:Int):AFn Tryz.prog G 146 [.str s,.int .u8 n] (.int .i64 (Lib.indexByte s n.toNat.toUInt8)):=by
 refine AFn.intro tok Tryz.func146 (by kernel_rfl) rfl ?_
 simp only [Tryz.f146,St.start]
 refine AW.seqRun tok [] (by intro C; conv=>lhs; simp) trivial ?_
 refine AW.seqRun tok [.tup [.str s,.int .u8 n],.int .i64 (Lib.indexByte s n.toNat.toUInt8)] (by intro C; conv=>lhs; simp) (by simp) ?_
 exact AW.ret ⟨.inr rfl,_,_,by (conv=>lhs; simp),trivial,by simp⟩
def asF (cs:List UInt8) (i:Nat):Bool:=cs.any fun b=>b.toNat == i
theorem zBV (cs:List UInt8) (c:UInt8) (n:Nat):kQ n (fun k=>decide (k=c.toNat) || asF cs k)=kQ n (asF (cs++[c])):=qSX fun i _=>by
 by_cases h:i=c.toNat
 ·simp [asF,h]
 simp [asF,h,Ne.symm h]
def asS (cs:List UInt8) (a:Nat):St:=⟨[.p (.str cs),.dead,.ptr 2 0,.dead,.p (.int .i64 a)]++List.replicate 16 .dead,[],[(2,.vars 89 (qL (kQ 256 (asF (cs.take a)))))],0⟩
theorem qAI (cs:List UInt8) (hcs:∀ b∈cs,b.toNat<128):AFn Tryz.prog G 51 [.str cs] (.tup [.agg (kQ 256 (asF cs)),.bool true]):=by
 refine AFn.intro tok Tryz.func51 (by kernel_rfl) rfl ?_
 simp only [Tryz.f51,St.start]
 refine AW.strFact (i:=0) rfl ?_
 intro hlen
 refine AW.seqRun tok [] (by intro C; conv=>lhs; simp) (by simp) ?_
 refine AW.seq ?_
 refine AW.seqRun tok [] (by intro C; conv=>lhs; simp) trivial ?_
 refine AW.block ?_
 refine AW.loop (α:=Nat) (fun a=>a≤cs.length) (fun a=>asS cs a) (fun a=>cs.length-a) 0 (by omega) ⟨by simp [asS],rfl,by simp [asS,qZP]; rfl,by simp [asS]⟩ ?_
 intro a hI
 simp only [asS]
 refine AW.seq ?_
 refine AW.seqRun tok [] (by intro C; conv=>lhs; simp) trivial ?_
 refine AW.cond (c := .tmp 9) (by conv=>lhs; simp) trivial ?_ ?_
 ·intro h1
  simp at h1
  obtain ⟨c,hc⟩:∃ c,cs[a]?=some c:=⟨cs[a],by simp [h1]⟩
  have hclt:=hcs c (List.mem_of_getElem? hc)
  have hst:asF (cs.take (a+1))=asF (cs.take a++[c]):=by rw [List.take_add_one,hc]; rfl
  refine AW.skip (AW.seq (AW.block ?_))
  refine AW.seqRun tok [.int .u8 c.toNat] (by intro C; conv=>lhs; simp) (by simp [hc]) ?_
  refine AW.seq ?_
  refine AW.seqRun tok [] (by intro C; conv=>lhs; simp) trivial ?_
  refine AW.cond (c := .tmp 16) (by conv=>lhs; simp) trivial ?_ ?_
  ·intro h2
   simp at h2
   omega
  intro h2
  simp at h2
  refine AW.skip ?_
  refine AW.run tok [] (by intro C; conv=>lhs; simp) (by omega) ?_
  refine AW.run tok [] (by intro C; conv=>lhs; simp) (by omega) ?_
  exact ⟨a+1,by omega,by omega,by simp [asS],rfl,by simp [asS,hst]; exact congrArg qL (zBV _ _ _).symm,by simp [asS]⟩
 intro h1
 simp at h1
 have hall:cs.take a=cs:=List.take_of_length_le h1
 rw [hall]
 refine AW.exit ?_
 simp
 refine AW.seqRun tok [] (by intro C; conv=>lhs; simp) (by simp) ?_
 exact AW.ret ⟨.inr rfl,_,_,by (conv=>lhs; simp),by simp,by simp⟩
theorem qGZ (F:Nat→Bool) (n:Int) (h0:0≤n) (h1:n<256):AX Tryz.prog G 86 [.ptr 5 0,.p (.int .u8 n)] [(5,.vars 89 (qL (kQ 256 F)))] (.p (.bool (F n.toNat))) [5] [(5,.vars 89 (qL (kQ 256 F)))]:=by
 refine AX.intro tok 2000 Tryz.func86 (by kernel_rfl) rfl ?_
 simp only [Tryz.f86,St.startX]
 refine AW.seqRun tok [] (by intro C; conv=>lhs; simp) trivial ?_
 refine AW.seqRun tok [.bool (F n.toNat)] (by intro C; conv=>lhs; simp) (by simp [qQN (show n.toNat<256 by omega)]; omega) ?_
 exact AW.ret ⟨.inr rfl,_,_,by (conv=>lhs; simp),trivial,by simp,by simp,by simp,by simp⟩
def vE (F:Nat→Bool) (s:List UInt8):List UInt8:=s.dropWhile fun b=>F b.toNat
def qCH (F:Nat→Bool) (s:List UInt8):List UInt8:=(s.reverse.dropWhile fun b=>F b.toNat).reverse
def tlS (r:List UInt8) (F:Nat→Bool):St:=⟨[.p (.str r),.ptr 5 0]++List.replicate 14 .dead,[5],[(5,.vars 89 (qL (kQ 256 F)))],1000⟩
theorem vY (F:Nat→Bool) (s:List UInt8):AX Tryz.prog G 52 [.p (.str s),.ptr 5 0] [(5,.vars 89 (qL (kQ 256 F)))] (.p (.str (vE F s))) [5] [(5,.vars 89 (qL (kQ 256 F)))]:=by
 refine AX.intro tok 1000 Tryz.func52 (by kernel_rfl) rfl ?_
 simp only [Tryz.f52,St.startX]
 refine AW.seqRun tok [] (by intro C; conv=>lhs; simp) trivial ?_
 refine AW.seq (AW.block ?_)
 refine AW.loop (α:=List UInt8) (fun r=>vE F r=vE F s) (fun r=>tlS r F) (fun r=>r.length) s rfl ⟨by simp [tlS],rfl,by simp [tlS],by simp [tlS]⟩ ?_
 intro r hI
 simp only [tlS]
 refine AW.seq ?_
 refine AW.seqRun tok [] (by intro C; conv=>lhs; simp) trivial ?_
 refine AW.cond (c := .tmp 7) (by conv=>lhs; simp) trivial ?_ ?_
 ·intro h1
  simp at h1
  obtain ⟨b,r,rfl⟩:∃ b r',r=b::r':=by
   cases r with
   | nil=>simp at h1
   | cons b r=>exact ⟨b,r,rfl⟩
  have hb:b.toNat<256:=b.toNat_lt
  refine AW.skip (AW.block (AW.seq ?_))
  refine AW.seqRunX tok 3 [.int .u8 b.toNat] [] rfl rfl (by intro C; conv=>lhs; simp) (by simp) (zF rfl (qGZ F b.toNat (by omega) (by omega)) (by simp)) (by intro C; conv=>lhs; simp) trivial ?_
  refine AW.cond (c := .tmp 12) (by conv=>lhs; simp) trivial ?_ ?_
  ·intro h2
   simp at h2
   refine AW.exit ?_
   simp
   refine AW.seqRun tok [] (by intro C; conv=>lhs; simp) trivial ?_
   exact AW.ret ⟨.inr rfl,_,_,by (conv=>lhs; simp),trivial,by rw [← hI]; simp [vE,h2],by simp,by simp,by simp⟩
  intro h2
  simp at h2
  refine AW.skip ?_
  refine AW.run tok [] (by intro C; conv=>lhs; simp) (by omega) ?_
  exact ⟨r,by rw [← hI]; simp [vE,h2],by simp,by simp [tlS],rfl,by simp [tlS],by simp [tlS]⟩
 intro h1
 simp at h1
 subst h1
 refine AW.exit ?_
 simp
 refine AW.seqRun tok [] (by intro C; conv=>lhs; simp) trivial ?_
 exact AW.ret ⟨.inr rfl,_,_,by (conv=>lhs; simp),trivial,by rw [← hI]; simp [vE],by simp,by simp,by simp⟩
theorem qDS (F:Nat→Bool) (s:List UInt8):AX Tryz.prog G 53 [.p (.str s),.ptr 5 0] [(5,.vars 89 (qL (kQ 256 F)))] (.p (.str (qCH F s))) [5] [(5,.vars 89 (qL (kQ 256 F)))]:=by
 refine AX.intro tok 1000 Tryz.func53 (by kernel_rfl) rfl ?_
 simp only [Tryz.f53,St.startX]
 refine AW.strFact (i:=0) rfl ?_
 intro hlen
 refine AW.seqRun tok [] (by intro C; conv=>lhs; simp) trivial ?_
 refine AW.seq (AW.block ?_)
 refine AW.loop (α:=List UInt8) (fun r=>qCH F r=qCH F s∧r.length≤s.length) (fun r=>⟨[.p (.str r),.ptr 5 0]++List.replicate 20 .dead,[5],[(5,.vars 89 (qL (kQ 256 F)))],1000⟩) (fun r=>r.length) s ⟨rfl,Nat.le_refl _⟩ ⟨by simp,rfl,by simp,by simp⟩ ?_
 rintro r ⟨hI,hrl⟩
 refine AW.seq ?_
 refine AW.seqRun tok [] (by intro C; conv=>lhs; simp) trivial ?_
 refine AW.cond (c := .tmp 7) (by conv=>lhs; simp) trivial ?_ ?_
 ·intro h1
  simp at h1
  obtain ⟨r,b,rfl⟩:∃ r' b,r=r'++[b]:=⟨r.dropLast,r.getLast (by rintro rfl; simp at h1),(List.dropLast_concat_getLast _).symm⟩
  have hb:b.toNat<256:=b.toNat_lt
  simp at hrl
  refine AW.skip (AW.block (AW.seq ?_))
  refine AW.seqRunX tok 6 [.int .u8 b.toNat] [] rfl rfl (by intro C; conv=>lhs; simp) (by omega) (zF rfl (qGZ F b.toNat (by omega) (by omega)) (by simp)) (by intro C; conv=>lhs; simp) trivial ?_
  refine AW.cond (c := .tmp 15) (by conv=>lhs; simp) trivial ?_ ?_
  ·intro h2
   simp at h2
   refine AW.exit ?_
   simp
   refine AW.seqRun tok [] (by intro C; conv=>lhs; simp) trivial ?_
   exact AW.ret ⟨.inr rfl,_,_,by (conv=>lhs; simp),trivial,by rw [← hI]; simp [qCH,h2],by simp,by simp,by simp⟩
  intro h2
  simp at h2
  refine AW.skip ?_
  refine AW.run tok [] (by intro C; conv=>lhs; simp) (by omega) ?_
  exact ⟨r,⟨by rw [← hI]; simp [qCH,h2],by omega⟩,by simp,by simp,rfl,by simp,by simp⟩
 intro h1
 simp at h1
 subst h1
 refine AW.exit ?_
 simp
 refine AW.seqRun tok [] (by intro C; conv=>lhs; simp) trivial ?_
 exact AW.ret ⟨.inr rfl,_,_,by (conv=>lhs; simp),trivial,by rw [← hI]; simp [qCH],by simp,by simp,by simp⟩
def qGI (s cs:List UInt8):List UInt8:=vE (asF cs) (qCH (asF cs) s)
theorem zET (s cs:List UInt8) (h2:2≤cs.length) (hcs:∀ b∈cs,b.toNat<128):AFn Tryz.prog G 26 [.str s,.str cs] (.str (qGI s cs)):=by
 refine AFn.intro tok Tryz.func26 (by kernel_rfl) rfl ?_
 simp only [Tryz.f26,St.start]
 have hne:cs≠[]:=by rintro rfl; simp at h2
 refine AW.seqRun tok [] (by intro C; conv=>lhs; simp) trivial ?_
 refine AW.seq ?_
 refine AW.seqRun tok [] (by intro C; conv=>lhs; simp) (by simp +contextual) ?_
 refine AW.cond (c := .tmp 12) (by conv=>lhs; simp) trivial ?_ ?_
 ·intro h3
  simp [hne] at h3
  subst h3
  refine AW.seqRun tok [] (by intro C; conv=>lhs; simp) trivial ?_
  exact AW.ret ⟨.inr rfl,_,_,by (conv=>lhs; simp),trivial,by simp [qGI,vE,qCH]⟩
 intro h3
 simp [hne] at h3
 refine AW.skip (AW.seq ?_)
 refine AW.seqRun tok [.int .u8 0] (by intro C; conv=>lhs; simp) (by simp +contextual; omega) ?_
 refine AW.cond (c := .tmp 21) (by conv=>lhs; simp) trivial ?_ ?_
 ·intro h4
  simp at h4
  omega
 intro h4
 refine AW.skip (AW.seq ?_)
 refine AW.seqRun tok [.tup [.str cs],.tup [.agg (kQ 256 (asF cs)),.bool true]] (by intro C; conv=>lhs; simp) (by simp [qAI cs hcs]) ?_
 refine AW.seqRun tok [] (by intro C; conv=>lhs; simp) trivial ?_
 refine AW.cond (c := .tmp 34) (by conv=>lhs; simp) trivial ?_ ?_
 ·intro _
  refine AW.seq (AW.region (qU.pref tok 1 [] (by intro C; conv=>lhs; simp) trivial ?_))
  simp only [List.drop_succ_cons,List.drop_zero]
  refine qU.step rfl (zF rfl (qDS (asF cs) s) (by simp)) ?_
  refine qU.step rfl (zF rfl (vY (asF cs) (qCH (asF cs) s)) (by simp)) ?_
  refine qU.all tok [] (by intro C; conv=>lhs; simp) trivial ?_
  exact AW.ret ⟨.inr rfl,_,_,by (conv=>lhs; simp),trivial,by simp [qGI]⟩
 intro h; simp at h
theorem qRQ {s:List UInt8} {k:Nat} (h:k<s.length):s[k]?=some (s.getD k 0):=by simp [List.getD_eq_getElem?_getD,h]
theorem qHE (s:List UInt8) (c:UInt8):AFn Tryz.prog G 49 [.str s,.int .u8 c.toNat] (.str (s.dropWhile (fun b=>b == c))):=by
 refine AFn.introU tok Tryz.func49 (by kernel_rfl) rfl rfl ?_
 simp only [Tryz.f49,qR,List.map_cons,List.map_nil]
 refine rgn [] [[0,1]] ?_
 refine op1 tok ?_
 refine qA (AW.seq (AW.block ?_))
 refine AW.loop (α:=List UInt8) (fun r=>r.dropWhile (fun b=>b == c)=s.dropWhile (fun b=>b == c)) (fun r=>⟨zR 17 [(0,.p (.str r)),(1,.p (.int .u8 c.toNat))],[],[],0⟩) (fun r=>r.length) (s) rfl ⟨qJ (by simp),rfl,by simp,by simp⟩ ?_
 rintro r hr
 have hix:0<r.length→r[0]?=some (r.getD 0 0):=fun h=>qRQ h
 refine AW.seq (rgn [.int .u8 (r.getD 0 0).toNat] [[],[],[],[],[],[0,1,8,10],[],[],[0,1,13]] ?_)
 iterate 4 refine op1 tok ?_ (hv:=by first | with_reducible exact True.intro | (first | exact fun h=>⟨h,_,hix (by omega),rfl⟩ | simp; done) | omega | simp | (simp +contextual; omega))
 iterate 4 refine op2 tok ?_ (hv:=by first | with_reducible exact True.intro | (first | exact fun h=>⟨h,_,hix (by omega),rfl⟩ | simp; done) | omega | simp | (simp +contextual; omega))
 refine op1 tok ?_ (hv:=by first | with_reducible exact True.intro | (first | exact fun h=>⟨h,_,hix (by omega),rfl⟩ | simp; done) | omega | simp | (simp +contextual; omega))
 refine qA (cnd ?_ ?_)
 ·intro h13
  try simp at h13
  obtain ⟨b,r,rfl⟩:∃ b r',r=b::r':=by
   cases r with
   | nil=>simp at h13
   | cons b r=>exact ⟨b,r,rfl⟩
  have hb:b=c:=UInt8.toNat_inj.1 (by have:=h13.2; simp at this; omega)
  subst hb
  have hr2:List.dropWhile (fun b'=>b' == b) r=List.dropWhile (fun b'=>b' == b) s:=by rw [← hr]; simp
  refine AW.skip (AW.block (rgz [] [[],[],[0,1]] ?_))
  iterate 3 refine op1 tok ?_
  refine qA ?_
  exact ⟨r,hr2,by simp,qJ (by simp),rfl,by simp,by simp⟩
 intro h13
 try simp at h13
 have hr3:s.dropWhile (fun b=>b == c)=r:=by
  rw [← hr]
  cases r with
  | nil=>rfl
  | cons b r =>
   have hb:b≠c:=by rintro rfl; simp at h13
   simp [hb]
 rw [hr3]
 refine AW.exit ?_
 simp
 refine rgn [] [[],[4]] ?_
 iterate 2 refine op1 tok ?_
 exact qA (AW.ret qZ)
theorem qPY (s:List UInt8) (c:UInt8):(decide (1≤(s.length:Int)) && decide (List.drop (s.length-1) s=[c]))=decide (s.getLast?=some c):=by
 by_cases h:s=[]
 ·subst h; simp
 obtain ⟨a,b,rfl⟩:∃ a b,s=a++[b]:=⟨s.dropLast,s.getLast h,(List.dropLast_concat_getLast h).symm⟩
 rw [Bool.eq_iff_iff]
 simp
 intro _; omega
theorem qKU (s:List UInt8) (c:UInt8):AFn Tryz.prog G 100 [.str s,.str [c]] (.bool (decide (s.getLast?=some c))):=by
 refine AFn.introU tok Tryz.func100 (by kernel_rfl) rfl rfl ?_
 simp only [Tryz.f100,qR,List.map_cons,List.map_nil]
 refine AW.strFactU (i:=0) rfl (by decide) ?_
 intro hlen
 have hsuf:(decide (1≤(s.length:Int)) && decide (List.drop (s.length-1) s=[c]))=decide (s.getLast?=some c):=qPY s c
 refine rgn [] [[0,1]] ?_
 refine op1 tok ?_
 refine qA (rgn [] [[],[],[],[],[0,1,9],[],[],[],[],[],[1,10,11,13,15],[],[1,10,17],[],[],[20],[4]] ?_)
 iterate 6 refine op1 tok ?_
 iterate 9 refine op2 tok ?_
 iterate 2 refine op1 tok ?_
 refine qA ?_
 exact AW.ret (qZ (k:=by simp [hsuf]))
theorem qPI (s:List UInt8) (c:UInt8):AFn Tryz.prog G 67 [.str s,.str [c]] (.bool (decide (s.getLast?=some c))):=by
 refine AFn.introU tok Tryz.func67 (by kernel_rfl) rfl rfl ?_
 simp only [Tryz.f67,qR,List.map_cons,List.map_nil]
 refine rgn [] [[0,1]] ?_
 refine op1 tok ?_
 refine qA (rgn [.nilp,.bool (decide (s.getLast?=some c))] [[],[],[7],[4]] ?_)
 iterate 4 refine op1 tok ?_ (hv:=by first | with_reducible exact True.intro | (exact qKU s c; done) | omega | simp | (simp +contextual; omega))
 exact qA (AW.ret qZ)
theorem qPG (s:List UInt8) (c:UInt8) (hc:c.toNat<128):AFn Tryz.prog G 66 [.str s,.str [c]] (.str (s.dropWhile (fun b=>b == c))):=by
 refine AFn.introU tok Tryz.func66 (by kernel_rfl) rfl rfl ?_
 simp only [Tryz.f66,qR,List.map_cons,List.map_nil]
 refine rgn [] [[0,1]] ?_
 refine op1 tok ?_
 refine qA (AW.seq (rgn [] [[],[],[],[],[],[0,1,12]] ?_))
 iterate 3 refine op1 tok ?_
 iterate 2 refine op2 tok ?_
 refine op1 tok ?_
 refine qA (cnd ?_ ?_)
 ·intro h12
  try simp at h12
  subst h12
  refine rgn [] [[],[4]] ?_
  iterate 2 refine op1 tok ?_
  exact qA (AW.ret qZ)
 intro h12
 try simp at h12
 refine AW.skip (AW.seq (rgn [.int .u8 c.toNat] [[],[],[],[],[],[0,1,17,19],[],[0,1,21]] ?_))
 iterate 4 refine op1 tok ?_ (hv:=by first | with_reducible exact True.intro | (simp; done) | omega | simp | (simp +contextual; omega))
 iterate 3 refine op2 tok ?_ (hv:=by first | with_reducible exact True.intro | (simp; done) | omega | simp | (simp +contextual; omega))
 refine op1 tok ?_ (hv:=by first | with_reducible exact True.intro | (simp; done) | omega | simp | (simp +contextual; omega))
 refine qA (cnd ?_ ?_)
 ·intro h21
  try simp at h21
  refine rgn [.int .u8 c.toNat,.nilp,.str (s.dropWhile (fun b=>b == c))] [[],[],[],[25],[4]] ?_
  iterate 5 refine op1 tok ?_ (hv:=by first | with_reducible exact True.intro | (first | exact qHE s c | simp; done) | omega | simp | (simp +contextual; omega))
  exact qA (AW.ret qZ)
 intro h21
 try simp at h21
 omega
theorem qHC (s cs:List UInt8) (h2:2≤cs.length) (hcs:∀ b∈cs,b.toNat<128):AFn Tryz.prog G 66 [.str s,.str cs] (.str (vE (asF cs) s)):=by
 refine AFn.introU tok Tryz.func66 (by kernel_rfl) rfl rfl ?_
 simp only [Tryz.f66,qR,List.map_cons,List.map_nil]
 have hne:cs≠[]:=by rintro rfl; simp at h2
 have hmk:=qAI (G:=G) cs hcs
 refine rgn [] [[0,1]] ?_
 refine op1 tok ?_
 refine qA (AW.seq (rgn [] [[],[],[],[],[],[0,1,12]] ?_))
 iterate 3 refine op1 tok ?_
 iterate 2 refine op2 tok ?_
 refine op1 tok ?_
 refine qA (cnd ?_ ?_)
 ·intro h12
  try simp at h12
  simp [hne] at h12
  subst h12
  refine rgn [] [[],[4]] ?_
  iterate 2 refine op1 tok ?_
  refine qA ?_
  exact AW.ret (qZ (k:=by simp [vE]))
 intro h12
 try simp at h12
 refine AW.skip (AW.seq (rgn [.int .u8 0] [[],[],[],[],[],[0,1,17,19],[],[0,1,21]] ?_))
 iterate 4 refine op1 tok ?_
 iterate 3 refine op2 tok ?_
 refine op1 tok ?_
 refine qA (cnd ?_ ?_)
 ·intro h21
  try simp at h21
  omega
 intro h21
 try simp at h21
 refine AW.skip (AW.seq (rgn [.nilp,.tup [.agg (kQ 256 (asF cs)),.bool true]] [[],[],[],[],[],[],[0,1,5,30],[0,1,5,6]] ?_))
 iterate 8 refine oq1 tok hmk ?_
 refine qA (rgn [] [[0,1,5,31]] ?_)
 refine op1 tok ?_
 refine qA (cnd ?_ ?_)
 ·intro h31
  try simp at h31
  refine rgn [] [[]] ?_
  refine op1 tok ?_
  refine qP ?_
  refine qD.stepK [33] (zF rfl (vY (asF cs) s) (by simp)) (by conv=>lhs; simp) rfl ?_
  refine qD.run [[4]] ?_
  refine op1 tok ?_
  exact qA (AW.ret qZ)
 intro h31
 try simp at h31
def zAA (s:List UInt8):Bool:=decide (0<s.length) && decide (qS s 0=45)
def qQV (s:List UInt8) (k:Nat) (digits:List UInt8):Option (Nat × List UInt8 × Nat) :=
 if k<s.length∧qS s k=46 then (if wQ s (k+1)=0 then none else some (k+1+wQ s (k+1),digits++(s.take (k+1+wQ s (k+1))).drop (k+1),wQ s (k+1))) else some (k,digits,0)
def upM (s:List UInt8) (k:Nat):Nat→Int
 | 0=>0
 | i+1=>10 * upM s k i+(qS s (k+i)-48)
def xQ (s:List UInt8) (k:Nat):Nat:=if k<s.length∧(qS s k=45∨qS s k=43) then k+1 else k
def qVQ (s:List UInt8) (k:Nat):Option (Nat × Int) :=
 if k<s.length∧(qS s k=101∨qS s k=69) then
  (if wQ s (xQ s (k+1))<1∨2<wQ s (xQ s (k+1)) then none
   else some (xQ s (k+1)+wQ s (xQ s (k+1)),if k+1<s.length∧qS s (k+1)=45 then-upM s (xQ s (k+1)) (wQ s (xQ s (k+1))) else upM s (xQ s (k+1)) (wQ s (xQ s (k+1)))))
 else some (k,0)
def jN:Dc × Int:=(⟨false,[],0⟩,4)
def xF (neg:Bool) (digits:List UInt8) (sc:Int):Dc × Int:=if sc<0 then yH neg (digits++wB (-sc).toNat) 0 else yH neg digits sc.toNat
def qCK (s:List UInt8) (neg:Bool) (digits:List UInt8) (scale:Nat):Option (Nat × Int)→Dc × Int
 | none=>jN
 | some (k,up)=>if k=s.length then xF neg digits (scale-up) else jN
def qLJ (s:List UInt8) (neg:Bool):Option (Nat × List UInt8 × Nat)→Dc × Int
 | none=>jN
 | some (k,digits,scale)=>qCK s neg digits scale (qVQ s k)
def a0M (s:List UInt8):Nat:=if zAA s=true then 1 else 0
def qKQ (s:List UInt8):Dc × Int :=
 if wQ s (a0M s)=0∨(1<wQ s (a0M s)∧qS s (a0M s)=48) then jN
 else qLJ s (zAA s) (qQV s (a0M s+wQ s (a0M s)) ((s.take (a0M s+wQ s (a0M s))).drop (a0M s)))
theorem qVO (s:List UInt8) (k:Nat) (h:k≤s.length):k+wQ s k≤s.length:=by
 unfold wQ
 have:=(List.takeWhile_sublist (l:=s.drop k) fun b:UInt8=>kG b.toNat).length_le
 simp at this; omega
theorem qSW {s:List UInt8} {k i:Nat} (h:i<wQ s k):k+i<s.length∧48≤qS s (k+i)∧qS s (k+i)≤57:=by
 have:=(zDG (Nat.le_of_lt h)).1 h
 simpa [kG] using this
def wL (d:Dc):List UInt8:=wB (d.scale.toNat+1-d.digits.length)++d.digits
def yG (d:Dc):List UInt8:=(if d.neg=true then [45] else [])++(if d.scale=0 then wL d else (wL d).take ((wL d).length-d.scale.toNat)++46::(wL d).drop ((wL d).length-d.scale.toNat))
theorem vO {s:List UInt8} {k:Nat} {b:UInt8} {t:List UInt8} (h:s.drop k=b::t):k<s.length∧qS s k=b.toNat:=by
 have h1:k<s.length:=by
  rcases Nat.lt_or_ge k s.length with h1 | h1
  ·exact h1
  rw [List.drop_eq_nil_of_le h1] at h; cases h
 refine ⟨h1, ?_⟩
 have:s[k]?=some b:=by
  have:=congrArg (fun l=>l[0]?) h
  simpa using this
 simp [qS,List.getD_eq_getElem?_getD,this]
theorem qPZ (n:Nat) (s:List UInt8):zB (wB n++s)=zB s:=by
 induction n with
 | zero=>rfl
 | succ n ih=>simp only [wB,List.replicate_succ,List.cons_append,zB,List.dropWhile_cons] at ih ⊢; simp [ih]
theorem qXK {d:Dc} (h:zY d=true) (n:Nat):yH d.neg (wB n++d.digits) d.scale.toNat=(d,0):=by
 unfold zY at h
 simp only [Bool.and_eq_true,decide_eq_true_eq] at h
 obtain ⟨⟨h1,h2⟩,h3⟩:=h
 unfold yH
 rw [qPZ]
 by_cases hz:d.digits=[48]
 ·rw [if_pos hz] at h3
  simp at h3
  have:zB d.digits=[]:=by rw [hz]; rfl
  rw [this,h3.1]
  simp only [Int.toNat_zero,kX,if_true]
  obtain ⟨ng,dg,sc⟩:=d
  simp only at hz h3 ⊢
  rw [hz,h3.1,h3.2]
 rw [if_neg hz] at h3
 simp at h3
 obtain ⟨ng,dg,sc⟩:=d
 simp only at hz h1 h2 h3 ⊢
 have e1:zB dg=dg:=by
  cases dg with
  | nil=>rfl
  | cons b t =>
   have hb:b≠48:=by rintro rfl; exact h3.1 rfl
   simp [zB,List.dropWhile_cons,hb]
 have e2:kX dg sc.toNat=(dg,sc.toNat):=by
  cases hs:sc.toNat with
  | zero=>rfl
  | succ k =>
   simp only [kX]
   rw [if_neg]
   intro hl
   have:=(qHB (d:=dg) (by omega)).2 hl
   rcases h3.2 with h | h
   ·omega
   exact h this
 rw [e1,e2]
 simp only
 rw [if_neg (by intro e; rw [e] at h2; simp at h2),if_neg (by omega)]
 rw [show ((sc.toNat:Nat):Int)=sc by omega]
theorem qYK (n:Nat):(wB n).all qI=true:=by
 rw [List.all_eq_true]; intro b hb; have:=(List.mem_replicate.1 hb).2; subst this; decide
theorem qYL {p:UInt8→Bool} {l:List UInt8} (h:l.all p=true) (n:Nat):(l.take n).all p=true:=by
 rw [List.all_eq_true] at h ⊢; exact fun b hb=>h b (List.mem_of_mem_take hb)
theorem qYM {p:UInt8→Bool} {l:List UInt8} (h:l.all p=true) (n:Nat):(l.drop n).all p=true:=by
 rw [List.all_eq_true] at h ⊢; exact fun b hb=>h b (List.mem_of_mem_drop hb)
theorem qTB {d:Dc} (h:zY d=true):∃ W R:List UInt8,yG d=(if d.neg=true then [45] else [])++(W++if R=[] then [] else 46::R)∧W.all qI=true∧R.all qI=true∧W≠[]∧(W.length=1∨qS W 0≠48)∧yH d.neg (W++R) R.length=(d,0):=by
 have hd:=h
 unfold zY at hd
 simp only [Bool.and_eq_true,decide_eq_true_eq] at hd
 obtain ⟨⟨h1,h2⟩,h3⟩:=hd
 have hpa:(wL d).all qI=true:=by unfold wL; rw [List.all_append,qYK,h1]; rfl
 have hpl:(wL d).length=if d.scale.toNat+1≤d.digits.length then d.digits.length else d.scale.toNat+1:=by
  unfold wL; simp [wB]; split <;> omega
 have hn:=qXK h (d.scale.toNat+1-d.digits.length)
 have hp0:qS (wL d) 0=48→wL d=[48]∨(d.digits.length≤d.scale.toNat):=by
  intro hb
  by_cases hz:d.digits.length≤d.scale.toNat
  ·exact .inr hz
  refine .inl ?_
  have e:wL d=d.digits:=by unfold wL; rw [show d.scale.toNat+1-d.digits.length=0 by omega]; rfl
  rw [e] at hb ⊢
  by_cases hz:d.digits=[48]
  ·exact hz
  rw [if_neg hz] at h3; simp at h3; exact absurd hb h3.1
 unfold yG
 by_cases hs:d.scale=0
 ·rw [if_pos hs]
  refine ⟨wL d,[],by simp,hpa,rfl,by intro e; rw [e] at hpl; simp at hpl; split at hpl <;> omega, ?_, ?_⟩
  ·by_cases hb:qS (wL d) 0=48
   ·rcases hp0 hb with e | e
    ·rw [e]; exact .inl rfl
    omega
   exact .inr hb
  rw [List.append_nil,List.length_nil,show (0:Nat)=d.scale.toNat by omega]
  exact hn
 rw [if_neg hs]
 have hle:d.scale.toNat+1≤(wL d).length:=by rw [hpl]; split <;> omega
 have hRl:((wL d).drop ((wL d).length-d.scale.toNat)).length=d.scale.toNat:=by rw [List.length_drop]; omega
 have hWl:((wL d).take ((wL d).length-d.scale.toNat)).length=(wL d).length-d.scale.toNat:=by rw [List.length_take]; omega
 have hRne:(wL d).drop ((wL d).length-d.scale.toNat)≠[]:=by intro e; rw [e] at hRl; simp at hRl; omega
 have hWne:(wL d).take ((wL d).length-d.scale.toNat)≠[]:=by intro e; rw [e] at hWl; simp at hWl; omega
 have hb0:qS ((wL d).take ((wL d).length-d.scale.toNat)) 0=qS (wL d) 0:=by
  unfold qS
  rw [List.getD_eq_getElem?_getD,List.getElem?_take,if_pos (by omega),← List.getD_eq_getElem?_getD]
 refine ⟨(wL d).take ((wL d).length-d.scale.toNat),(wL d).drop ((wL d).length-d.scale.toNat),by rw [if_neg hRne],qYL hpa _,qYM hpa _,hWne, ?_, ?_⟩
 ·rw [hb0]
  by_cases hb:qS (wL d) 0=48
  ·rcases hp0 hb with e | e
   ·rw [e] at hle; simp at hle; omega
   left; rw [hWl,hpl,if_neg (by omega)]; omega
  exact .inr hb
 rw [hRl,List.take_append_drop]
 exact hn
def zX (t:List UInt8):List UInt8:=if t.head?=some 45∨t.head?=some 43 then t.drop 1 else t
def xY (s:List UInt8):Option Int:=match s with
 | []=>some 0
 | b::t=>if b≠101∧b≠69 then none
  else if (zX t).dropWhile qI≠[]∨((zX t).takeWhile qI).length<1∨2<((zX t).takeWhile qI).length then none
  else some (if t.head?=some 45 then-(uO ((zX t).takeWhile qI):Int) else uO ((zX t).takeWhile qI))
def qJG (s:List UInt8):Bool:=decide (s.head?=some 45)
def yJ (s:List UInt8):List UInt8:=if s.head?=some 45 then s.drop 1 else s
def jY (r:List UInt8):Option (List UInt8 × List UInt8) :=
 if r.head?=some 46 then (if (r.drop 1).takeWhile qI=[] then none else some ((r.drop 1).takeWhile qI,(r.drop 1).dropWhile qI)) else some ([],r)
def qJZ (neg:Bool) (W P:List UInt8):Option Int→Dc × Int
 | none=>jN
 | some up=>if W=[]∨(1<W.length∧W.head?=some 48) then jN else xF neg (W++P) (P.length-up)
def zW (s:List UInt8):Dc × Int:=match jY ((yJ s).dropWhile qI) with
 | none=>jN
 | some (P,r)=>qJZ (qJG s) ((yJ s).takeWhile qI) P (xY r)
theorem qZC {W F:List UInt8} (hW:W.all qI=true) (hF:∀ b,F.head?=some b→qI b=false):(W++F).takeWhile qI=W∧(W++F).dropWhile qI=F:=by
 induction W with
 | nil =>
  cases F with
  | nil=>exact ⟨rfl,rfl⟩
  | cons b F=>have:=hF b rfl; simp [List.takeWhile_cons,List.dropWhile_cons,this]
 | cons b W ih =>
  simp only [List.all_cons,Bool.and_eq_true] at hW
  obtain ⟨h1,h2⟩:=ih hW.2
  simp [List.takeWhile_cons,List.dropWhile_cons,hW.1,h1,h2]
theorem qQX (ng : Bool) (W R : List UInt8) (hW : W.all qI = true) (hR : R.all qI = true) (h0 : W ≠ []) (h1 : W.length = 1 ∨ qS W 0 ≠ 48) :
  zW ((if ng=true then [45] else [])++(W++if R=[] then [] else 46::R))=yH ng (W++R) R.length:=by
 generalize hF:(if R=[] then [] else 46::R)=F
 generalize hs:((if ng=true then [45] else [])++(W++F))=s
 obtain ⟨w0,W',rfl⟩:∃ w0 W',W=w0::W':=by cases W with
  | nil=>exact absurd rfl h0
  | cons a W=>exact ⟨a,W,rfl⟩
 have hw0:qI w0=true:=by simp only [List.all_cons,Bool.and_eq_true] at hW; exact hW.1
 have hw1:w0≠45:=by rintro rfl; revert hw0; decide
 have hb:yJ s=(w0::W')++F∧qJG s=ng:=by
  rw [← hs]
  cases ng with
  | true=>simp [yJ,qJG]
  | false=>simp [yJ,qJG,hw1]
 have hFh:∀ b,F.head?=some b→qI b=false:=by
  rw [← hF]; split
  ·simp
  intro b hb; simp at hb; subst hb; decide
 obtain ⟨t1,t2⟩:=qZC hW hFh
 have hfr:jY F=some (R,[]):=by
  rw [← hF]
  split
  ·rename_i hR0; subst hR0; rfl
  rename_i hR0
  obtain ⟨t3,t4⟩:=qZC (W:=R) (F:=[]) hR (by simp)
  rw [List.append_nil] at t3 t4
  unfold jY
  simp only [List.head?_cons,if_true,List.drop_succ_cons,List.drop_zero,t3,t4]
  rw [if_neg hR0]
 unfold zW
 rw [hb.1,hb.2,t1,t2,hfr]
 simp only [xY,qJZ]
 rw [if_neg (by
  rintro (h | ⟨h,h'⟩)
  ·cases h
  rcases h1 with h1 | h1
  ·omega
  simp at h'; subst h'; exact h1 rfl)]
 unfold xF
 rw [if_neg (by omega)]
 simp
theorem uS {d:Dc} (h:zY d=true):zW (yG d)=(d,0):=by
 obtain ⟨W,R,hp,hW,hR,h0,h1,hn⟩:=qTB h
 rw [hp,qQX d.neg W R hW hR h0 h1,hn]
namespace Sy
variable {P:Program} {G:qO}
theorem AFn.of_calls {f : FuncId} {args : List PD} {r : PD} (hc : vA P f) (h : ∀ (M : qV) (w : World) (vs : Array Value), GOK G M w → (∀ b o v, M b o = some v → w.cell? ⟨b, o, none⟩ = some v) → vs.size = args.length →
  (∀ (i:Nat) u d,vs[i]?=some u→args[i]?=some d→Rd M u d)→Calls P f vs w fun e w'=>∃ v,e = .returned v∧Rd M v r∧RowKit.Below w.heap.size w w'):AFn P G f args r:=by
 refine ⟨hc,fun M w vs hg hmem hsz hrd=>(h M w vs hg hmem hsz hrd).mono ?_⟩
 rintro e w' ⟨v,rfl,hv,hb⟩
 refine ⟨v,M,rfl,hv,fun b o u hu => ?_,fun _ _ _ h=>h,fun _ _ _=>rfl,hb⟩
 have h1:=hmem b o u hu
 exact (World.cell?_of_block (w:=w) (hb.block b (jO h1))).trans h1
theorem kH {f : FuncId} {fn : Func} {c : Code} (hf : P.funcs[f]? = some fn) (hn : (fn.name == "runtime.NumGoroutine") = false) (hb : fn.body = some c) : vA P f := ⟨fn, c, hf, hn, hb⟩
theorem qPC {M:qV} {vs:Array Value} {s:List UInt8} (hsz:vs.size=1) (h:∀ (i:Nat) u d,vs[i]?=some u→[PD.str s][i]?=some d→Rd M u d):∃ b:ByteArray,vs = #[.string b]∧b.data.toList=s∧b.size≤maxLen:=by
 obtain ⟨l⟩:=vs
 match l,hsz with
 | [u],_ =>
  have:=h 0 u (.str s) rfl rfl
  cases this with
  | @str b _ hs hm=>exact ⟨b,rfl,hs,by rw [kD hs]; exact hm⟩
def qFW:List PD:=(List.range 256).map fun c => .int .u8 (Lib.firstT c)
def qUP:List PD:=(List.range 32).map fun i => .int .u8 (if i % 2=0 then Lib.accLo (i / 2) else Lib.accHi (i / 2))
def qSI (g3 g4:Nat) (G:qO):Prop:=G g3=some qFW∧G g4=some qUP
theorem qVB {g3 g4:Nat} {M:qV} {w:World} (hG:qSI g3 g4 G) (hg:GOK G M w) (hmem:∀ b o v,M b o=some v→w.cell? ⟨b,o,none⟩=some v):Lib.Utf8Tabs g3 g4 w:=by
 have key:∀ (g:Nat) (cs:List PD) (j:Nat) (n:Int),G g=some cs→cs[j]?=some (.int .u8 n)→w.cell? ⟨g,j,none⟩=some (.int .u8 n):=by
  intro g cs j n h1 h2
  obtain ⟨h3,h4⟩:=hg.1 g cs h1
  obtain ⟨u,hu,_⟩:=h3 j _ h2
  have:=h4 j _ u h2 hu
  cases this
  exact hmem _ _ _ hu
 refine ⟨fun c hc=>key _ _ _ _ hG.1 (by simp [qFW,hc]),fun i hi=>⟨key _ _ _ _ hG.2 ?_,key _ _ _ _ hG.2 ?_⟩⟩
 ·simp [qUP,show 2 * i<32 by omega]
 simp only [qUP,List.getElem?_map,List.getElem?_range (show 2 * i+1<32 by omega),Option.map_some]
 rw [if_neg (by omega),show (2 * i+1) / 2=i by omega]
def u8G (g3 g4:Nat):qO:=fun g=>if g=g3 then some qFW else if g=g4 then some qUP else none
theorem zCV {g3 g4:Nat} (h:g4≠g3):qSI g3 g4 (u8G g3 g4):=⟨by simp [u8G],by simp [u8G,h]⟩
theorem zFQ {g3 g4:Nat} {W:World} (h:Lib.Utf8Tabs g3 g4 W) (hne:g4≠g3):GOK (u8G g3 g4) (kS W) W:=by
 have one : ∀ (g j : Nat) (cs : List PD), (∀ (j : Nat) d, cs[j]? = some d → ∃ n : Int, d = .int .u8 n ∧ 0 ≤ n ∧ n ≤ 255 ∧ W.cell? ⟨g, j, none⟩ = some (.int .u8 n)) →
   (∀ (j:Nat) d,cs[j]?=some d→∃ u,kS W g j=some u∧u.oneCell'=true)∧(∀ (j:Nat) d u,cs[j]?=some d→kS W g j=some u→Rd (kS W) u d):=by
  intro g _ cs hc
  refine ⟨fun j d hd => ?_,fun j d u hd hu => ?_⟩
  ·obtain ⟨n,rfl,_,_,h⟩:=hc j d hd; exact ⟨_,h,rfl⟩
  obtain ⟨n,rfl,h0,h1,h⟩:=hc j d hd
  have:some u=some (Value.int .u8 n):=hu.symm.trans h
  cases this
  exact .int (by rw [kK]; exact h0) (by rw [yY]; exact h1)
 have hft:∀ c,(0:Int)≤Lib.firstT c∧(Lib.firstT c:Int)≤255:=fun c=>by
  rcases Lib.firstT_cases c with h | h | h | h | h | h | h | h | h <;> rw [h] <;> omega
 have hno:GX (u8G g3 g4) W:=fun g cs hg ht=>by
  simp only [u8G] at hg
  split at hg
  ·cases hg; exact absurd ht (by rw [show qVZ qFW=false from rfl]; simp)
  split at hg
  ·cases hg; exact absurd ht (by rw [show qVZ qUP=false from rfl]; simp)
  cases hg
 refine ⟨?_,hno⟩
 intro g cs hg
 simp only [u8G] at hg
 split at hg
 ·rename_i e
  subst e
  cases hg
  refine one g 0 _ fun j d hd => ?_
  have hj:j<256:=by have:=(List.getElem?_eq_some_iff.1 hd).1; simpa [qFW] using this
  simp [qFW,hj] at hd
  exact ⟨_,hd.symm,(hft j).1,(hft j).2,h.1 j hj⟩
 split at hg
 ·rename_i _ e
  subst e
  cases hg
  refine one g 0 _ fun j d hd => ?_
  have hj:j<32:=by have:=(List.getElem?_eq_some_iff.1 hd).1; simpa [qUP] using this
  simp only [qUP,List.getElem?_map,List.getElem?_range hj,Option.map_some,Option.some.injEq] at hd
  have hb:=h.2 (j / 2) (by omega)
  have hacc:∀ i,i<16→(0:Int)≤Lib.accLo i∧(Lib.accLo i:Int)≤255∧(0:Int)≤Lib.accHi i∧(Lib.accHi i:Int)≤255:=by decide
  have hac:=hacc (j / 2) (by omega)
  by_cases h2:j % 2=0
  ·rw [if_pos h2] at hd
   exact ⟨_,hd.symm,hac.1,hac.2.1,by have:=hb.1; rwa [show 2 * (j / 2)=j by omega] at this⟩
  rw [if_neg h2] at hd
  exact ⟨_,hd.symm,hac.2.2.1,hac.2.2.2,by have:=hb.2; rwa [show 2 * (j / 2)+1=j by omega] at this⟩
 cases hg
end Sy
abbrev U8 (G:qO):Prop:=qSI 0 1 G
end Go.Proofs.YtlmedakhioiahaaGreatDoor
namespace Go.Proofs
open Go.Shelf
def Tryz.lays196_ren:Go.Shelf.Ren:=⟨fun | 196=>136 | 259=>162 | n=>n,fun | 9=>9 | 4=>4 | 3=>3 | 5=>5 | 12=>12 | 119=>173 | 0=>0 | 46=>114 | 139=>176 | 138=>175 | 53=>37 | n=>n,fun | 3=>0 | 4=>1 | n=>n⟩
theorem Tryz.lays196:Go.Proofs.Lays.n196 Tryz.prog Tryz.lays196_ren:={
 mixed:=by kernel_rfl
 f196:=Tryz.func136.trans (congrArg some (by kernel_rfl))
 f259:=Tryz.func162.trans (congrArg some (by kernel_rfl))
 t0:=Tryz.underlying0
 a0:=Tryz.isAgg0
 z0:=Tryz.sizeOf0
 v0:=Tryz.zeroValue0
 t3:=Tryz.underlying3
 a3:=Tryz.isAgg3
 z3:=Tryz.sizeOf3
 v3:=Tryz.zeroValue3
 t4:=Tryz.underlying4
 a4:=Tryz.isAgg4
 z4:=Tryz.sizeOf4
 v4:=Tryz.zeroValue4
 t5:=Tryz.underlying5
 a5:=Tryz.isAgg5
 z5:=Tryz.sizeOf5
 v5:=Tryz.zeroValue5
 t9:=Tryz.underlying9
 a9:=Tryz.isAgg9
 z9:=Tryz.sizeOf9
 v9:=Tryz.zeroValue9
 t12:=Tryz.underlying12
 a12:=Tryz.isAgg12
 z12:=Tryz.sizeOf12
 v12:=Tryz.zeroValue12
 t46:=Tryz.underlying114
 a46:=Tryz.isAgg114
 z46:=Tryz.sizeOf114
 v46:=Tryz.zeroValue114
 t53:=Tryz.underlying37
 a53:=Tryz.isAgg37
 z53:=Tryz.sizeOf37
 v53:=Tryz.zeroValue37
 t119:=Tryz.underlying173
 a119:=Tryz.isAgg173
 z119:=Tryz.sizeOf173
 t138:=Tryz.underlying175
 a138:=Tryz.isAgg175
 z138:=Tryz.sizeOf175
 v138:=Tryz.zeroValue175
 t139:=Tryz.underlying176
 a139:=Tryz.isAgg176
 z139:=Tryz.sizeOf176
 v139:=Tryz.zeroValue176
 g3:=by kernel_rfl
 g4:=by kernel_rfl }
def Tryz.lays197_ren:Go.Shelf.Ren:=⟨fun | 197=>87 | 260=>121 | n=>n,fun | 9=>9 | 21=>21 | 3=>3 | 4=>4 | 5=>5 | 105=>120 | 119=>173 | 0=>0 | 46=>114 | 139=>176 | 138=>175 | n=>n,fun | 3=>0 | 4=>1 | n=>n⟩
theorem Tryz.lays197:Go.Proofs.Lays.n197 Tryz.prog Tryz.lays197_ren:={
 mixed:=by kernel_rfl
 f197:=Tryz.func87.trans (congrArg some (by kernel_rfl))
 f260:=Tryz.func121.trans (congrArg some (by kernel_rfl))
 t0:=Tryz.underlying0
 a0:=Tryz.isAgg0
 z0:=Tryz.sizeOf0
 v0:=Tryz.zeroValue0
 t3:=Tryz.underlying3
 a3:=Tryz.isAgg3
 z3:=Tryz.sizeOf3
 v3:=Tryz.zeroValue3
 t4:=Tryz.underlying4
 a4:=Tryz.isAgg4
 z4:=Tryz.sizeOf4
 v4:=Tryz.zeroValue4
 t5:=Tryz.underlying5
 a5:=Tryz.isAgg5
 z5:=Tryz.sizeOf5
 v5:=Tryz.zeroValue5
 t9:=Tryz.underlying9
 a9:=Tryz.isAgg9
 z9:=Tryz.sizeOf9
 v9:=Tryz.zeroValue9
 t21:=Tryz.underlying21
 a21:=Tryz.isAgg21
 z21:=Tryz.sizeOf21
 v21:=Tryz.zeroValue21
 t46:=Tryz.underlying114
 a46:=Tryz.isAgg114
 z46:=Tryz.sizeOf114
 v46:=Tryz.zeroValue114
 t105:=Tryz.underlying120
 a105:=Tryz.isAgg120
 z105:=Tryz.sizeOf120
 v105:=Tryz.zeroValue120
 t119:=Tryz.underlying173
 a119:=Tryz.isAgg173
 z119:=Tryz.sizeOf173
 t138:=Tryz.underlying175
 a138:=Tryz.isAgg175
 z138:=Tryz.sizeOf175
 v138:=Tryz.zeroValue175
 t139:=Tryz.underlying176
 a139:=Tryz.isAgg176
 z139:=Tryz.sizeOf176
 v139:=Tryz.zeroValue176
 g3:=by kernel_rfl
 g4:=by kernel_rfl }
def Tryz.lays105_ren:Go.Shelf.Ren:=⟨fun | 105=>72 | 212=>104 | 99=>81 | 165=>105 | 166=>75 | 170=>106 | 169=>76 | 263=>137 | 264=>138 | 206=>115 | 240=>107 | 241=>139 | 276=>140 | 277=>163 | n=>n,fun | 9=>9 | 3=>3 | 4=>4 | 20=>20 | 0=>0 | 46=>114 | 109=>134 | 5=>5 | 72=>111 | 76=>96 | 51=>161 | 146=>162 | 53=>37 | 148=>164 | 70=>109 | 37=>75 | 75=>95 | 127=>139 | 164=>166 | 80=>101 | n=>n,fun | n=>n⟩
theorem Tryz.lays105:Go.Proofs.Lays.n105 Tryz.prog Tryz.lays105_ren:={
 mixed:=by kernel_rfl
 f99:=Tryz.func81.trans (congrArg some (by kernel_rfl))
 f105:=Tryz.func72.trans (congrArg some (by kernel_rfl))
 f165:=Tryz.func105.trans (congrArg some (by kernel_rfl))
 f166:=Tryz.func75.trans (congrArg some (by kernel_rfl))
 f169:=Tryz.func76.trans (congrArg some (by kernel_rfl))
 f170:=Tryz.func106.trans (congrArg some (by kernel_rfl))
 f206:=Tryz.func115.trans (congrArg some (by kernel_rfl))
 f212:=Tryz.func104.trans (congrArg some (by kernel_rfl))
 f240:=Tryz.func107.trans (congrArg some (by kernel_rfl))
 f241:=Tryz.func139.trans (congrArg some (by kernel_rfl))
 f263:=Tryz.func137.trans (congrArg some (by kernel_rfl))
 f264:=Tryz.func138.trans (congrArg some (by kernel_rfl))
 f276:=Tryz.func140.trans (congrArg some (by kernel_rfl))
 f277:=Tryz.func163.trans (congrArg some (by kernel_rfl))
 t0:=Tryz.underlying0
 a0:=Tryz.isAgg0
 z0:=Tryz.sizeOf0
 v0:=Tryz.zeroValue0
 t3:=Tryz.underlying3
 a3:=Tryz.isAgg3
 z3:=Tryz.sizeOf3
 v3:=Tryz.zeroValue3
 t4:=Tryz.underlying4
 a4:=Tryz.isAgg4
 z4:=Tryz.sizeOf4
 v4:=Tryz.zeroValue4
 t5:=Tryz.underlying5
 a5:=Tryz.isAgg5
 z5:=Tryz.sizeOf5
 v5:=Tryz.zeroValue5
 t9:=Tryz.underlying9
 a9:=Tryz.isAgg9
 z9:=Tryz.sizeOf9
 v9:=Tryz.zeroValue9
 t20:=Tryz.underlying20
 a20:=Tryz.isAgg20
 z20:=Tryz.sizeOf20
 v20:=Tryz.zeroValue20
 t37:=Tryz.underlying75
 a37:=Tryz.isAgg75
 z37:=Tryz.sizeOf75
 v37:=Tryz.zeroValue75
 t46:=Tryz.underlying114
 a46:=Tryz.isAgg114
 z46:=Tryz.sizeOf114
 v46:=Tryz.zeroValue114
 t51:=Tryz.underlying161
 a51:=Tryz.isAgg161
 z51:=Tryz.sizeOf161
 v51:=Tryz.zeroValue161
 t53:=Tryz.underlying37
 a53:=Tryz.isAgg37
 z53:=Tryz.sizeOf37
 v53:=Tryz.zeroValue37
 t70:=Tryz.underlying109
 a70:=Tryz.isAgg109
 z70:=Tryz.sizeOf109
 v70:=Tryz.zeroValue109
 t72:=Tryz.underlying111
 a72:=Tryz.isAgg111
 z72:=Tryz.sizeOf111
 v72:=Tryz.zeroValue111
 t75:=Tryz.underlying95
 a75:=Tryz.isAgg95
 z75:=Tryz.sizeOf95
 v75:=Tryz.zeroValue95
 t76:=Tryz.underlying96
 a76:=Tryz.isAgg96
 z76:=Tryz.sizeOf96
 v76:=Tryz.zeroValue96
 t109:=Tryz.underlying134
 a109:=Tryz.isAgg134
 z109:=Tryz.sizeOf134
 v109:=Tryz.zeroValue134
 t127:=Tryz.underlying139
 a127:=Tryz.isAgg139
 z127:=Tryz.sizeOf139
 v127:=Tryz.zeroValue139
 t146:=Tryz.underlying162
 a146:=Tryz.isAgg162
 z146:=Tryz.sizeOf162
 v146:=Tryz.zeroValue162
 t148:=Tryz.underlying164
 a148:=Tryz.isAgg164
 z148:=Tryz.sizeOf164
 v148:=Tryz.zeroValue164
 t164:=Tryz.underlying166
 a164:=Tryz.isAgg166
 z164:=Tryz.sizeOf166
 v164:=Tryz.zeroValue166 }
def Tryz.lays169_ren:Go.Shelf.Ren:=⟨fun | 169=>76 | n=>n,fun | 70=>109 | 9=>9 | 0=>0 | 72=>111 | 37=>75 | 127=>139 | 3=>3 | 5=>5 | n=>n,fun | n=>n⟩
theorem Tryz.lays169:Go.Proofs.Lays.n169 Tryz.prog Tryz.lays169_ren:={
 mixed:=by kernel_rfl
 f169:=Tryz.func76.trans (congrArg some (by kernel_rfl))
 t0:=Tryz.underlying0
 a0:=Tryz.isAgg0
 z0:=Tryz.sizeOf0
 v0:=Tryz.zeroValue0
 t3:=Tryz.underlying3
 a3:=Tryz.isAgg3
 z3:=Tryz.sizeOf3
 v3:=Tryz.zeroValue3
 t9:=Tryz.underlying9
 a9:=Tryz.isAgg9
 z9:=Tryz.sizeOf9
 v9:=Tryz.zeroValue9
 t37:=Tryz.underlying75
 a37:=Tryz.isAgg75
 z37:=Tryz.sizeOf75
 v37:=Tryz.zeroValue75
 t70:=Tryz.underlying109
 a70:=Tryz.isAgg109
 z70:=Tryz.sizeOf109
 v70:=Tryz.zeroValue109
 t72:=Tryz.underlying111
 a72:=Tryz.isAgg111
 z72:=Tryz.sizeOf111
 v72:=Tryz.zeroValue111
 t127:=Tryz.underlying139
 a127:=Tryz.isAgg139
 z127:=Tryz.sizeOf139
 v127:=Tryz.zeroValue139 }
def Tryz.lays156_ren:Go.Shelf.Ren:=⟨fun | 156=>77 | 165=>105 | 166=>75 | 169=>76 | 240=>107 | 241=>139 | 276=>140 | 277=>163 | n=>n,fun | 31=>32 | 9=>9 | 3=>3 | 4=>4 | 0=>0 | 20=>20 | 72=>111 | 76=>96 | 70=>109 | 37=>75 | 75=>95 | 127=>139 | 164=>166 | 5=>5 | 80=>101 | n=>n,fun | n=>n⟩
theorem Tryz.lays156:Go.Proofs.Lays.n156 Tryz.prog Tryz.lays156_ren:={
 mixed:=by kernel_rfl
 f156:=Tryz.func77.trans (congrArg some (by kernel_rfl))
 f165:=Tryz.func105.trans (congrArg some (by kernel_rfl))
 f166:=Tryz.func75.trans (congrArg some (by kernel_rfl))
 f169:=Tryz.func76.trans (congrArg some (by kernel_rfl))
 f240:=Tryz.func107.trans (congrArg some (by kernel_rfl))
 f241:=Tryz.func139.trans (congrArg some (by kernel_rfl))
 f276:=Tryz.func140.trans (congrArg some (by kernel_rfl))
 f277:=Tryz.func163.trans (congrArg some (by kernel_rfl))
 t0:=Tryz.underlying0
 a0:=Tryz.isAgg0
 z0:=Tryz.sizeOf0
 v0:=Tryz.zeroValue0
 t3:=Tryz.underlying3
 a3:=Tryz.isAgg3
 z3:=Tryz.sizeOf3
 v3:=Tryz.zeroValue3
 t4:=Tryz.underlying4
 a4:=Tryz.isAgg4
 z4:=Tryz.sizeOf4
 v4:=Tryz.zeroValue4
 t9:=Tryz.underlying9
 a9:=Tryz.isAgg9
 z9:=Tryz.sizeOf9
 v9:=Tryz.zeroValue9
 t20:=Tryz.underlying20
 a20:=Tryz.isAgg20
 z20:=Tryz.sizeOf20
 v20:=Tryz.zeroValue20
 t31:=Tryz.underlying32
 a31:=Tryz.isAgg32
 z31:=Tryz.sizeOf32
 v31:=Tryz.zeroValue32
 t37:=Tryz.underlying75
 a37:=Tryz.isAgg75
 z37:=Tryz.sizeOf75
 v37:=Tryz.zeroValue75
 t70:=Tryz.underlying109
 a70:=Tryz.isAgg109
 z70:=Tryz.sizeOf109
 v70:=Tryz.zeroValue109
 t72:=Tryz.underlying111
 a72:=Tryz.isAgg111
 z72:=Tryz.sizeOf111
 v72:=Tryz.zeroValue111
 t75:=Tryz.underlying95
 a75:=Tryz.isAgg95
 z75:=Tryz.sizeOf95
 v75:=Tryz.zeroValue95
 t76:=Tryz.underlying96
 a76:=Tryz.isAgg96
 z76:=Tryz.sizeOf96
 v76:=Tryz.zeroValue96
 t127:=Tryz.underlying139
 a127:=Tryz.isAgg139
 z127:=Tryz.sizeOf139
 v127:=Tryz.zeroValue139
 t164:=Tryz.underlying166
 a164:=Tryz.isAgg166
 z164:=Tryz.sizeOf166
 v164:=Tryz.zeroValue166 }
end Go.Proofs
namespace Go.Proofs.YtlmedakhioiahaaGreatDoor
open Sy Go
variable {G:qO}
theorem qUM {M:qV} {vs:Array Value} {s:List UInt8} {n:Int} (hsz:vs.size=2) (h:∀ (i:Nat) u d,vs[i]?=some u→[PD.str s,PD.int .i64 n][i]?=some d→Rd M u d):∃ a:ByteArray,vs = #[.string a,.int .i64 n]∧a.data.toList=s∧n≤9223372036854775807:=by
 obtain ⟨l⟩:=vs
 match l,hsz with
 | [u,v],_ =>
  have h1:=h 0 u (.str s) rfl rfl
  have h2:=h 1 v (.int .i64 n) rfl rfl
  cases h1 with
  | @str a _ ha _ =>
  cases h2 with
  | int h3 h4=>exact ⟨a,rfl,ha,by rw [yY] at h4; exact h4⟩
theorem qLB:Builder.Extra Tryz.prog Tryz.lays105_ren where
 sizeBuilder:=by kernel_rfl
 liesBuilder:=by kernel_rfl
 t5:=Tryz.underlying5
 a5:=Tryz.isAgg5
 z5:=Tryz.sizeOf5
 v5:=Tryz.zeroValue5
 infoByte:=by kernel_rfl
 cellsByte:=by kernel_rfl
 sizeByte:=by kernel_rfl
 neB5:=by decide
theorem qNC (s:List UInt8) (n:Nat) (h:s.length * n≤140737488355328):AFn Tryz.prog G 72 [.str s,.int .i64 n] (.str (Lib.repeatL s n)):=by
 refine AFn.of_calls (kH Tryz.func72 (by kernel_rfl) rfl) fun M w vs hg hmem hsz hrd => ?_
 obtain ⟨x,rfl,rfl,hn⟩:=qUM hsz hrd
 refine (Any.strings_Repeat Tryz.lays105 qLB x n w (by omega) (by rw [kD rfl]; exact h)).mono ?_
 rintro e w' ⟨rfl,hb⟩
 refine ⟨_,rfl,.str (by simp) ?_,hb⟩
 rw [Lib.repeatL_length,Nat.mul_comm]; simp only [maxLen]; omega
set_option maxRecDepth 100000
set_option maxHeartbeats 4000000
set_option linter.unusedSimpArgs false
set_option linter.unusedVariables false
theorem qPW (s:List UInt8):(if s.all (fun b => !jG b.toNat) then (-1:Int) else (((s.takeWhile fun b => !jG b.toNat).length:Nat):Int))=if s.all qI then -1 else ((s.takeWhile qI).length:Int):=by
 have e:(fun b:UInt8 => !jG b.toNat)=qI:=by funext b; rw [qLW]; simp
 rw [e]
theorem qRP (s:List UInt8):jQ jG s=if s.all qI then -1 else ((s.takeWhile qI).length:Int):=by
 rw [qEL (fun n h=>by simp [jG] <;> omega),qPW]
theorem zHD {s:List UInt8} (h:s.all qI=true):s.takeWhile qI=s∧s.dropWhile qI=[]:=by
 have:=qZC (W:=s) (F:=[]) h (by simp)
 simpa using this
theorem zCX (s:List UInt8):s.take (s.takeWhile qI).length=s.takeWhile qI∧s.drop (s.takeWhile qI).length=s.dropWhile qI:=by
 have h:=List.takeWhile_append_dropWhile (p:=qI) (l:=s)
 generalize s.takeWhile qI=A at *
 generalize s.dropWhile qI=B at *
 subst h
 simp
theorem qZE (s:List UInt8):(s.takeWhile qI).length≤s.length:=(List.takeWhile_sublist _).length_le
theorem zFI (s:List UInt8):(s.dropWhile qI).length≤s.length:=(List.dropWhile_sublist _).length_le
theorem qPE {s:List UInt8} {n:Int} (hc:(if s.all qI=true then (-1:Int) else ((s.takeWhile qI).length:Int))=n) (h:n<0):(s.takeWhile qI).length=s.length:=by
 split at hc
 ·rename_i ha; rw [(zHD ha).1]
 omega
theorem qIL {s:List UInt8} {n:Int} (hc:(if s.all qI=true then (-1:Int) else ((s.takeWhile qI).length:Int))=n) (h:0≤n):n=((s.takeWhile qI).length:Int):=by
 split at hc
 ·omega
 omega
theorem qCZ (s:List UInt8):AFn Tryz.prog G 144 [.str s] (.tup [.str (s.takeWhile qI),.str (s.dropWhile qI)]):=by
 refine AFn.introU tok Tryz.func144 (by kernel_rfl) rfl rfl ?_
 simp only [Tryz.f144,qR,List.map_cons,List.map_nil]
 have hI:=qFC (G:=G) s 102 jG qQZ
 rw [qRP] at hI
 have htw:=zCX s
 have hle:=qZE s
 generalize hc:(if s.all qI=true then (-1:Int) else ((s.takeWhile qI).length:Int))=n at hI
 refine rgn [] [[],[0]] ?_
 iterate 2 refine op1 tok ?_
 refine qA (rgn [.nilp,.int .i64 n] [[],[],[0,4]] ?_)
 iterate 3 refine oq1 tok hI ?_
 refine qA ?_
 refine AW.join (α:=Unit) (fun _=>True) (fun a=>⟨zR 17 [(0,.p (.str s)),(4,.p (.int .i64 (s.takeWhile qI).length))],[],[],0⟩) ?_ ?_
 ·
  refine rgn [] [[],[0,4,8]] ?_
  iterate 2 refine op1 tok ?_
  refine qA (cnd ?_ ?_)
  ·intro h8
   try simp at h8
   refine rgz [] [[],[],[0,4]] ?_
   iterate 3 refine op1 tok ?_
   refine qA ?_
   exact ⟨(),trivial,qJ (by simp [qPE hc h8]),rfl,by simp [qPE hc h8],by simp [qPE hc h8]⟩
  intro h8
  try simp at h8
  refine AW.skip ?_
  exact ⟨(),trivial,qJ (by simp [qIL hc h8]),rfl,by simp [qIL hc h8],by simp [qIL hc h8]⟩
 ·
  rintro a hI
  refine AW.seqRunDrawK tok mixed [2,3] 7 [[0],[4],[11,12],[0],[4],[14,15],[13]] [] [] (by kernel_rfl) (by intro C; conv=>lhs; simp) (by omega) (by simp [Sm.sum,Sm.foot,Sm.tch,Sm.refs]; kernel_rfl) (by intro C; conv=>lhs; simp) (by first | with_reducible exact True.intro | omega | simp | (simp +contextual; omega)) ?_
  exact AW.ret (qZ (k:=by simp [htw.1,htw.2]))
theorem zEF (s:List UInt8):(zB s).length≤s.length:=(List.dropWhile_sublist _).length_le
theorem qGC {d:Dc} (h:zY d=true):1≤d.digits.length∧d.digits.length≤60∧0≤d.scale∧d.scale≤60:=by
 unfold zY at h; simp only [Bool.and_eq_true,decide_eq_true_eq] at h; omega
theorem qHQ (t:List UInt8) (c:UInt8):wO t [c]=decide (t.head?=some c):=by cases t <;> simp [wO]
theorem qLG (D:List UInt8) (c:UInt8):uO (D++[c])=uO D * 10+(c.toNat-48):=by simp [uO]
theorem qUX {D:List UInt8} (h:D.all qI=true):uO D<10 ^ D.length:=by
 have key:∀ (r:List UInt8),r.all qI=true→uO r.reverse<10 ^ r.length:=by
  intro r
  induction r with
  | nil=>intro _; decide
  | cons b r ih =>
   intro h
   simp only [List.all_cons,Bool.and_eq_true,qI,kG,decide_eq_true_eq] at h
   have:=ih h.2
   rw [List.reverse_cons,qLG,List.length_cons,Nat.pow_succ]; omega
 have:=key D.reverse (by simpa using h)
 simpa using this
theorem qZF (s:List UInt8):(s.takeWhile qI).all qI=true:=List.all_takeWhile
theorem zDE (t:List UInt8):(zX t).length≤t.length:=by unfold zX; split <;> simp
theorem zJJ {t:List UInt8} {a b:Bool} (h1:a=decide (t.head?=some 45)) (h2:b=decide (t.head?=some 43)) (h:a=true∨b=true):t.tail=zX t∧1≤t.length:=by
 subst h1; subst h2
 simp only [decide_eq_true_eq] at h
 unfold zX; rw [if_pos h]
 refine ⟨by simp, ?_⟩
 cases t with
 | nil=>simp at h
 | cons a t=>simp
theorem qZH {t:List UInt8} {a b:Bool} (h1:a=decide (t.head?=some 45)) (h2:b=decide (t.head?=some 43)) (h:a=false∧b=false):t=zX t:=by
 subst h1; subst h2
 simp only [decide_eq_false_iff_not] at h
 unfold zX; rw [if_neg (fun h'=>h'.elim h.1 h.2)]
theorem qRV (s:List UInt8) (hs:s.length≤1000000000000):AFn Tryz.prog G 145 [.str s] (.tup [.int .i64 ((xY s).getD 0),.bool (xY s).isSome]):=by
 refine AFn.introU tok Tryz.func145 (by kernel_rfl) rfl rfl ?_
 simp only [Tryz.f145,qR,List.map_cons,List.map_nil]
 refine rgn [] [[],[0]] ?_
 iterate 2 refine op1 tok ?_
 refine qA (AW.seq (rgn [] [[],[0,11]] ?_))
 iterate 2 refine op1 tok ?_
 refine qA (cnd ?_ ?_)
 ·intro h11
  try simp at h11
  subst h11
  refine rgn [] [[],[]] ?_
  iterate 2 refine op1 tok ?_
  refine qA ?_
  exact AW.ret (qZ (k:=by simp [xY]))
 intro h11
 try simp at h11
 obtain ⟨b,t,rfl⟩:∃ b t,s=b::t:=by
  cases s with
  | nil=>exact absurd rfl h11
  | cons b t=>exact ⟨b,t,rfl⟩
 have hp1:=qHQ t 45
 have hp2:=qHQ t 43
 have hlt:=zDE t
 simp only [List.length_cons] at hs
 refine AW.skip (AW.seq (rgn [.int .u8 b.toNat,.int .u8 b.toNat] [[],[],[],[],[],[0,15,17],[],[0,19]] ?_))
 iterate 4 refine op1 tok ?_ (hv:=by first | with_reducible exact True.intro | (simp; done) | omega | simp | (simp +contextual; omega))
 iterate 3 refine op2 tok ?_ (hv:=by first | with_reducible exact True.intro | (simp; done) | omega | simp | (simp +contextual; omega))
 refine op1 tok ?_ (hv:=by first | with_reducible exact True.intro | (simp; done) | omega | simp | (simp +contextual; omega))
 refine qA (cnd ?_ ?_)
 ·intro h19
  try simp at h19
  have he:xY (b::t)=none:=by
   unfold xY; simp only; rw [if_pos ⟨by rintro rfl; exact h19.1 rfl,by rintro rfl; exact h19.2 rfl⟩]
  refine rgn [] [[],[]] ?_
  iterate 2 refine op1 tok ?_
  refine qA ?_
  exact AW.ret (qZ (k:=by simp [he]))
 intro h19
 try simp at h19
 have hb:¬ (b≠101∧b≠69):=by
  rintro ⟨h1,h2⟩
  have h1':b.toNat≠101:=fun e=>h1 (UInt8.toNat_inj.1 e)
  have h2':b.toNat≠69:=fun e=>h2 (UInt8.toNat_inj.1 e)
  have:=h19 (by omega)
  omega
 have he : xY (b :: t) = if (zX t).dropWhile qI ≠ [] ∨ ((zX t).takeWhile qI).length < 1 ∨ 2 < ((zX t).takeWhile qI).length then none
   else some (if t.head?=some 45 then-(uO ((zX t).takeWhile qI):Int) else uO ((zX t).takeWhile qI)):=by
  unfold xY; simp only; rw [if_neg hb]
 rw [he]
 clear he
 have hlead:=qCZ (G:=G) (zX t)
 have hall:=qZF (zX t)
 refine AW.skip (rgn [] [[],[],[0]] ?_)
 iterate 3 refine op1 tok ?_
 refine qA (rgn [.nilp,.bool (wO t [45])] [[],[],[0,4]] ?_)
 iterate 3 refine op1 tok ?_
 refine qA ?_
 refine AW.join (α:=Unit) (fun _=>True) (fun a=>⟨zR 63 [(0,.p (.str (zX t))),(4,.p (.bool (wO t [45])))],[],[],0⟩) ?_ ?_
 ·
  refine rgn [.nilp,.bool (wO t [43])] [[],[],[],[],[0,4,28]] ?_
  iterate 2 refine op1 tok ?_
  iterate 2 refine op2 tok ?_
  refine op1 tok ?_
  refine qA (cnd ?_ ?_)
  ·intro h28
   try simp at h28
   have hsT:=zJJ hp1 hp2 h28
   refine rgz [] [[],[],[0,4]] ?_
   iterate 3 refine op1 tok ?_
   refine qA ?_
   exact ⟨(),trivial,qJ (by simp [hsT.1]),rfl,by simp [hsT.1],by simp [hsT.1]⟩
  intro h28
  try simp at h28
  refine AW.skip ?_
  exact ⟨(),trivial,qJ (by simp [(qZH hp1 hp2 h28).symm]),rfl,by simp [(qZH hp1 hp2 h28).symm],by simp [(qZH hp1 hp2 h28).symm]⟩
 ·
  rintro a hI
  generalize zX t=u at *
  generalize u.takeWhile qI=D at *
  generalize u.dropWhile qI=E at *
  refine rgn [.nilp,.tup [.str D,.str E]] [[],[],[],[],[4,34,35],[],[4,5,6]] ?_
  iterate 7 refine oq1 tok hlead ?_
  refine qA (AW.seq (rgn [] [[],[],[],[],[4,5,38,40],[],[],[4,5,43],[],[],[],[4,5,47]] ?_))
  iterate 12 first | refine op1 tok ?_ | refine op2 tok ?_
  refine qA (cnd ?_ ?_)
  ·intro h47
   try simp at h47
   rw [if_pos (h47.elim (fun h=>h.elim .inl (fun h => .inr (.inl (by omega)))) (fun h => .inr (.inr (by omega))))]
   refine rgn [] [[],[]] ?_
   iterate 2 refine op1 tok ?_
   exact qA (AW.ret qZ)
  intro h47
  try simp at h47
  rw [if_neg (by
   rintro (h | h)
   ·exact h h47.1.1
   omega)]
  have hD2:D.length≤2:=by omega
  refine AW.skip (rgn [] [[]] ?_)
  refine op1 tok ?_
  refine qA (AW.seq (rgn [] [[],[4,7,49]] ?_))
  iterate 2 refine op1 tok ?_
  refine qA (AW.block ?_)
  refine AW.loop (α:=Nat) (fun pos=>pos≤D.length) (fun pos=>⟨zR 63 [(4,.p (.bool (wO t [45]))),(7,.p (.int .i64 (uO (D.take pos)))),(49,.it 49)],[],[(49,.iter D pos)],0⟩) (fun pos=>D.length-pos) (0) (by omega) ⟨qJ (by simp [uO]),rfl,by simp,by simp⟩ ?_
  rintro pos hp
  have hvl:uO (D.take pos)<10 ^ (D.take pos).length:=qUX (zBY hall pos)
  have hpw:10 ^ (D.take pos).length≤10 ^ 2:=Nat.pow_le_pow_right (by omega) (by simp; omega)
  by_cases hs14:pos<D.length
  ·
   refine rgn [.bool true] [[],[]] ?_
   iterate 2 refine oq1 tok hs14 ?_
   refine qA (AW.seq (cnd ?_ ?_))
   ·intro h51
    try simp at h51
    obtain ⟨c,hc⟩:∃ c,D[pos]?=some c:=⟨D[pos],by simp [hs14]⟩
    have hcd:qI c=true:=List.all_eq_true.1 hall c (List.mem_of_getElem? hc)
    have hcd2:48≤c.toNat∧c.toNat≤57:=by simp [qI,kG] at hcd; omega
    have hdl:xM D pos=(c.toNat,1):=by
     have hg:D.getD pos 0=c:=by simp [List.getD_eq_getElem?_getD,hc]
     have:=qKD (s:=D) (pos:=pos) hs14 (by rw [hg]; omega)
     rw [hg] at this; exact this
    have hsn:uO (D.take (pos+1))=uO (D.take pos) * 10+(c.toNat-48):=by rw [List.take_add_one,hc]; exact qLG _ _
    rw [hdl]
    refine AW.skip (AW.block (rgn [] [[],[4,7,9,49]] ?_))
    iterate 2 refine op1 tok ?_
    refine qA (rgz [] [[],[],[],[4,49,54,56],[],[],[4,7,49]] ?_)
    iterate 7 refine op1 tok ?_ (hv:=by first | with_reducible exact True.intro | (omega; done) | omega | simp | (simp +contextual; omega))
    refine qA ?_
    exact ⟨pos+1,by omega,by omega,qJ (by simp [hsn,(show ((c.toNat-48:Nat):Int)=(c.toNat:Int)-48 by omega)]),rfl,by simp [hsn,(show ((c.toNat-48:Nat):Int)=(c.toNat:Int)-48 by omega)],by simp [hsn,(show ((c.toNat-48:Nat):Int)=(c.toNat:Int)-48 by omega)]⟩
   intro h51
   try simp at h51
  ·
   refine rgn [.bool false] [[],[]] ?_
   iterate 2 refine oq1 tok hs14 ?_
   refine qA (AW.seq (cnd ?_ ?_))
   ·intro h51
    try simp at h51
   intro h51
   try simp at h51
   have hpD:D.take pos=D:=List.take_of_length_le (by omega)
   rw [hpD] at hvl hpw ⊢
   refine AW.exit ?_
   simp
   refine AW.seq (rgn [] [[7,59]] ?_)
   refine op1 tok ?_
   refine qA (cnd ?_ ?_)
   ·intro h59
    try simp at h59
    rw [hp1] at h59
    have ht:t.head?=some 45:=by simpa using h59
    rw [if_pos ht]
    have hw:IntKind.i64.wrap (-(uO D:Int)) = -(uO D:Int):=by simp [IntKind.wrap,IntKind.bits,IntKind.signed]; omega
    refine rgz [] [[],[],[7]] ?_
    iterate 3 refine op1 tok ?_ (hv:=by first | with_reducible exact True.intro | (omega; done) | omega | simp | (simp +contextual; omega))
    refine qA (rgn [] [[],[],[2,3]] ?_)
    iterate 3 refine op1 tok ?_
    refine qA ?_
    exact AW.ret (qZ (k:=by simp [hw]))
   intro h59
   try simp at h59
   rw [hp1] at h59
   have ht:¬ t.head?=some 45:=by simpa using h59
   rw [if_neg ht]
   refine AW.skip (rgn [] [[],[],[2,3]] ?_)
   iterate 3 refine op1 tok ?_
   exact qA (AW.ret qZ)
theorem qOF (neg:Bool) (digits:List UInt8) (scale:Nat) (hd:digits.length≤10000000000) (hs:scale≤10000000000):AFn Tryz.prog G 36 [.bool neg,.str digits,.int .i64 scale] (.tup [(yH neg digits scale).1.enc,.int .i64 (yH neg digits scale).2]):=by
 refine AFn.introU tok Tryz.func36 (by kernel_rfl) rfl rfl ?_
 simp only [Tryz.f36,qR,List.map_cons,List.map_nil]
 have hstr:(zB digits).length≤digits.length:=zEF digits
 refine rgn [] [[],[0,1,2,6]] ?_
 iterate 2 refine op1 tok ?_
 refine qA (rgn [.nilp,.str (zB digits)] [[],[],[0,1,2,6]] ?_)
 iterate 3 refine op1 tok ?_ (hv:=by first | with_reducible exact True.intro | (exact qPG digits 48 (by decide); done) | omega | simp | (simp +contextual; omega))
 refine qA (AW.seq (AW.block ?_))
 refine AW.loop (α:=List UInt8 × Nat) (fun a=>kX (zB digits) scale=kX a.1 a.2∧a.2≤scale∧a.1.length≤digits.length) (fun a=>⟨zR 40 [(0,.p (.bool neg)),(1,.p (.str a.1)),(2,.p (.int .i64 a.2)),(6,.ptr 6 0)],[],[(6,.vars 39 [.p (.bool false),.p (.str []),.p (.int .i64 0)])],0⟩) (fun a=>a.2) ((zB digits,scale)) ⟨rfl,Nat.le_refl _,hstr⟩ ⟨qJ (by simp),rfl,by simp,by simp⟩ ?_
 rintro ⟨d,k⟩ ⟨ht,hk,hdl⟩
 simp only at ht hk hdl
 have hsf:=qPI (G:=G) d 48
 refine AW.seq (rgn [.nilp,.bool (decide (d.getLast?=some 48))] [[],[],[],[],[],[0,1,2,6,15]] ?_)
 iterate 3 refine op1 tok ?_ (hv:=by first | with_reducible exact True.intro | (first | exact fun h=>⟨h,hsf⟩ | simp; done) | omega | simp | (simp +contextual; omega))
 iterate 2 refine op2 tok ?_ (hv:=by first | with_reducible exact True.intro | (first | exact fun h=>⟨h,hsf⟩ | simp; done) | omega | simp | (simp +contextual; omega))
 refine op1 tok ?_ (hv:=by first | with_reducible exact True.intro | (first | exact fun h=>⟨h,hsf⟩ | simp; done) | omega | simp | (simp +contextual; omega))
 refine qA (cnd ?_ ?_)
 ·intro h15
  try simp at h15
  obtain ⟨k,rfl⟩:∃ k',k=k'+1:=⟨k-1,by omega⟩
  have hl:d.getLast?=some 48:=by simpa using h15.2
  have hpos:0<d.length:=by cases d with
   | nil=>simp at hl
   | cons=>simp
  have ht':kX (zB digits) scale=kX d.dropLast k:=by rw [ht]; simp only [kX]; rw [if_pos hl]
  refine AW.skip (AW.block (rgz [] [[],[],[],[],[0,2,6,20],[],[],[],[0,1,2,6]] ?_))
  iterate 9 refine op1 tok ?_ (hv:=by first | with_reducible exact True.intro | (omega; done) | omega | simp | (simp +contextual; omega))
  refine qA ?_
  exact ⟨(d.dropLast,k),⟨ht',by simp only []; omega,by simp; omega⟩,by simp,qJ (by simp [qFI]),rfl,by simp [qFI],by simp [qFI]⟩
 intro h15
 try simp at h15
 have htl:kX (zB digits) scale=(d,k):=by
  rw [ht]
  cases k with
  | zero=>rfl
  | succ k =>
   simp only [kX]
   rw [if_neg]
   intro hl
   have:=h15 (by omega)
   simp [hl] at this
 have hN:yH neg digits scale=if d=[] then (⟨false,[48],0⟩,0) else if 60<d.length∨60<k then (⟨false,[],0⟩,3) else (⟨neg,d,k⟩,0):=by unfold yH; simp only [htl]
 rw [hN]
 refine AW.exit ?_
 simp
 refine AW.seq (AW.block (rgn [] [[],[],[0,1,2,6,23]] ?_))
 iterate 3 refine op1 tok ?_
 refine qA (cnd ?_ ?_)
 ·intro h23
  try simp at h23
  subst h23
  refine rgn [] [[],[],[6,7]] ?_
  iterate 3 refine op1 tok ?_
  exact qA (AW.ret qZ)
 intro h23
 try simp at h23
 rw [if_neg h23]
 refine rgn [] [[],[],[],[],[],[0,1,2,6,31,33],[],[0,1,2,6,27]] ?_
 iterate 4 refine op1 tok ?_
 iterate 2 refine op2 tok ?_
 iterate 2 refine op1 tok ?_
 refine qA (cnd ?_ ?_)
 ·intro h27
  try simp at h27
  rw [if_pos (by omega)]
  refine rgn [] [[],[],[6,7]] ?_
  iterate 3 refine op1 tok ?_
  exact qA (AW.ret qZ)
 intro h27
 try simp at h27
 rw [if_neg (by omega)]
 refine AW.skip (rgn [] [[],[],[],[6,39],[],[6,7]] ?_)
 iterate 6 refine op1 tok ?_
 exact qA (AW.ret qZ)
theorem zBL (s:List UInt8):jR s [45]=yJ s∧wO s [45]=qJG s:=by
 have h:=qHQ s 45
 unfold jR yJ qJG
 rw [h]
 refine ⟨?_,rfl⟩
 simp
theorem zEM (s:List UInt8):(yJ s).length≤s.length:=by unfold yJ; split <;> simp
theorem zGK {W:List UInt8} (h:(((W[0]?.getD 0).toNat:Nat):Int)=48):W.head?=some 48:=by
 cases W with
 | nil=>simp at h
 | cons b W=>simp at h ⊢; exact UInt8.toNat_inj.1 (by show b.toNat=48; omega)
theorem zFD (n:Nat):Lib.repeatL [48] n=wB n:=by
 unfold wB
 induction n with
 | zero=>rfl
 | succ n ih=>simp only [Lib.repeatL,List.replicate_succ,ih]; rfl
theorem qUB (q:List UInt8) : -99≤(xY q).getD 0∧(xY q).getD 0≤99:=by
 unfold xY
 split
 ·simp
 rename_i b t
 split
 ·simp
 split
 ·simp
 rename_i h
 have h1:=qUX (qZF (zX t))
 have h2:10 ^ ((zX t).takeWhile qI).length≤10 ^ 2:=Nat.pow_le_pow_right (by omega) (by omega)
 simp only [Option.getD_some]
 split <;> omega
theorem qSJ (s:List UInt8) (hs:s.length≤1000000000):AFn Tryz.prog G 118 [.str s] (.tup [(zW s).1.enc,.int .i64 (zW s).2]):=by
 refine AFn.introU tok Tryz.func118 (by kernel_rfl) rfl rfl ?_
 simp only [Tryz.f118,qR,List.map_cons,List.map_nil]
 have hbp:=zBL s
 have hbl:=zEM s
 have hP:zW s=match jY ((yJ s).dropWhile qI) with
  | none=>jN
  | some (P,r)=>qJZ (qJG s) ((yJ s).takeWhile qI) P (xY r):=rfl
 rw [hP]
 clear hP
 have hl1:=qCZ (G:=G) (yJ s)
 have hw1:=qZE (yJ s)
 have hw2:=zFI (yJ s)
 have hcp:=qAF (G:=G) s [45]
 rw [hbp.1,hbp.2] at hcp
 generalize yJ s=u at *
 generalize qJG s=ng at *
 generalize u.takeWhile qI=W at *
 generalize u.dropWhile qI=r at *
 have hcr:=qAF (G:=G) r [46]
 have hr46:=qHQ r 46
 have hcut:jR r [46]=if r.head?=some 46 then r.drop 1 else r:=by unfold jR; rw [hr46]; simp
 have hl2:=qCZ (G:=G) (r.drop 1)
 have hv1:=qZE (r.drop 1)
 have hv2:=zFI (r.drop 1)
 rw [List.length_drop] at hv1 hv2
 refine rgn [] [[],[0,2]] ?_
 iterate 2 refine op1 tok ?_
 refine qA (rgn [.nilp,.tup [.str u,.bool ng]] [[],[],[],[],[2,17,18],[],[2,4,5]] ?_)
 iterate 7 refine oq1 tok hcp ?_
 refine qA (rgn [.nilp,.tup [.str W,.str r]] [[],[],[],[],[2,5,22,23],[],[2,4,5,6]] ?_)
 iterate 7 refine oq1 tok hl1 ?_
 refine qA (rgn [] [[]] ?_)
 refine op1 tok ?_
 refine qA ?_
 refine AW.join (α:=List UInt8 × List UInt8) (fun a=>jY r=some (a.1,a.2)∧a.1.length≤s.length∧a.2.length≤s.length) (fun a=>⟨zR 80 [(2,.ptr 2 0),(4,.p (.str a.2)),(5,.p (.bool ng)),(6,.p (.str W)),(7,.p (.str a.1))],[],[(2,.vars 39 [.p (.bool false),.p (.str []),.p (.int .i64 0)])],0⟩) ?_ ?_
 ·
  refine rgn [.nilp,.tup [.str (jR r [46]),.bool (wO r [46])]] [[],[],[],[],[],[2,4,5,6,7,8,28],[2,4,5,6,7,8,9]] ?_
  iterate 7 refine oq1 tok hcr ?_
  refine qA (rgn [] [[2,4,5,6,7,8,29]] ?_)
  refine op1 tok ?_
  refine qA (cnd ?_ ?_)
  ·intro h29
   try simp at h29
   have hh:r.head?=some 46:=by rw [hr46] at h29; simpa using h29
   rw [if_pos hh] at hcut
   rw [hcut]
   have hF:jY r=if (r.drop 1).takeWhile qI=[] then none else some ((r.drop 1).takeWhile qI,(r.drop 1).dropWhile qI):=by unfold jY; rw [if_pos hh]
   rw [hF]
   generalize (r.drop 1).takeWhile qI=P at *
   generalize (r.drop 1).dropWhile qI=q at *
   rw [List.drop_one] at hl2
   refine rgn [.nilp,.tup [.str P,.str q]] [[],[],[],[],[2,5,6,33,34],[],[2,4,5,6,7]] ?_
   iterate 7 refine oq1 tok hl2 ?_
   refine qA (rgn [] [[],[2,4,5,6,7,36]] ?_)
   iterate 2 refine op1 tok ?_
   refine qA (cnd ?_ ?_)
   ·intro h36
    try simp at h36
    rw [if_pos h36]
    refine rgn [] [[],[],[2,3]] ?_
    iterate 3 refine op1 tok ?_
    refine qA ?_
    exact AW.ret (qZ (k:=by simp [jN]))
   intro h36
   try simp at h36
   rw [if_neg h36]
   refine AW.skip ?_
   exact ⟨(P,q),⟨rfl,by simp only []; omega,by simp only []; omega⟩,qJ (by simp),rfl,by simp,by simp⟩
  intro h29
  try simp at h29
  have hh:¬ r.head?=some 46:=by rw [hr46] at h29; simpa using h29
  have hF:jY r=some ([],r):=by unfold jY; rw [if_neg hh]
  rw [hF]
  refine AW.skip ?_
  exact ⟨([],r),⟨rfl,by simp,by simp only []; omega⟩,qJ (by simp),rfl,by simp,by simp⟩
 ·
  rintro ⟨P,q⟩ ⟨hf,hpl,hql⟩
  simp only at hpl hql
  rw [hf]
  simp only
  have hex:=qRV (G:=G) q (by omega)
  have hrg:=qUB q
  generalize xY q=e at *
  have hix:∀ h:W≠[],W[0]?=some (W.getD 0 0):=fun h=>qRQ (List.length_pos_iff.2 h)
  refine rgn [.nilp,.tup [.int .i64 (e.getD 0),.bool e.isSome]] [[],[],[],[],[2,5,6,7,41,42],[],[2,5,6,7,10,11]] ?_
  iterate 7 refine oq1 tok hex ?_
  refine qA (AW.seq (rgn [.int .u8 (W.getD 0 0).toNat] [[],[],[],[],[2,5,6,7,10,45,47],[],[],[],[2,5,6,7,10,49,51],[],[],[],[],[2,5,6,7,10,49,53,56],[],[2,5,6,7,10,58]] ?_))
  iterate 16 first | refine op1 tok ?_ (hv:=by first | with_reducible exact True.intro | (first | exact fun h1 h2 h3=>⟨⟨⟨h1,h2⟩,h3⟩,_,hix h2,rfl⟩ | exact fun h1 h2=>⟨⟨h1,h2⟩,fun h3=>⟨⟨h1,h2⟩,h3⟩⟩ | simp; done) | omega | simp | (simp +contextual; omega)) | refine op2 tok ?_ (hv:=by first | with_reducible exact True.intro | (first | exact fun h1 h2 h3=>⟨⟨⟨h1,h2⟩,h3⟩,_,hix h2,rfl⟩ | exact fun h1 h2=>⟨⟨h1,h2⟩,fun h3=>⟨⟨h1,h2⟩,h3⟩⟩ | simp; done) | omega | simp | (simp +contextual; omega))
  refine qA (cnd ?_ ?_)
  ·intro h58
   try simp at h58
   have hbad:qJZ ng W P e=jN:=by
    cases e with
    | none=>rfl
    | some up =>
     simp only [qJZ]
     rw [if_pos]
     rcases h58 with (h | h) | h
     ·cases h
     ·exact .inl h
     exact .inr ⟨by omega,zGK h.2⟩
   rw [hbad]
   refine rgn [] [[],[],[2,3]] ?_
   iterate 3 refine op1 tok ?_
   refine qA ?_
   exact AW.ret (qZ (k:=by simp [jN]))
  intro h58
  try simp at h58
  obtain ⟨up,rfl⟩:∃ up,e=some up:=by
   cases e with
   | none=>exact absurd rfl h58.1.1
   | some up=>exact ⟨up,rfl⟩
  have hend:qJZ ng W P (some up)=xF ng (W++P) (P.length-up):=by
   simp only [qJZ]; rw [if_neg]
   rintro (h | ⟨h,h'⟩)
   ·exact h58.1.2 h
   refine h58.2 (by omega) ?_
   cases W with
   | nil=>simp at h'
   | cons b W=>simp at h'; subst h'; rfl
  rw [hend]
  simp only [Option.getD_some] at hrg ⊢
  have hWP:(W++P).length≤2000000000:=by simp; omega
  refine AW.skip (rgn [] [[],[],[],[2,5,10,62,63],[],[],[2,5,62,66],[],[2,5,12,13]] ?_)
  iterate 9 refine op1 tok ?_
  refine qA (AW.seq (rgn [] [[],[2,5,12,13,68]] ?_))
  iterate 2 refine op1 tok ?_
  refine qA (cnd ?_ ?_)
  ·intro h68
   try simp at h68
   obtain ⟨z,hz⟩:∃ z:Nat,(z:Int)=up-P.length:=⟨(up-P.length).toNat,by omega⟩
   have hw3:IntKind.i64.wrap (-((P.length:Int)-up))=(z:Int):=by simp [IntKind.wrap,IntKind.bits,IntKind.signed]; omega
   have hrp:=qNC (G:=G) [48] z (by simp; omega)
   rw [zFD] at hrp
   have hL:xF ng (W++P) ((P.length:Int)-up)=yH ng (W++(P++wB z)) 0:=by
    unfold xF; rw [if_pos h68,show (-((P.length:Int)-up)).toNat=z by omega,List.append_assoc]
   have hzl:(wB z).length=z:=by simp [wB]
   rw [hL]
   have hmd:=qOF (G:=G) ng (W++(P++wB z)) 0 (by simp [wB] at hWP ⊢; omega) (by omega)
   refine rgz [.nilp,.str (wB z)] [[],[],[],[2,5,69,72],[],[],[2,5,12,13]] ?_
   iterate 7 refine op1 tok ?_ (hv:=by first | with_reducible exact True.intro | (first | (rw [hw3]; exact hrp) | (simp at hWP; omega); done) | omega | simp | (simp +contextual; omega))
   refine qA (rgn [.nilp,.tup [(yH ng (W++(P++wB z)) 0).1.enc,.int .i64 (yH ng (W++(P++wB z)) 0).2]] [[],[],[],[2,77],[],[],[],[2,3]] ?_)
   iterate 8 refine oq1 tok hmd ?_
   exact qA (AW.ret qZ)
  intro h68
  try simp at h68
  obtain ⟨sc,hsc⟩:∃ sc:Nat,(sc:Int)=P.length-up:=⟨((P.length:Int)-up).toNat,by omega⟩
  have hL:xF ng (W++P) ((P.length:Int)-up)=yH ng (W++P) sc:=by
   unfold xF; rw [if_neg (by omega),show ((P.length:Int)-up).toNat=sc by omega]
  rw [hL]
  have hmd:=qOF (G:=G) ng (W++P) sc (by omega) (by omega)
  rw [hsc] at hmd
  refine AW.skip (rgn [.nilp,.tup [(yH ng (W++P) sc).1.enc,.int .i64 (yH ng (W++P) sc).2]] [[],[],[],[2,77],[],[],[],[2,3]] ?_)
  iterate 8 refine oq1 tok hmd ?_
  exact qA (AW.ret qZ)
theorem qHD (d:Dc) (hd:zY d=true):AFn Tryz.prog G 40 [d.enc] (.str (yG d)):=by
 refine AFn.introU tok Tryz.func40 (by kernel_rfl) rfl rfl ?_
 simp only [Tryz.f40,qR,List.map_cons,List.map_nil]
 have hb:=qGC hd
 have hrp:=qNC (G:=G) [48] (d.scale.toNat+1-d.digits.length) (by simp; omega)
 rw [zFD] at hrp
 have hmx:(if (d.digits.length:Int)<d.scale+1 then d.scale+1-d.digits.length else 0)=((d.scale.toNat+1-d.digits.length:Nat):Int):=by split <;> omega
 have hzl:(wB (d.scale.toNat+1-d.digits.length)).length=d.scale.toNat+1-d.digits.length:=by simp [wB]
 have hpl:(wL d).length=d.scale.toNat+1-d.digits.length+d.digits.length:=by simp [wL,wB]
 have hP:yG d=(if d.neg=true then [45] else [])++(if d.scale=0 then wL d else (wL d).take ((wL d).length-d.scale.toNat)++46::(wL d).drop ((wL d).length-d.scale.toNat)):=rfl
 have hpad:wB (d.scale.toNat+1-d.digits.length)++d.digits=wL d:=rfl
 rw [hP]
 refine rgn [] [[],[1]] ?_
 iterate 2 refine op1 tok ?_
 refine qA ?_
 refine AW.seqRunDrawK tok mixed [1,3] 12 [[1],[6],[7],[1],[9],[10],[8,11],[12],[13],[1],[15],[14,16]] [.nilp,.str (wB (d.scale.toNat+1-d.digits.length))] [] (by kernel_rfl) (by intro C; conv=>lhs; simp) (by rw [hmx]; refine ⟨by omega,by omega,hrp,by omega⟩) (by simp [Sm.sum,Sm.foot,Sm.tch,Sm.refs]; kernel_rfl) (by intro C; conv=>lhs; simp) (by first | with_reducible exact True.intro | omega | simp | (simp +contextual; omega)) ?_
 refine rgn [] [[]] ?_
 refine op1 tok ?_
 refine qA ?_
 refine AW.join (α:=Unit) (fun _=>True) (fun a=>⟨zR 41 [(1,.ptr 1 0),(3,.p (.str (wL d))),(4,.p (.str (if d.neg=true then [45] else [])))],[],[(1,.vars 39 [.p (.bool d.neg),.p (.str d.digits),.p (.int .i64 d.scale)])],0⟩) ?_ ?_
 ·
  refine rgn [] [[],[1,3,4,19]] ?_
  iterate 2 refine op1 tok ?_
  refine qA (cnd ?_ ?_)
  ·intro h19
   try simp at h19
   refine rgz [] [[]] ?_
   refine op1 tok ?_
   refine qA ?_
   exact ⟨(),trivial,qJ (by simp [hpad,h19]),rfl,by simp [hpad,h19],by simp [hpad,h19]⟩
  intro h19
  try simp at h19
  refine AW.skip ?_
  exact ⟨(),trivial,qJ (by simp [hpad,h19]),rfl,by simp [hpad,h19],by simp [hpad,h19]⟩
 ·
  rintro a hI
  have hsg:(if d.neg=true then [45] else []:List UInt8).length≤1:=by split <;> simp
  generalize (if d.neg=true then [45] else []:List UInt8)=sg at *
  have hk:((wL d).length-d.scale).toNat=(wL d).length-d.scale.toNat:=by omega
  generalize wL d=pd at *
  refine AW.seq (rgn [] [[],[],[1,3,4,22]] ?_)
  iterate 3 refine op1 tok ?_
  refine qA (cnd ?_ ?_)
  ·intro h22
   try simp at h22
   refine rgn [] [[],[],[25],[2]] ?_
   iterate 4 refine op1 tok ?_ (hv:=by first | with_reducible exact True.intro | (omega; done) | omega | simp | (simp +contextual; omega))
   refine qA ?_
   exact AW.ret (qZ (k:=by simp [h22]))
  intro h22
  try simp at h22
  refine AW.skip (rgn [] [[],[],[],[],[3,4,30],[3,4,5]] ?_)
  iterate 6 refine op1 tok ?_
  refine qA ?_
  refine AW.seqRunDrawK tok mixed [2] 10 [[4],[3],[5],[32,33],[31,34],[35],[3],[5],[37,38],[36,39]] [] [] (by kernel_rfl) (by intro C; conv=>lhs; simp) (by omega) (by simp [Sm.sum,Sm.foot,Sm.tch,Sm.refs]; kernel_rfl) (by intro C; conv=>lhs; simp) (by first | with_reducible exact True.intro | omega | simp | (simp +contextual; omega)) ?_
  exact AW.ret (qZ (k:=by simp [h22,hk]))
end Go.Proofs.YtlmedakhioiahaaGreatDoor
namespace Go.Proofs.YtlmedakhioiahaaGreatDoor.Sy
open Go
section
variable {P:Program} {T:Tab} {G:qO} {st:St}
theorem zCJ {o:Oper} {t ty:TypeId} {x:Operand} {p:Prop} (b:Bool) (ho:o.op = .binOp .eql t x (.const .nilIface) ty) (ht:qOJ P t=true) (ha:st.arg G x=(p,.p (if b=true then .noerr else .err))) (hp:p):qY P G o st (.p (.bool b)) st:=by
 obtain ⟨ms,ht⟩:=qOI ht
 intro c M μ tmps w hg r
 have h1:=(qE hg r ha hp).p_inv
 generalize hu:Act.eval ⟨tmps,[]⟩ x=u at h1
 have e1:(execOp (Act.eval ⟨tmps,[]⟩) o).run P w = .ok (.value (.bool b)) w:=by
  cases b with
  | false =>
   simp only [Bool.false_eq_true,if_false] at h1
   cases h1 with
   | @err t' v' =>
   have he:(Op.equal t (.iface t' v') .nilIface).run P w = .ok false w:=zGM 9999 ht t' v' w
   have hg':(eqGuard .eql t x (.const .nilIface) (.iface t' v') .nilIface).run P w = .ok () w:=by simp only [eqGuard]; rfl
   have hb2:(binOp .eql t (.iface t' v') .nilIface).run P w = .ok (.bool false) w:=by
    show (do pure (.bool (← Op.equal t (.iface t' v') .nilIface)):Sem Value).run P w=_
    simp only [Sem.run_bind,he,Result.andThen]; rfl
   simp [execOp,ho,hu,hg',hb2,show Act.eval ⟨tmps,[]⟩ (.const .nilIface) = .nilIface from rfl]
  | true =>
   simp only [if_true] at h1
   cases h1
   have he:(Op.equal t .nilIface .nilIface).run P w = .ok true w:=zAV 9999 ht w
   have hg':(eqGuard .eql t x (.const .nilIface) .nilIface .nilIface).run P w = .ok () w:=by simp only [eqGuard]; simp
   have hb2:(binOp .eql t .nilIface .nilIface).run P w = .ok (.bool true) w:=by
    show (do pure (.bool (← Op.equal t .nilIface .nilIface)):Sem Value).run P w=_
    simp only [Sem.run_bind,he,Result.andThen]; rfl
   simp [execOp,ho,hu,hg',hb2,show Act.eval ⟨tmps,[]⟩ (.const .nilIface) = .nilIface from rfl]
 rw [e1]
 exact ⟨M,μ,r,.p (.bool b)⟩
theorem qHT (hT : TOK P T) {o : Oper} {t : TypeId} {a : Operand} (ho : o.op = .load t a) {ti : TI} (ht : T t = some ti) (hag : ti.k.agg = false) {p : Prop} {id off : Nat} (ha : st.arg G a = (p, .ptr id off)) (hp : p) {e : TypeId} {cs : List V}
  (hb:zO id st.H=some (.vars e cs)) {y:V} (hy:cs[off]?=some y):qY P G o st y st:=by
 have hd:cs.drop off=y::cs.drop (off+1):=by
  obtain ⟨h1,h2⟩:=List.getElem?_eq_some_iff.1 hy
  rw [List.drop_eq_getElem_cons h1,h2]
 refine jS hT (orc:=[]) (orc':=[]) (v:=p∧True) ?_ ⟨hp,trivial⟩
 rw [ho]
 simp only [yX,ha,qJL,ht,hb,hag,hd]
theorem qGH (hT : TOK P T) {o : Oper} {t : TypeId} {a x : Operand} (ho : o.op = .store t a x) {ti : TI} (ht : T t = some ti) (hs : ti.size = 1) {p q : Prop} {id off : Nat} (ha : st.arg G a = (p, .ptr id off)) (hp : p) {v : V} (hx : st.arg G x = (q, v)) (hq : q) (hv : v.cells = some [v]) {e : TypeId} {cs : List V}
  (hb:zO id st.H=some (.vars e cs)) (hoff:off<cs.length) {cs':List V} (hc:cs.set off v=cs') {H':List (Nat × Box)} (hH:zQ id (.vars e cs') st.H=H'):qY P G o st .dead { st with H:=H' }:=by
 have h:=qUU hT ho ht ha hp hx hq hb hv (by rw [hs]; rfl) (by simp only [List.length_singleton]; omega)
 rw [qIK _ _ _ hoff,hc,hH] at h
 exact h
end
section
variable {P:Program} {G:qO} {st st' st0:St} {rest:List Oper} {ts:List Nat} {tss:List (List Nat)} {acc:qBM} {o:Oper} {K:qBM→St→Prop}
theorem jB.q (ids : List Nat) (x : V) (hgd : o.guard = none) (y : qY P G o ⟨wS st.tmps ts, ids, [], st.base⟩ x ⟨wS st.tmps ts, ids, [], st.base⟩) (hids : ∀ i ∈ V.ids x, i ∈ ids) (hn : ndB st.H = true)
  (hst:st.after o.dst ⟨x,[],[],ids,[],true⟩=st') (k:jB P G st0 rest tss st' (acc++[(Sm.mk x [] [] ids [] true).sum]) K):jB P G st0 (o::rest) (ts::tss) st acc K:=by
 subst hst
 obtain ⟨sms,st1,e,hk⟩:=k
 have hgood:∀ i∈V.ids x++jH ([]:List (Nat × Box)),i∈ids∨i∈([]:List Nat):=fun i hi => .inl (hids i (by simpa [jH] using hi))
 refine ⟨⟨x,[],[],ids,[],true⟩::sms,st1,.one hgd (yC hn) ⟨fun _=>rfl,hgood,fun i hi=>by simp [qM] at hi,by simp⟩ (by simp) (fun c M μ st' tmps w R K hG rel hle hbox hnw k => ?_) e,by simpa using hk⟩
 exact qBA (s:=⟨x,[],[],ids,[],true⟩) (small:=⟨wS st.tmps ts,ids,[],st.base⟩) (s':=⟨wS st.tmps ts,ids,[],st.base⟩) rfl (by simp) rfl (fun i hi=>hi) (fun i hi=>by simp [qM] at hi) hgood y c M μ st' tmps w R K hG rel hle hbox hnw k
end
end Go.Proofs.YtlmedakhioiahaaGreatDoor.Sy
namespace Go.Proofs.YtlmedakhioiahaaGreatDoor
open Sy Go
set_option maxRecDepth 100000
set_option maxHeartbeats 4000000
set_option linter.unusedSimpArgs false
set_option linter.unusedVariables false
variable {G:qO}
theorem zDI (l:List UInt8) (hl:l.length≤1000000):AX Tryz.prog G 35 [.ms 90] [(90,.row 5 1 (qH l))] (.tuple []) [90] [(90,.row 5 1 (qH l.reverse))]:=by
 refine AX.introU tok 700 Tryz.func35 (by kernel_rfl) rfl rfl ?_
 simp only [Tryz.f35,qR,List.map_cons,List.map_nil]
 refine rgn [] [[],[],[],[],[0,2,3]] ?_
 iterate 5 refine op1 tok ?_
 refine qA (AW.block ?_)
 refine AW.loop (α:=Nat) (fun k=>k≤l.length) (fun k=>⟨zR 28 [(0,.ms 90),(2,.p (.int .i64 k)),(3,.p (.int .i64 ((l.length:Int)-1-k)))],[90],[(90,.row 5 1 (qH (qKW l k)))],700⟩) (fun k=>l.length-k) (0) (by omega) ⟨qJ (by simp),rfl,by simp [qWU],by simp⟩ ?_
 rintro k hk
 have hlen:=vZ l k
 refine AW.seq (rgn [] [[],[],[0,2,3,9]] ?_)
 iterate 3 refine op1 tok ?_
 refine qA (cnd ?_ ?_)
 ·intro h9
  try simp at h9
  have h2:2 * k+1<l.length:=by omega
  have g1:=uA l k (i:=k) (by omega)
  have g2:=uA l k (i:=l.length-1-k) (by omega)
  rw [if_neg (by omega)] at g1 g2
  have hst:=qWV l h2
  generalize l.getD k 0=x at *
  generalize l.getD (l.length-1-k) 0=y at *
  generalize qKW l k=R at *
  have hix:((l.length:Int)-1-k).toNat=l.length-1-k:=by omega
  have b1:(qH R)[k]?=some (.int .u8 x.toNat):=qDL g1
  have b2:(qH R)[l.length-1-k]?=some (.int .u8 y.toNat):=qDL g2
  have b3:((qH R).set k (.int .u8 y.toNat))[l.length-1-k]?=some (.int .u8 y.toNat):=by rw [List.getElem?_set_ne (by omega)]; exact b2
  refine AW.skip (AW.seq (AW.block ?_))
  refine AW.drawR mixed 14 [[0],[2],[0],[3],[0],[3],[18,19],[20],[0],[2],[22,23],[24],[14,15],[26,21]] [.int .u8 y.toNat,.int .u8 x.toNat] (by kernel_rfl) ?_
  iterate 2 refine jB.one tok (orc:=[]) (by intro C; conv=>lhs; simp) (by first | with_reducible exact True.intro | (first | (simp [b1,b2,hix,hlen]; done) | (simp [b1,b2,hix,hlen]; omega); done) | omega | simp | (simp +contextual; omega)) rfl (by kernel_rfl) ?_
  refine jB.q [90] (.ms 90) rfl (jS tok (orc:=[]) (orc':=[]) (v:=True) (by conv=>lhs; simp) trivial) (by simp) (by kernel_rfl) (by conv=>lhs; simp) ?_
  iterate 4 refine jB.one tok (orc:=[]) (by intro C; conv=>lhs; simp) (by first | with_reducible exact True.intro | (first | (simp [b1,b2,hix,hlen]; done) | (simp [b1,b2,hix,hlen]; omega); done) | omega | simp | (simp +contextual; omega)) rfl (by kernel_rfl) ?_
  refine jB.one tok (orc:=[.int .u8 y.toNat]) (by intro C; conv=>lhs; simp) (by first | with_reducible exact True.intro | (first | (simp [b1,b2,hix,hlen]; done) | (simp [b1,b2,hix,hlen]; omega); done) | omega | simp | (simp +contextual; omega)) rfl (by kernel_rfl) ?_
  iterate 3 refine jB.one tok (orc:=[]) (by intro C; conv=>lhs; simp) (by first | with_reducible exact True.intro | (first | (simp [b1,b2,hix,hlen]; done) | (simp [b1,b2,hix,hlen]; omega); done) | omega | simp | (simp +contextual; omega)) rfl (by kernel_rfl) ?_
  refine jB.one tok (orc:=[.int .u8 x.toNat]) (by intro C; conv=>lhs; simp) (by first | with_reducible exact True.intro | (first | (simp [b1,b2,hix,hlen]; done) | (simp [b1,b2,hix,hlen]; omega); done) | omega | simp | (simp +contextual; omega)) rfl (by kernel_rfl) ?_
  refine jB.one tok (orc:=[]) (by intro C; conv=>lhs; simp) (by first | with_reducible exact True.intro | (first | (simp [b1,b2,hix,hlen]; done) | (simp [b1,b2,hix,hlen]; omega); done) | omega | simp | (simp +contextual; omega)) rfl (by kernel_rfl) ?_
  refine jB.one tok (orc:=[.int .u8 x.toNat,.int .u8 y.toNat]) (by intro C; conv=>lhs; simp) (by first | with_reducible exact True.intro | (first | (simp [b1,b2,hix,hlen]; done) | (simp [b1,b2,hix,hlen]; omega); done) | omega | simp | (simp +contextual; omega)) rfl (by kernel_rfl) ?_
  refine jB.nil (by kernel_rfl) ⟨by kernel_rfl, ?_⟩
  refine qD.run [[],[0,2,3]] ?_
  iterate 2 refine op1 tok ?_ (hv:=by first | with_reducible exact True.intro | (first | (simp [b3,hix,hlen]; done) | (simp [b3,hix,hlen]; omega); done) | omega | simp | (simp +contextual; omega))
  refine qA (rgz [] [[],[],[],[0,11,13],[],[0,2,3]] ?_)
  iterate 6 refine op1 tok ?_
  refine qA ?_
  exact ⟨k+1,by omega,by omega,qJ (by simp [← hst,qBJ,show (l.length:Int)-1-k-1=l.length-1-(k+1) from by omega]),rfl,by simp [← hst,qBJ,show (l.length:Int)-1-k-1=l.length-1-(k+1) from by omega],by simp [← hst,qBJ,show (l.length:Int)-1-k-1=l.length-1-(k+1) from by omega]⟩
 intro h9
 try simp at h9
 have hall:=qZO l (k:=k) (by omega)
 rw [← hall]
 refine AW.exit ?_
 simp
 exact qJU
theorem qYO (n:Int) (h0 : -9223372036854775808≤n) (h1:n≤9223372036854775807):AFn Tryz.prog G 19 [.int .i64 n] ((vB n).enc):=by
 refine AFn.introU tok Tryz.func19 (by kernel_rfl) rfl rfl ?_
 simp only [Tryz.f19,qR,List.map_cons,List.map_nil]
 have hU:n.natAbs<10 ^ 20:=by omega
 have hdl:=qBC 20 n.natAbs hU
 have hmd:=qOF (G:=G) (decide (n<0)) (kL n.natAbs) 0 (by omega) (by omega)
 have hI:vB n=(yH (decide (n<0)) (kL n.natAbs) 0).1:=rfl
 rw [hI]
 generalize yH (decide (n<0)) (kL n.natAbs) 0=r1 at *
 obtain ⟨q1,e1⟩:=r1
 simp only [Dc.enc] at hmd
 refine rgn [] [[]] ?_
 refine op1 tok ?_
 refine qA (rgn [] [[],[],[0,2,3]] ?_)
 iterate 3 refine op1 tok ?_
 refine qA ?_
 refine AW.join (α:=Unit) (fun _=>True) (fun a=>⟨zR 35 [(0,.p (.int .i64 n)),(2,.ptr 2 0),(3,.p (.int .u64 (n.natAbs:Nat)))],[],[(2,.vars 39 [.p (.bool false),.p (.str []),.p (.int .i64 0)])],0⟩) ?_ ?_
 ·
  refine rgn [] [[],[0,2,3,10]] ?_
  iterate 2 refine op1 tok ?_
  refine qA (cnd ?_ ?_)
  ·intro h10
   try simp at h10
   have hw:IntKind.u64.wrap (-(IntKind.u64.wrap n))=(n.natAbs:Nat):=by simp [IntKind.wrap,IntKind.bits,IntKind.signed]; omega
   refine rgz [] [[],[],[0,2,3]] ?_
   iterate 3 refine op1 tok ?_
   refine qA ?_
   exact ⟨(),trivial,qJ (by simp [hw]),rfl,by simp [hw],by simp [hw]⟩
  intro h10
  try simp at h10
  have hw:IntKind.u64.wrap n=(n.natAbs:Nat):=by simp [IntKind.wrap,IntKind.bits,IntKind.signed]; omega
  refine AW.skip ?_
  exact ⟨(),trivial,qJ (by simp [hw]),rfl,by simp [hw],by simp [hw]⟩
 ·
  rintro a hI
  refine rgn [] [[]] ?_
  refine op1 tok ?_
  refine qA (AW.seq (AW.block ?_))
  refine AW.beginE 4 90 5 1 (by simp) (by simp) (by conv=>lhs; simp) ?_
  refine AW.loop (α:=Nat × List UInt8) (fun s=>kL n.natAbs=kL s.1++s.2.reverse∧s.1≤n.natAbs) (fun s=>⟨zR 35 [(0,.p (.int .i64 n)),(2,.ptr 2 0),(3,.p (.int .u64 (s.1:Nat))),(4,.ms 90)],[],[(2,.vars 39 [.p (.bool false),.p (.str []),.p (.int .i64 0)]),(90,.row 5 1 (qH s.2))],0⟩) (fun s=>s.1) ((n.natAbs,[])) ⟨by simp,Nat.le_refl _⟩ ⟨qJ (by simp),rfl,by simp [qH],by simp⟩ ?_
  rintro ⟨u,l⟩ ⟨hu,hle⟩
  simp only at hu hle
  have hll:l.length≤20:=by have:=congrArg List.length hu; simp at this; omega
  refine AW.seq (rgn [] [[],[0,2,3,4,14]] ?_)
  iterate 2 refine op1 tok ?_
  refine qA (cnd ?_ ?_)
  ·intro h14
   try simp at h14
   have hup:0<u:=by omega
   rw [qEQ hup,List.append_assoc] at hu
   have hd:u % 10<10:=Nat.mod_lt _ (by decide)
   have dm:(u:Int).tmod 10=((u % 10:Nat):Int):=(Int.ofNat_tmod u 10).symm
   have dc:IntKind.u8.wrap (IntKind.u64.wrap (48+(u:Int) % 10))=((UInt8.ofNat (48+u % 10)).toNat:Int):=by
    rw [show (UInt8.ofNat (48+u % 10)).toNat=48+u % 10 by rw [UInt8.toNat_ofNat']; omega,show (u:Int) % 10=((u % 10:Nat):Int) from rfl]
    simp [IntKind.wrap,IntKind.bits,IntKind.signed]; omega
   have dq:IntKind.u64.wrap ((u:Int) / 10)=((u / 10:Nat):Int):=by simp [IntKind.wrap,IntKind.bits,IntKind.signed]; omega
   generalize UInt8.ofNat (48+u % 10)=D at *
   refine AW.skip (AW.seq (AW.block (rgz [.int .u8 D.toNat] [[],[],[],[],[0,2,3,17,21],[],[],[0,2,3,4]] ?_)))
   iterate 8 refine op1 tok ?_ (h:=by intro C; conv=>lhs; simp [dm,dc]) (hv:=by first | with_reducible exact True.intro | ((simp [dm,dc]); done) | omega | simp | (simp +contextual; omega))
   refine qA (rgz [] [[],[],[0,2,3,4]] ?_)
   iterate 3 refine op1 tok ?_
   refine qA ?_
   exact ⟨(u / 10,l++[D]),⟨by simp only [List.reverse_append,List.reverse_singleton]; exact hu,by simp only; omega⟩,by simp only; omega,qJ (by simp [dq,qH]),rfl,by simp [dq,qH],by simp [dq,qH]⟩
  intro h14
  try simp at h14
  obtain rfl:u=0:=by omega
  rw [uJ,List.nil_append] at hu
  have hrv:=zDI (G:=G) l (by omega)
  rw [← hu] at hrv
  refine AW.exit ?_
  simp
  refine rgn [] [[]] ?_
  refine op1 tok ?_
  refine qP ?_
  refine qD.stepK [0,2,4] (zF rfl hrv (by simp)) (by conv=>lhs; simp) rfl ?_
  refine qD.nil ?_
  refine rgn [.str (kL n.natAbs),.nilp,.tup [q1.enc,.int .i64 e1]] [[],[],[],[2,28,30],[],[],[],[2,32,33],[],[],[2,5]] ?_
  iterate 11 refine oq1 tok hmd ?_
  refine qA (rgn [] [[],[2]] ?_)
  iterate 2 refine op1 tok ?_
  exact qA (AW.ret qZ)
@[simp] def Val.cells (v:Val):List V:=[.p (.int .i64 v.kind),.p (.int .u64 v.mask),.p (.bool v.num.neg),.p (.str v.num.digits),.p (.int .i64 v.num.scale),.p (.str v.text),.p (.sl 1 (v.keys.map PD.str)),.p (.sl 9 (v.kids.map Val.enc)),.p (.int .i64 v.code)]
def yV (s:List UInt8):Bool:=decide ((s.length:Int)≤4096) && Lib.validD s
def yZ (l:List (List UInt8)):Bool:=l.all yV && decide l.Nodup
theorem qXR {l:List (List UInt8)} {k:Nat} {s:List UInt8} (h:l[k]?=some s) (hb:yV s=false∨s∈l.take k):yZ l=false:=by
 unfold yZ
 rcases hb with hb | hb
 ·rw [List.all_eq_false.2 ⟨s,List.mem_of_getElem? h,by simp [hb]⟩]; rfl
 have:¬ l.Nodup:=fun hn=>by
  obtain ⟨j,hj,hjs⟩:=List.mem_iff_getElem.1 hb
  have hk:=(List.getElem?_eq_some_iff.1 h)
  rw [List.getElem_take] at hjs
  have hjk:j<k:=by simp at hj; omega
  exact (List.pairwise_iff_getElem.1 hn) j k (by simp at hj; omega) hk.1 hjk (by rw [hjs,hk.2])
 simp [this]
theorem qTW {l:List (List UInt8)} {k:Nat} {s:List UInt8} (h:l[k]?=some s) (h1:yZ (l.take k)=true) (h2:yV s=true) (h3:s ∉ l.take k):yZ (l.take (k+1))=true:=by
 unfold yZ at h1 ⊢
 rw [List.take_add_one,h]
 simp only [Bool.and_eq_true,decide_eq_true_eq] at h1 ⊢
 refine ⟨by rw [List.all_append,h1.1]; simp [h2], ?_⟩
 rw [List.nodup_append]
 exact ⟨h1.2,by simp,by intro a ha b hb; simp at hb; subst hb; rintro rfl; exact h3 ha⟩
def qHG (v:Val):Bool:=if v.kind=4 then zY v.num else decide (v.num.neg=false∧v.num.digits=[]∧v.num.scale=0)
def qCI (v:Val):Bool:=if v.kind=5 then yV v.text else decide (v.text=[])
def qFQ (v:Val):Bool:=if v.kind=7 then decide ((v.keys.length:Int)=v.kids.length) && yZ v.keys else decide (v.keys=[])
def qMH (v:Val):Bool:=decide (v.kids=[]) || decide (v.kind=6) || decide (v.kind=7)
def qBF (v:Val):Bool:=decide (decide (v.kind=8) = !decide (v.code=0))
def xC (v:Val):Bool:=qBF v && qHG v && qCI v && qFQ v && qMH v
def jW (v:Val):Bool:=decide (1≤v.kind∧v.kind≤8∧v.kids.length≤200)
mutual
def zU:Val→Bool
 | .mk k m n t ks vs c=>jW (.mk k m n t ks vs c) && xC (.mk k m n t ks vs c) && qRI vs
def qRI:List Val→Bool
 | []=>true
 | v::vs=>zU v && qRI vs
end
theorem qLY:∀ l,qRI l=l.all zU
 | []=>by simp [qRI]
 | v::vs=>by simp [qRI,qLY vs]
theorem qEJ (v:Val):zU v=(jW v && xC v && v.kids.all zU):=by
 cases v; simp only [zU,qLY,Val.kids]
theorem zJW {α:Type} {l:List α}:((l.length:Int)=0)=(l=[]):=by rw [← List.length_eq_zero_iff]; exact propext (by omega)
theorem vJ {v k:Val} (h:zU v=true) (hk:k∈v.kids):zU k=true:=by
 rw [qEJ] at h; simp only [Bool.and_eq_true,List.all_eq_true] at h; exact h.2 k hk
theorem qVU {v:Val} (h:zU v=true) (h4:v.kind=4):zY v.num=true:=by
 rw [qEJ] at h
 simp only [Bool.and_eq_true,xC,qHG] at h
 obtain ⟨⟨h1,⟨⟨⟨⟨_,h2⟩,_⟩,_⟩,_⟩⟩,_⟩:=h
 rw [if_pos h4] at h2; exact h2
theorem qKP (hG:U8 G) (s:List UInt8):AFn Tryz.prog G 136 [.str s] (.bool (Lib.validD s)):=by
 refine AFn.of_calls (kH Tryz.func136 (by kernel_rfl) rfl) fun M w vs hg hmem hsz hrd => ?_
 obtain ⟨b,rfl,rfl,hm⟩:=qPC hsz hrd
 refine (Any.utf8_ValidString Tryz.lays196 b w hm (qVB hG hg hmem)).mono ?_
 rintro e w' ⟨rfl,hb⟩
 exact ⟨_,rfl,.bool _,hb⟩
theorem qKO (hG:U8 G) (s:List UInt8):AFn Tryz.prog G 103 [.str s] (.bool (Lib.validD s)):=by
 refine AFn.introU tok Tryz.func103 (by kernel_rfl) rfl rfl ?_
 simp only [Tryz.f103,qR,List.map_cons,List.map_nil]
 refine rgn [] [[0]] ?_
 refine op1 tok ?_
 refine qA (rgn [.nilp,.bool (Lib.validD s)] [[],[],[2]] ?_)
 iterate 3 refine op1 tok ?_ (hv:=by first | with_reducible exact True.intro | (exact qKP hG s; done) | omega | simp | (simp +contextual; omega))
 exact qA (AW.ret qZ)
theorem qDO (hG:U8 G) (s:List UInt8):AFn Tryz.prog G 69 [.str s] (.bool (yV s)):=by
 refine AFn.introU tok Tryz.func69 (by kernel_rfl) rfl rfl ?_
 simp only [Tryz.f69,qR,List.map_cons,List.map_nil]
 refine rgn [] [[0]] ?_
 refine op1 tok ?_
 refine qA (rgn [.nilp,.bool (Lib.validD s)] [[],[],[],[],[6,7],[],[],[2]] ?_)
 iterate 4 refine op1 tok ?_ (hv:=by first | with_reducible exact True.intro | (((repeat' (first | with_reducible apply And.intro | intro _)) <;> first | exact (qKO hG s) | assumption | omega | contradiction | simp_all); done) | omega | simp | (simp +contextual; omega))
 iterate 2 refine op2 tok ?_ (hv:=by first | with_reducible exact True.intro | (((repeat' (first | with_reducible apply And.intro | intro _)) <;> first | exact (qKO hG s) | assumption | omega | contradiction | simp_all); done) | omega | simp | (simp +contextual; omega))
 iterate 2 refine op1 tok ?_ (hv:=by first | with_reducible exact True.intro | (((repeat' (first | with_reducible apply And.intro | intro _)) <;> first | exact (qKO hG s) | assumption | omega | contradiction | simp_all); done) | omega | simp | (simp +contextual; omega))
 refine qA ?_
 exact AW.ret (qZ (k:=by simp [yV]))
theorem zAI (hG:U8 G) (l:List (List UInt8)):AFn Tryz.prog G 70 [.sl 1 (l.map PD.str)] (.bool (yZ l)):=by
 refine AFn.introU tok Tryz.func70 (by kernel_rfl) rfl rfl ?_
 simp only [Tryz.f70,qR,List.map_cons,List.map_nil]
 refine rgn [] [[0]] ?_
 refine op1 tok ?_
 refine qA (rgn [] [[],[0,3]] ?_)
 iterate 2 refine op1 tok ?_
 refine qA (AW.seq (rgn [] [[],[],[3,7,8,9]] ?_))
 iterate 3 refine op1 tok ?_
 refine qA (AW.block ?_)
 refine AW.intFactU (i:=8) rfl (by decide) ?_; intro hlen; simp at hlen
 refine AW.loop (α:=Nat) (fun k=>k≤l.length∧yZ (l.take k)=true) (fun k=>⟨zR 24 [(3,.ms 6),(7,.p (.sl 1 (l.map PD.str))),(8,.p (.int .i64 l.length)),(9,.p (.int .i64 k))],[],[(6,.mp (l.take k) (List.replicate k (.p (.bool true))))],0⟩) (fun k=>l.length-k) (0) ⟨by omega,rfl⟩ ⟨qJ (by simp),rfl,by simp,by simp⟩ ?_
 rintro k ⟨hk,hall⟩
 refine rgn [] [[]] ?_
 refine op1 tok ?_
 refine qA (AW.seq (cnd ?_ ?_))
 ·intro h10
  try simp at h10
  obtain ⟨s,hs⟩:∃ s,l[k]?=some s:=⟨l[k],by simp [h10]⟩
  have hlt:(l.take k).length=k:=by simp; omega
  have hin:∀ i:Nat,(l.take k)[i]?=some s→(List.replicate k (V.p (.bool true)))[i]?=some (.p (.bool (decide (s∈l.take k)))):=by
   intro i hi
   have h1:=(List.getElem?_eq_some_iff.1 hi).1
   rw [decide_eq_true (List.mem_of_getElem? hi),List.getElem?_replicate,if_pos (by rw [hlt] at h1; exact h1)]
  refine AW.skip (AW.seq (AW.block (rgn [.str s] [[],[],[3,5,7,8,9]] ?_)))
  iterate 3 refine op1 tok ?_ (hv:=by first | with_reducible exact True.intro | (simp [hs]; done) | omega | simp | (simp +contextual; omega))
  refine qA (AW.seq (rgn [.nilp,.bool (yV s),.bool (decide (s∈l.take k))] [[],[],[],[],[],[],[3,5,7,8,9,16,19],[3,5,7,8,9,20]] ?_))
  iterate 4 refine op1 tok ?_ (hv:=by first | with_reducible exact True.intro | (((repeat' (first | with_reducible apply And.intro | intro _)) <;> first | exact (qDO hG s) | exact (hin) | assumption | omega | contradiction | simp_all); done) | omega | simp | (simp +contextual; omega))
  iterate 3 refine op2 tok ?_ (hv:=by first | with_reducible exact True.intro | (((repeat' (first | with_reducible apply And.intro | intro _)) <;> first | exact (qDO hG s) | exact (hin) | assumption | omega | contradiction | simp_all); done) | omega | simp | (simp +contextual; omega))
  refine op1 tok ?_ (hv:=by first | with_reducible exact True.intro | (((repeat' (first | with_reducible apply And.intro | intro _)) <;> first | exact (qDO hG s) | exact (hin) | assumption | omega | contradiction | simp_all); done) | omega | simp | (simp +contextual; omega))
  refine qA (cnd ?_ ?_)
  ·intro h20
   try simp at h20
   have hb:yZ l=false:=qXR hs (by simpa using h20)
   refine rgn [] [[]] ?_
   refine op1 tok ?_
   refine qA ?_
   exact AW.ret (qZ (k:=by simp [hb]))
  intro h20
  try simp at h20
  refine AW.skip (rgz [] [[],[],[3,7,8,9]] ?_)
  iterate 3 refine op1 tok ?_ (hv:=by first | with_reducible exact True.intro | (exact h20.2; done) | omega | simp | (simp +contextual; omega))
  refine qA (rgz [] [[],[3,7,8,9]] ?_)
  iterate 2 refine op1 tok ?_
  refine qA ?_
  exact ⟨k+1,⟨by omega,qTW hs hall h20.1 h20.2⟩,by omega,qJ (by simp [show l.take (k+1)=l.take k++[s] from by (rw [List.take_add_one,hs]; rfl),List.replicate_succ']),rfl,by simp [show l.take (k+1)=l.take k++[s] from by (rw [List.take_add_one,hs]; rfl),List.replicate_succ'],by simp [show l.take (k+1)=l.take k++[s] from by (rw [List.take_add_one,hs]; rfl),List.replicate_succ']⟩
 intro h10
 try simp at h10
 rw [List.take_of_length_le h10] at hall
 refine AW.exit ?_
 simp
 refine rgn [] [[]] ?_
 refine op1 tok ?_
 refine qA ?_
 exact AW.ret (qZ (k:=by simp [hall]))
end Go.Proofs.YtlmedakhioiahaaGreatDoor
