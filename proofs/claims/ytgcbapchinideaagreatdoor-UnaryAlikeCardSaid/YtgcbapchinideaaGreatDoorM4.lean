import Derived.Test.YtgcbapchinideaaGreatDoorM3
import Derived.Test.YtgcbapchinideaaGreatDoorM2
import Derived.WalkKit
import Derived.ProofKit
import Derived.OpenShut
import Derived.Deep.DeepHandedRow
import Derived.Deep.Slices
import Derived.Carry
import Derived.LaidMore
import Derived.Lay
import Derived.Stop.Joined
import Derived.Test.YtgcbapchinideaaGreatDoorRows
namespace Go.Proofs.YtgcbapchinideaaGreatDoor.Sy
open Go Go.ChangeShapes Go.WideShapes Go.ChangeAt Go.RowKit
def uX (W:World):qW:=fun b o=>W.cell? ⟨b,o,none⟩
section
variable {H:Type} {enc:TypeId × Value->H} {P:Program}
theorem qHQ (hl:laidOutB P=true) {W W':World} {sp:Nat->Bool}:∀ {ts:List TypeId} {vs:List Value} {ds:List (DataW H)} {p:List MemPlace},
  (∀ t∈ts,P.readableRec t=true/\t<P.types.size)->DataW.TrodAll enc P W 0 (fun _=>true) true ts vs ds p->(∀ x∈p,W.sameAt W' x)->(∀ x∈p,sp x.block=true)->DataW.TrodAll enc P W' 0 sp true ts vs ds p
 | [],vs,ds,p,_,h,_,_=>by
  obtain⟨rfl,rfl,rfl⟩:=trodAll_nil h
  exact trodAll_mk0
 | t::ts,vs,ds,p,ht,h,hs,hsp=>by
  obtain⟨v,vs',d,ds',p1,q,rfl,rfl,rfl,h1,h2⟩:=trodAll_cons h
  have a:=WideElems.Trod_stays hl (ht t (by simp)).1 (ht t (by simp)).2 h1 (fun x hx=>hs x (by simp[hx])) (fun x hx=>hsp x (by simp[hx]))
  have b:=qHQ hl (fun t' h'=>ht t' (by simp[h'])) h2 (fun x hx=>hs x (by simp[hx])) (fun x hx=>hsp x (by simp[hx]))
  exact trodAll_cons_mk a b
theorem zOP {f:Func} {s:ChangeSpec} {W W':World} {args:Array Value} {ds gs:List (DataW H)} {before:List MemPlace} {tb:TypeId} (hW:DataW.Whole enc P f.params.toList s.vars false W args.toList ds gs before)
  (hb:Below W.heap.size W W') (hl:laidOutB P=true) (hr:∀ t∈f.params.toList,P.readableRec t=true/\t<P.types.size) (hv:s.vars=[]) (hspec:s.fn H (ds++gs)={ results:=[.lit (.bool true)],args:=ds })
  (hrt:f.resultTypes = #[tb]) (htb:P.underlying tb=some .bool):s.post enc P f false true false false W args (.bool true) W':=by
 have hlt:=hW.lt
 have hW':=hW
 obtain⟨p,q,hA,hV,rfl,hz,hn⟩:=hW
 rw[hv]at hV
 obtain⟨rfl,rfl⟩:=trodVars_none hV
 simp only[List.append_nil]at hW' hz hlt hspec hn
 have hsame:∀ x∈p,W.sameAt W' x:=fun x hx=>hb.same (hlt x hx)
 have hargs:∀ sp:Nat->Bool,(∀ x∈p,sp x.block=true)->DataW.TrodAll enc P W' 0 sp true f.params.toList args.toList ds p:=fun sp hsp=>qHQ hl hr hA hsame hsp
 have hres:∀ (b:Nat) (sp:Nat->Bool) (hd:Bool),DataW.TrodAll enc P W' b sp hd f.resultTypes.toList ((Value.bool true).resultList f.resultTypes.size) [.lit (.bool true)] []:=fun b sp hd=>by
  rw[hrt];exact trodAll_cons_mk (shut_bool htb true) trodAll_mk0
 have hvars:∀ sp:Nat->Bool,DataW.TrodVars enc P W' sp s.vars [] []:=fun sp=>by rw[hv];exact rfl
 have hold:∀ x∈p,(fun b=>decide (b<W.heap.size)) x.block=true:=fun x hx=>by simpa using hlt x hx
 refine⟨ds,[],p,[],p,[],hW', ?_, ?_, ?_,World.keptBut_mono (fun x hx=>⟨hx, ?_⟩) (hb.frame (· ∈ p)),fun _ => ?_⟩
 ·simp only[List.append_nil,hspec];exact hres _ _ _
 ·simp only[List.append_nil,hspec];exact hargs _ hold
 ·simp only[List.append_nil,hspec];exact hvars _
 ·exact Or.inr (Or.inl hx)
 refine⟨?_,_,_,([]++p)++[],⟨[]++p,[],trodAll_append (hargs _ (fun _ _=>rfl)) (hres _ _ _),hvars _,rfl, ?_, ?_⟩, ?_⟩
 ·intro j t r h1 h2
  rw[hrt]at h1 h2
  cases j with
  | zero=>simp[Value.resultList]at h1 h2;subst h1;subst h2;exact okWide_bool_mk htb true
  | succ j=>simp at h1
 ·intro b off hp
  have hp':MemPlace.cell b off∈p:=by simpa using hp
  rw[hb.frozen (p:=⟨b,off,none⟩) (hlt _ hp')]
  exact hz b off hp'
 ·intro ha;cases ha
 intro x hx _
 simpa using hx
end
def ShF (sh:TypeId->List PD->Prop):List (Nat × TypeId)->List PD->Prop
 | [],cs=>cs=[]
 | p::fs,cs=>∃ a b,cs=a++b/\sh p.2 a/\ShF sh fs b
def qCS (k:TK) (cs:List PD):PD:=if k.agg then .agg cs else match cs with
 | [c]=>c
 | _ => .agg cs
def ShC (T:Tab):Nat->TypeId->List PD->Prop
 | 0,_,_=>False
 | f+1,t,cs=>match T t with
  | some ti=>match ti.k with
   | .bool=>∃ b,cs=[.bool b]
   | .int k=>∃ n,cs=[.int k n]/\kD k<=n/\n<=kE k
   | .str=>∃ s:List UInt8,cs=[.str s]/\s.length<=140737488351232
   | .sl e=>match T e with
    | some te=>∃ es:List PD,cs=[.sl te.size es]/\es.length * te.bytes<=140737488351232/\∀ x∈es, ∃ cs',x=qCS te.k cs'/\ShC T f e cs'
    | none=>False
   | .st fs=>ShF (ShC T f) fs cs
   | _=>False
  | none=>False
def qMR (T:Tab):List (Nat × TypeId)->Nat->Nat->Bool
 | [],o,n=>o == n
 | p::fs,o,n=>p.1 == o && (match T p.2 with
  | some ti=>qMR T fs (o+ti.size) n
  | none=>false)
def okT (T:Tab):Nat->TypeId->Bool
 | 0,_=>false
 | f+1,t=>match T t with
  | some ti=>match ti.k with
   | .bool | .int _ | .str=>ti.size == 1
   | .sl e=>okT T f e && (ti.size == 1 && match T e with
    | some te=>decide (0<te.size)
    | none=>false)
   | .st fs=>qMR T fs 0 ti.size && fs.all fun p=>okT T f p.2
   | _=>false
  | none=>false
def RdL (M:qW) (us:List Value) (cs:List PD):Prop:=us.length=cs.length/\∀ (i:Nat) u d,us[i]?=some u->cs[i]?=some d->Rd M u d/\u.oneCell'=true
theorem RdL.nil {M:qW}:RdL M [] []:=⟨rfl,fun i u d h=>by simp at h⟩
theorem RdL.append {M:qW} {us vs:List Value} {cs ds:List PD} (h:RdL M us cs) (k:RdL M vs ds):RdL M (us++vs) (cs++ds):=by
 refine⟨by simp[h.1,k.1],fun i u d hu hd => ?_⟩
 rw[List.getElem?_append]at hu hd
 rw[<-h.1]at hd
 split at hu
 ·rename_i hi;rw[if_pos hi]at hd;exact h.2 i u d hu hd
 rename_i hi;rw[if_neg hi]at hd;exact k.2 _ u d hu hd
theorem RdL.one {M:qW} {u:Value} {d:PD} (h:Rd M u d) (k:u.oneCell'=true):RdL M [u] [d]:=by
 refine⟨rfl,fun i u' d' hu hd => ?_⟩
 cases i with
 | zero=>simp at hu hd;subst hu;subst hd;exact⟨h,k⟩
 | succ i=>simp at hu
section
variable {H:Type} {enc:TypeId × Value->H} {P:Program} {W:World} {T:Tab}
theorem qGH (hT:TOK P T) {t:TypeId} {ti:TI} (h:T t=some ti):P.cellsOf t=ti.size:=by
 obtain⟨i,d,hi,_,_,hs,_⟩:=hT.get h
 simp[Program.cellsOf,hi,hs]
theorem qTH {n:Nat} {sh:TypeId->List PD->Prop} (hT:TOK P T) {us:List Value}:∀ (fl:List (Nat × TypeId)) (o m:Nat),qMR T fl o m=true->us.length=m->o<=m ->
  (∀ p∈fl, ∃ y,DataW.trod enc P W 0 (fun _=>true) true n p.2 ((us.drop p.1).take (P.cellsOf p.2))=some y/\∀ x∈DataW.weights P p.2 y.1,x<=140737488351232) ->
  (∀ p∈fl, ∀ vs y,DataW.trod enc P W 0 (fun _=>true) true n p.2 vs=some y->(∀ x∈DataW.weights P p.2 y.1,x<=140737488351232)->∃ cs,sh p.2 cs/\RdL (uX W) vs cs)->∃ cs,ShF sh fl cs/\RdL (uX W) (us.drop o) cs
 | [],o,m,ht,hl,ho,_,_=>by
  simp only[qMR,beq_iff_eq]at ht
  refine⟨[],rfl, ?_⟩
  rw[List.drop_eq_nil_of_le (by omega)];exact .nil
 | p::fl,o,m,ht,hl,ho,hr,hs=>by
  simp only[qMR,Bool.and_eq_true,beq_iff_eq]at ht
  obtain⟨rfl,ht⟩:=ht
  split at ht
  ·rename_i ti hti
   have hc:=qGH hT hti
   obtain⟨y,hy,hyw⟩:=hr p (by simp)
   obtain⟨a,ha,hra⟩:=hs p (by simp) _ y hy hyw
   have hle:∀ (fl:List (Nat × TypeId)) (o m:Nat),qMR T fl o m=true->o<=m:=by
    intro fl
    induction fl with
    | nil=>intro o m h;simp only[qMR,beq_iff_eq]at h;omega
    | cons q fl ih =>
     intro o m h
     simp only[qMR,Bool.and_eq_true]at h
     split at h
     ·have:=ih _ _ h.2;omega
     simp at h
   have hle':=hle fl _ _ ht
   obtain⟨b,hb,hrb⟩:=qTH hT fl (p.1+ti.size) m ht hl hle' (fun q hq=>hr q (by simp[hq])) (fun q hq=>hs q (by simp[hq]))
   refine⟨a++b,⟨a,b,rfl,ha,hb⟩, ?_⟩
   have e:us.drop p.1=(us.drop p.1).take (P.cellsOf p.2)++us.drop (p.1+ti.size):=by
    rw[hc,<-List.drop_drop,List.take_append_drop]
   rw[e]
   exact hra.append hrb
  cases ht
theorem zAC {k:TK} {cs:List PD} (h:k.agg=false->∃ c,cs=[c]/\c.cells=[c]):(qCS k cs).cells=cs:=by
 unfold qCS
 split
 ·rfl
 rename_i hk
 obtain⟨c,rfl,hc⟩:=h (by simpa using hk)
 exact hc
theorem qFI {P:Program} {e:TypeId} {x:Nat} {d:DataW H}:∀ {l:List (DataW H)},d∈l->x∈DataW.weights P e d->x∈DataW.weightsAll P e l
 | a::l,hd,hx=>by
  simp only[DataW.weightsAll,List.mem_append]
  rcases List.mem_cons.1 hd with rfl|hd
  ·exact .inl hx
  exact .inr (qFI hd hx)
theorem qEW {P:Program} {x:Nat}:∀ {ts:List TypeId} {l:List (DataW H)} {i:Nat} {t:TypeId} {d:DataW H},ts[i]?=some t->l[i]?=some d->x∈DataW.weights P t d->x∈DataW.weightsEach P ts l
 | t::ts,a::l,i,t',d,ht,hd,hx=>by
  simp only[DataW.weightsEach,List.mem_append]
  cases i with
  | zero=>simp at ht hd;subst ht;subst hd;exact .inl hx
  | succ i=>simp at ht hd;exact .inr (qEW ht hd hx)
 | [],_,i,_,_,ht,_,_=>by simp at ht
 | _::_,[],i,_,_,_,hd,_=>by simp at hd
theorem zCH (hT:TOK P T) {t:TypeId} {ti:TI} (h:T t=some ti):P.bytesOf t=ti.bytes:=by
 obtain⟨i,d,hi,_,_,_,hb,_⟩:=hT.get h
 simp[Program.bytesOf,hi,hb]
theorem zNW (hT:TOK P T):∀ (f:Nat) (t:TypeId),okT T f t=true->∀ (n:Nat) (us:List Value) (y:DataW H × List MemPlace),DataW.trod enc P W 0 (fun _=>true) true n t us=some y->(∀ x∈DataW.weights P t y.1,x<=140737488351232) ->
  ∃ cs,(ShC T f t cs/\RdL (uX W) us cs)/\∀ ti,T t=some ti->us.length=ti.size/\(ti.k.agg=false->∃ c,cs=[c]/\c.cells=[c]):=by
 intro f
 induction f with
 | zero=>intro t h;cases h
 | succ f ih =>
  intro t hok n us y hy hw
  simp only[okT]at hok
  split at hok
  case h_2=>cases hok
  rename_i ti hti
  have hsz:=qGH hT hti
  obtain⟨inf,d,hi,hd,hdk,his,_⟩:=hT.get hti
  simp only[ShC,hti]
  split at hok
  ·rename_i hk
   rw[hk]at hdk
   obtain⟨b,rfl,_⟩:=DataW.trod_bool (by rw[hd,TK.of_bool hdk]) hy
   refine⟨[.bool b],⟨?_,.one (.bool b) rfl⟩, ?_⟩
   ·simp
   intro ti' e;cases e
   exact⟨by simpa using(beq_iff_eq.1 hok).symm,fun _=>⟨_,rfl,rfl⟩⟩
  ·rename_i k hk
   rw[hk]at hdk
   obtain⟨m,rfl,_,hw⟩:=DataW.trod_int (by rw[hd,TK.of_int hdk]) hy
   simp[Lit.wf]at hw
   refine⟨[.int k m],⟨?_,.one (.int hw.1 hw.2) rfl⟩, ?_⟩
   ·exact⟨m,rfl,by rw[<-jK];exact hw.1,by rw[<-kV];exact hw.2⟩
   intro ti' e;cases e
   exact⟨by simpa using(beq_iff_eq.1 hok).symm,fun _=>⟨_,rfl,rfl⟩⟩
  ·rename_i hk
   rw[hk]at hdk
   obtain⟨s,rfl,rfl,hm⟩:=DataW.trod_string (by rw[hd,TK.of_str hdk]) hy
   have hwl:=hw s.data.toList.length (by simp[DataW.weights])
   refine⟨[.str s.data.toList],⟨?_,.one (.str rfl (by rw[Array.length_toList];exact hm)) rfl⟩, ?_⟩
   ·exact⟨_,rfl,hwl⟩
   intro ti' e;cases e
   exact⟨by simpa using(beq_iff_eq.1 hok).symm,fun _=>⟨_,rfl,rfl⟩⟩
  ·rename_i e hk
   rw[hk]at hdk
   simp only[Bool.and_eq_true,beq_iff_eq]at hok
   obtain⟨hok1,hok2,hok3⟩:=hok
   obtain⟨te,hte,hpos⟩:∃ te,T e=some te/\0<te.size:=by
    split at hok3
    ·rename_i te hte;exact⟨te,hte,by simpa using hok3⟩
    cases hok3
   have hce:=qGH hT hte
   have hlast:∀ (c:PD),c.cells=[c]->[Value.nilIface].length=ti.size/\(ti.k.agg=false->∃ c',[c]=[c']/\c'.cells=[c']):=fun c hc =>
    ⟨by rw[hok2];rfl,fun _=>⟨c,rfl,hc⟩⟩
   rcases Go.Deep.open_slice (by rw[hd,TK.of_sl hdk]) hy with⟨rfl,_⟩|⟨ad,len,cap,m,n',D,Pl,rfl,_,hl,hm,hmm,hyx,hel⟩
   ·refine⟨[.sl te.size []],⟨?_,.one (.sl 0 0 rfl (Nat.le_refl _) (by simp[maxLen]) (fun h=>(h rfl).elim) (fun i e h=>by simp at h) (fun i e j h=>by simp at h) (fun i e j d u h=>by simp at h)) rfl⟩, ?_⟩
    ·simp[hte]
    intro ti' e';cases e';exact hlast _ rfl
   have hlm:len<=m:=by rw[hmm];simpa using hl
   have hwe:∀ x,x=(len+(m-len)) * P.bytesOf e\/x∈DataW.weightsAll P e ((List.range len).map D)->x<=140737488351232:=fun x hx=>by
    refine hw x ?_
    rw[hyx]
    simp only[DataW.weights,show P.underlying t=some (.slice e) by rw[hd,TK.of_sl hdk],List.length_map,List.length_range,List.mem_cons,List.mem_append]
    rcases hx with hx|hx
    ·exact .inl hx
    exact .inr (.inl hx)
   have hwl:=hwe _ (.inl rfl)
   rw[zCH hT hte]at hwl
   have hlen2:len * te.bytes<=140737488351232:=Nat.le_trans (Nat.mul_le_mul_right _ (Nat.le_add_right _ _)) hwl
   have each:∀ i,i<len->∃ cs:List PD,ShC T f e cs/\cs.length=te.size/\(qCS te.k cs).cells=cs/\∀ j d,cs[j]?=some d->∃ u,W.cell? ((ad.add (i * te.size)).add j)=some u/\Rd (uX W) u d/\u.oneCell'=true:=by
    intro i hi
    obtain⟨vs,hc,htr⟩:=hel i (by omega)
    rw[hce]at hc
    obtain⟨_,hlen,hcell⟩:=World.cells?_some hc
    obtain⟨cs,⟨hsh,hrd⟩,hti'⟩:=ih e hok1 n' vs _ htr fun x hx=>hwe x (.inr (qFI (List.mem_map.2 ⟨i,by simpa using hi,rfl⟩) hx))
    obtain⟨h1,h2⟩:=hti' te hte
    refine⟨cs,hsh,by rw[<-hrd.1];exact h1,zAC h2,fun j d hj => ?_⟩
    have hjl:j<vs.length:=by rw[hrd.1];exact(List.getElem?_eq_some_iff.1 hj).1
    have hv:vs[j]?=some vs[j]:=by simp[hjl]
    have h3:=hrd.2 j vs[j] d hv hj
    exact⟨vs[j],by rw[hcell j (by omega)];exact hv,h3⟩
   obtain⟨F,hF⟩:=Go.Deep.choose_lt each
   have hspot:len≠0->ad=⟨ad.block,ad.off,none⟩:=by
    intro hne
    obtain⟨_,hlen,_,hc⟩:=hF 0 (by omega)
    obtain⟨u0,hu0,_⟩:=hc 0 ((F 0)[0]'(by omega)) (by simp[show 0<(F 0).length by omega])
    simp[Addr.add]at hu0
    unfold World.cell? at hu0
    cases hsp:ad.spot with
    | none=>cases ad;simp at hsp;subst hsp;rfl
    | some q=>split at hu0 <;> simp[hsp]at hu0
   let es:=(List.range len).map fun i=>qCS te.k (F i)
   have hget:∀ (i:Nat) x,es[i]?=some x->i<len/\x=qCS te.k (F i):=by
    intro i x he
    simp only[es]at he
    rw[List.getElem?_map]at he
    obtain⟨j,hj,rfl⟩:=Option.map_eq_some_iff.1 he
    have hi:i<len:=by simpa using(List.getElem?_eq_some_iff.1 hj).1
    simp[hi]at hj
    subst hj
    exact⟨hi,rfl⟩
   have hadd:∀ b o i:Nat,(⟨b,o,none⟩:Addr).add i=⟨b,o+i,none⟩:=fun b o i=>jF b o i
   refine⟨[.sl te.size es],⟨?_,.one ?_ rfl⟩, ?_⟩
   ·simp only[hte]
    refine⟨es,rfl,by simp only[es,List.length_map,List.length_range];exact hlen2,fun x hx => ?_⟩
    obtain⟨i,hi,rfl⟩:=List.mem_iff_getElem.1 hx
    obtain⟨h1,h2⟩:=hget i es[i] (List.getElem?_eq_getElem hi)
    exact⟨F i,h2,(hF i h1).1⟩
   ·refine .sl ad.block ad.off (by simp[es]) hl hm (fun h=>by rw[<-hspot h]) (fun i x hx => ?_) (fun i x j hx hj => ?_) (fun i x j d u hx hd hu => ?_)
    ·obtain⟨h1,rfl⟩:=hget i x hx
     rw[(hF i h1).2.2.1];exact(hF i h1).2.1
    ·obtain⟨h1,rfl⟩:=hget i x hx
     obtain⟨_,hlen,_,hc⟩:=hF i h1
     obtain⟨u,hu,_,h3⟩:=hc j ((F i)[j]'(by omega)) (by simp[show j<(F i).length by omega])
     rw[hspot (by omega),hadd,hadd]at hu
     exact⟨u,hu,h3⟩
    obtain⟨h1,rfl⟩:=hget i x hx
    obtain⟨_,hlen,hp,hc⟩:=hF i h1
    rw[hp]at hd
    obtain⟨u',hu',h2,_⟩:=hc j d hd
    rw[hspot (by omega),hadd,hadd]at hu'
    change W.cell? ⟨ad.block,ad.off+i * te.size+j,none⟩=some u at hu
    rw[hu']at hu;cases hu
    exact h2
   intro ti' e';cases e';exact hlast _ rfl
  ·rename_i fs hk
   rw[hk]at hdk
   obtain⟨l,rfl,hl⟩:=TK.of_st hdk
   simp only[Bool.and_eq_true,List.all_eq_true]at hok
   obtain⟨xs,n',_,hyx,hlen,hxl,hfs⟩:=DataW.trod_struct hd hy
   rw[hsz]at hlen
   have hf:∀ p∈fs, ∃ z,DataW.trod enc P W 0 (fun _=>true) true n' p.2 ((us.drop p.1).take (P.cellsOf p.2))=some z/\∀ x∈DataW.weights P p.2 z.1,x<=140737488351232:=by
    intro p hp
    rw[<-hl]at hp
    obtain⟨fd,hfd,rfl⟩:=List.mem_map.1 hp
    obtain⟨i,hi,hfi⟩:=List.mem_iff_getElem.1 hfd
    have h1:=hfs i fd (by simp at hi hfi;simp[hi,hfi])
    have hil:i<xs.length:=by rw[hxl];simpa using hi
    refine⟨xs[i],by rw[h1];simp[hil],fun x hx=>hw x ?_⟩
    rw[hyx]
    simp only[DataW.weights,hd]
    have hi':i<l.size:=by simpa using hi
    exact qEW (i:=i) (t:=fd.type) (d:=(xs[i]).1) (by simp at hfi;simp[hi',hfi]) (by simp[hil]) hx
   obtain⟨cs,h1,h2⟩:=qTH (sh:=ShC T f) hT fs 0 ti.size hok.1 hlen (by omega) hf (fun p hp vs z hz hzw=>by
    obtain⟨cs,h,_⟩:=ih p.2 (hok.2 p hp) n' vs z hz hzw
    exact⟨cs,h⟩)
   rw[List.drop_zero]at h2
   refine⟨cs,⟨h1,h2⟩,fun ti' e' => ?_⟩
   cases e'
   exact⟨hlen,fun h=>by rw[hk]at h;cases h⟩
  cases hok
end
def ShL (T:Tab) (f:Nat):List TypeId->List PD->Prop
 | [],ds=>ds=[]
 | t::ts,ds=>∃ d ds',ds=d::ds'/\(∃ cs k,wA T t=some k/\d=qCS k cs/\ShC T f t cs)/\ShL T f ts ds'
section
variable {H:Type} {enc:TypeId × Value->H} {P:Program} {W:World} {T:Tab}
theorem zFT (hT:TOK P T) {base:Nat} {t:TypeId} {ti:TI} {v:Value} (ht:T t=some ti) (hk:ti.k = .bool\/(∃ k,ti.k = .int k)\/ti.k = .str\/∃ e,ti.k = .sl e) (h:Value.okWide P W .any base t v):v.cells = #[v]:=by
 obtain⟨i,d,_,hd,hdk,_⟩:=hT.get ht
 rcases hk with hk|⟨k,hk⟩|hk|⟨e,hk⟩ <;> rw[hk]at hdk
 ·obtain⟨b,rfl⟩:=okWide_bool (by rw[hd,TK.of_bool hdk]) h;rfl
 ·obtain⟨b,rfl⟩:=okWide_int (by rw[hd,TK.of_int hdk]) h;rfl
 ·obtain⟨b,rfl⟩:=okWide_string (by rw[hd,TK.of_str hdk]) h;rfl
 obtain⟨a,l,c,rfl⟩:=okWide_slice (by rw[hd,TK.of_sl hdk]) h;rfl
theorem qJE (hT:TOK P T) {base f:Nat}:∀ (ts:List TypeId) (vs:List Value) (ds:List (DataW H)) (p:List MemPlace),(∀ t∈ts,okT T f t=true)->DataW.TrodAll enc P W 0 (fun _=>true) true ts vs ds p->(∀ x∈DataW.weightsEach P ts ds,x<=140737488351232) ->
  (∀ (j:Nat) t v,ts[j]?=some t->vs[j]?=some v->Value.okWide P W .any base t v)->∃ pds,ShL T f ts pds/\vs.length=pds.length/\∀ (i:Nat) u d,vs[i]?=some u->pds[i]?=some d->Rd (uX W) u d
 | [],vs,ds,p,_,h,_,_=>by
  obtain⟨rfl,rfl,rfl⟩:=trodAll_nil h
  exact⟨[],rfl,rfl,fun i u d h=>by simp at h⟩
 | t::ts,vs,ds,p,hok,h,hw,hv=>by
  obtain⟨v,vs',d,ds',p1,q,rfl,rfl,rfl,⟨n,h1⟩,h2⟩:=trodAll_cons h
  obtain⟨pds,a1,a2,a3⟩:=qJE hT ts vs' ds' q (fun t h=>hok t (by simp[h])) h2 (fun x hx=>hw x (by simp[DataW.weightsEach,hx])) (fun j t v h h'=>hv (j+1) t v (by simpa using h) (by simpa using h'))
  have hokt:=hok t (by simp)
  obtain⟨cs,⟨hsh,hrd⟩,hti⟩:=zNW hT f t hokt n _ _ h1 (fun x hx=>hw x (by simp[DataW.weightsEach,hx]))
  have hov:=hv 0 t v rfl rfl
  obtain⟨ti,ht⟩:∃ ti,T t=some ti:=by
   cases f with
   | zero=>cases hokt
   | succ f =>
    cases hx:T t with
    | none=>simp[okT,hx]at hokt
    | some ti=>exact⟨ti,rfl⟩
  obtain⟨hl,hag⟩:=hti ti ht
  have hfirst:Rd (uX W) v (qCS ti.k cs):=by
   unfold qCS
   split
   ·rename_i hk
    obtain⟨i,dd,_,hd,hdk,_⟩:=hT.get ht
    have:∃ fs,dd = .struct fs:=by
     cases f with
     | zero=>cases hokt
     | succ f =>
      simp only[okT,ht]at hokt
      split at hokt
      ·rename_i e;rw[e]at hk;cases hk
      ·rename_i e;rw[e]at hk;cases hk
      ·rename_i e;rw[e]at hk;cases hk
      ·rename_i e;rw[e]at hk;cases hk
      ·rename_i fs e
       rw[e]at hdk
       obtain⟨l,rfl,_⟩:=TK.of_st hdk
       exact⟨l,rfl⟩
      cases hokt
    obtain⟨fs,rfl⟩:=this
    obtain⟨arr,rfl,_⟩:=okWide_struct hd hov
    refine .agg (by simpa[Value.cells]using hrd.1) (fun i u hu => ?_) (fun i u d hu hd => ?_)
    ·have hi:i<cs.length:=by rw[<-hrd.1];simpa[Value.cells]using(Array.getElem?_eq_some_iff.1 hu).1
     exact(hrd.2 i u cs[i] (by simpa[Value.cells]using hu) (by simp[hi])).2
    exact(hrd.2 i u d (by simpa[Value.cells]using hu) hd).1
   rename_i hk
   obtain⟨c,rfl,hc⟩:=hag (by simpa using hk)
   have hat:v.cells = #[v]:=by
    refine zFT hT ht ?_ hov
    cases f with
    | zero=>cases hokt
    | succ f =>
     simp only[okT,ht]at hokt
     split at hokt
     ·exact .inl (by assumption)
     ·exact .inr (.inl ⟨_,by assumption⟩)
     ·exact .inr (.inr (.inl (by assumption)))
     ·exact .inr (.inr (.inr ⟨_,by assumption⟩))
     ·rename_i e;rw[e]at hk;exact(hk rfl).elim
     cases hokt
   rw[hat]at hrd
   exact(hrd.2 0 v c (by simp) (by simp)).1
  refine⟨qCS ti.k cs::pds,⟨_,_,rfl,⟨cs,ti.k,by simp[wA,ht],rfl,hsh⟩,a1⟩,by simp[a2],fun i u d hu hd => ?_⟩
  cases i with
  | zero=>simp at hu hd;subst hu;subst hd;exact hfirst
  | succ i=>exact a3 i u d (by simpa using hu) (by simpa using hd)
theorem zOQ (hT:TOK P T) {G:qR} {f:FuncId} {fn:Func} {s:ChangeSpec} {args:Array Value} {ds gs:List (DataW H)} {before:List MemPlace} {tb:TypeId} {base n:Nat}
  (hval:∀ (j:Nat) t v,fn.params[j]?=some t->args[j]?=some v->Value.okWide P W .any base t v)
  (hW:DataW.Whole enc P fn.params.toList s.vars false W args.toList ds gs before) (hok:(fn.params.toList.all fun t=>okT T n t)=true) (hl:laidOutB P=true) (hr:(fn.params.toList.all fun t=>P.readableRec t && decide (t<P.types.size))=true)
  (hv:s.vars=[]) (hspec:∀ ds:List (DataW H),ds.length=fn.params.size->s.fn H ds={ results:=[.lit (.bool true)],args:=ds }) (hrt:fn.resultTypes = #[tb]) (htb:P.underlying tb=some .bool)
  (hG:GOK G (uX W) W) {vt:List TypeId} (hS:(DataW.weightsEach P (fn.params.toList++vt) (ds++gs)).all (fun x=>decide (x<=reachBytes))=true) (hA:∀ pds,ShL T n fn.params.toList pds->AFn P G f pds (.bool true)) :
  Calls P f args W fun e W'=>∃ v,e = .returned v/\s.post enc P fn false true false false W args v W':=by
 have hW':=hW
 obtain⟨p,q,hA0,hV,rfl,hz,hn⟩:=hW
 have hlen:ds.length=fn.params.size:=by
  have key:∀ (ts:List TypeId) (vs:List Value) (ds:List (DataW H)) (p:List MemPlace),DataW.TrodAll enc P W 0 (fun _=>true) true ts vs ds p->ds.length=ts.length:=by
   intro ts
   induction ts with
   | nil=>intro vs ds p h;obtain⟨_,rfl,_⟩:=trodAll_nil h;rfl
   | cons t ts ih=>intro vs ds p h;obtain⟨v,vs',d,ds',p1,q,rfl,rfl,rfl,h1,h2⟩:=trodAll_cons h;simp[ih _ _ _ h2]
  have:=key _ _ _ _ hA0
  simpa using this
 have hgs:gs=[]:=by rw[hv]at hV;exact(trodVars_none hV).1
 have hws:∀ x∈DataW.weightsEach P fn.params.toList ds,x<=140737488351232:=fun x hx=>by
  have key:∀ (ts ts':List TypeId) (ds gs:List (DataW H)),x∈DataW.weightsEach P ts ds->x∈DataW.weightsEach P (ts++ts') (ds++gs):=by
   intro ts
   induction ts with
   | nil=>intro ts' ds gs h;simp[DataW.weightsEach]at h
   | cons t ts ih =>
    intro ts' ds gs h
    cases ds with
    | nil=>simp[DataW.weightsEach]at h
    | cons d ds =>
     simp only[DataW.weightsEach,List.cons_append,List.mem_append]at h ⊢
     exact h.imp id (ih ts' ds gs)
  have:=List.all_eq_true.1 hS x (key _ _ _ _ hx)
  exact of_decide_eq_true (p:=x<=reachBytes) this
 obtain⟨pds,h1,h2,h3⟩:=qJE hT (base:=base) (f:=n) _ _ _ _ (fun t ht=>List.all_eq_true.1 hok t ht) hA0 hws (fun j t v hj hv'=>hval j t v (by simpa using hj) (by simpa using hv'))
 refine((hA pds h1).2 (uX W) W args hG (fun _ _ _ h=>h) (by simpa using h2) (fun i u d hu hd=>h3 i u d (by simpa using hu) hd)).mono ?_
 rintro e W' ⟨v,M',rfl,hrd,_,_,_,hb⟩
 cases hrd
 refine⟨_,rfl,zOP hW' hb hl (fun t ht => ?_) hv ?_ hrt htb⟩
 ·have:=List.all_eq_true.1 hr t ht
  simpa using this
 rw[hgs,List.append_nil];exact hspec ds hlen
end
theorem zHM {α β:Type} {f:α->β}:∀ {es:List β},(∀ x∈es, ∃ a,x=f a)->∃ l:List α,es=l.map f
 | [],_=>⟨[],rfl⟩
 | x::es,h=>by
  obtain⟨a,rfl⟩:=h x (by simp)
  obtain⟨l,rfl⟩:=zHM (es:=es) fun y hy=>h y (by simp[hy])
  exact⟨a::l,rfl⟩
theorem qUE {α β:Type} {f:α->β} {p:α->Prop}:∀ {es:List β},(∀ x∈es, ∃ a,x=f a/\p a)->∃ l:List α,es=l.map f/\∀ a∈l,p a
 | [],_=>⟨[],rfl,by simp⟩
 | x::es,h=>by
  obtain⟨a,rfl,hp⟩:=h x (by simp)
  obtain⟨l,rfl,hl⟩:=qUE (es:=es) fun y hy=>h y (by simp[hy])
  exact⟨a::l,rfl,by simpa using⟨hp,hl⟩⟩
end Go.Proofs.YtgcbapchinideaaGreatDoor.Sy
namespace Go.Proofs.YtgcbapchinideaaGreatDoor
open Sy
set_option maxRecDepth 100000
def tbl:List (Option TI):=[
 none,
 none,
 some ⟨.int .i64,1,8,.p (.int .i64 0),true⟩,
 some ⟨.int .i64,1,8,.p (.int .i64 0),true⟩,
 some ⟨.bool,1,1,.p (.bool false),true⟩,
 some ⟨.int .u8,1,1,.p (.int .u8 0),true⟩,
 none,
 none,
 none,
 some ⟨.str,1,16,.p (.str []),true⟩,
 none,
 none,
 some ⟨.int .u64,1,8,.p (.int .u64 0),true⟩,
 none,
 none,
 none,
 none,
 none,
 none,
 none,
 none,
 some ⟨.int .i32,1,4,.p (.int .i32 0),true⟩,
 some ⟨.sl 57,1,24,.nilsl,true⟩,
 none,
 some ⟨.int .u64,1,8,.p (.int .u64 0),true⟩,
 some ⟨.st [(0,4),(1,9),(2,3)],3,32,.agg [.p (.bool false),.p (.str []),.p (.int .i64 0)],true⟩,
 some ⟨.st [(0,4),(1,9),(2,3)],3,32,.agg [.p (.bool false),.p (.str []),.p (.int .i64 0)],true⟩,
 some ⟨.sl 9,1,24,.nilsl,true⟩,
 some ⟨.sl 31,1,24,.nilsl,true⟩,
 some ⟨.int .i64,1,8,.p (.int .i64 0),true⟩,
 some ⟨.st [(0,3),(1,24),(2,26),(5,9),(6,27),(7,28),(8,29)],9,120,.agg [.p (.int .i64 0),.p (.int .u64 0),.p (.bool false),.p (.str []),.p (.int .i64 0),.p (.str []),.nilsl,.nilsl,.p (.int .i64 0)],true⟩,
 some ⟨.st [(0,3),(1,24),(2,26),(5,9),(6,27),(7,28),(8,29)],9,120,.agg [.p (.int .i64 0),.p (.int .u64 0),.p (.bool false),.p (.str []),.p (.int .i64 0),.p (.str []),.nilsl,.nilsl,.p (.int .i64 0)],true⟩,
 none,
 none,
 none,
 none,
 none,
 some ⟨.fn,1,8,.p .nilf,true⟩,
 some ⟨.fn,1,8,.p .nilf,true⟩,
 none,
 none,
 some ⟨.st [(0,22),(1,22),(2,9)],3,64,.agg [.nilsl,.nilsl,.p (.str [])],true⟩,
 some ⟨.st [(0,22),(1,22),(2,9)],3,64,.agg [.nilsl,.nilsl,.p (.str [])],true⟩,
 none,
 none,
 some ⟨.fn,1,8,.p .nilf,true⟩,
 none,
 some ⟨.fn,1,8,.p .nilf,true⟩,
 some ⟨.fn,1,8,.p .nilf,true⟩,
 none,
 none,
 none,
 none,
 none,
 none,
 none,
 some ⟨.st [(0,3),(1,3),(2,24),(3,9),(4,9),(5,27)],6,80,.agg [.p (.int .i64 0),.p (.int .i64 0),.p (.int .u64 0),.p (.str []),.p (.str []),.nilsl],true⟩,
 some ⟨.st [(0,3),(1,3),(2,24),(3,9),(4,9),(5,27)],6,80,.agg [.p (.int .i64 0),.p (.int .i64 0),.p (.int .u64 0),.p (.str []),.p (.str []),.nilsl],true⟩,
 none,
 none,
 some ⟨.st [(0,24)],1,8,.agg [.p (.int .u64 0)],true⟩,
 some ⟨.st [(0,24)],1,8,.agg [.p (.int .u64 0)],true⟩,
 none,
 none,
 none,
 none,
 none,
 none,
 none,
 none,
 none,
 none,
 some ⟨.fn,1,8,.p .nilf,true⟩,
 none,
 none,
 none,
 none,
 none,
 none,
 none,
 none,
 some ⟨.sl 5,1,24,.nilsl,true⟩,
 none,
 none,
 none,
 none,
 none,
 none,
 none,
 none,
 none,
 none,
 some ⟨.fn,1,8,.p .nilf,true⟩,
 some ⟨.fn,1,8,.p .nilf,true⟩,
 none,
 none,
 some ⟨.ar 9 9,9,144,.agg (pcells (xJ 9 (.str []))),true⟩,
 none,
 none,
 none,
 none,
 none,
 none,
 none,
 none,
 none,
 none,
 none,
 none,
 none,
 none,
 none,
 none,
 some ⟨.ptr 31,1,8,.p .nilp,true⟩,
 some ⟨.fn,1,8,.p .nilf,true⟩,
 none,
 none,
 none,
 none,
 none,
 none,
 none,
 none,
 none,
 none,
 none,
 none,
 none,
 none,
 none,
 none,
 none,
 none,
 none,
 none,
 none,
 none,
 none,
 none,
 none,
 none,
 none,
 none,
 none,
 none,
 none,
 none,
 none,
 some ⟨.int .u64,1,8,.p (.int .u64 0),true⟩,
 some ⟨.ptr 207,1,8,.p .nilp,true⟩,
 some ⟨.st [(0,3),(1,3)],2,16,.agg [.p (.int .i64 0),.p (.int .i64 0)],true⟩,
 some ⟨.st [(0,3),(1,3)],2,16,.agg [.p (.int .i64 0),.p (.int .i64 0)],true⟩,
 none,
 none,
 some ⟨.sl 21,1,24,.nilsl,true⟩,
 none,
 some ⟨.fn,1,8,.p .nilf,true⟩,
 none,
 some ⟨.fn,1,8,.p .nilf,true⟩,
 none,
 none,
 some ⟨.ptr 163,1,8,.p .nilp,true⟩,
 some ⟨.st [(0,161),(1,81)],2,32,.agg [.p .nilp,.nilsl],true⟩,
 some ⟨.st [(0,161),(1,81)],2,32,.agg [.p .nilp,.nilsl],true⟩,
 none,
 none,
 none,
 none,
 none,
 none,
 none,
 none,
 none,
 none,
 none,
 none,
 none,
 none,
 some ⟨.sl 24,1,24,.nilsl,true⟩,
 some ⟨.sl 24,1,24,.nilsl,true⟩,
 none,
 none,
 none,
 none,
 some ⟨.sl 3,1,24,.nilsl,true⟩,
 none,
 none,
 none,
 some ⟨.ar 256 4,256,256,.agg (pcells (xJ 256 (.bool false))),true⟩,
 some ⟨.ar 256 4,256,256,.agg (pcells (xJ 256 (.bool false))),true⟩,
 none,
 none,
 none,
 some ⟨.ptr 189,1,8,.p .nilp,true⟩,
 none,
 some ⟨.int .i64,1,8,.p (.int .i64 0),true⟩,
 none,
 none,
 none,
 none,
 none,
 none,
 some ⟨.int .u32,1,4,.p (.int .u32 0),true⟩,
 none,
 some ⟨.ptr 209,1,8,.p .nilp,true⟩,
 some ⟨.sl 215,1,24,.nilsl,true⟩,
 some ⟨.st [(0,205)],1,24,.agg [.nilsl],true⟩,
 some ⟨.st [(0,205)],1,24,.agg [.nilsl],true⟩,
 some ⟨.st [(0,149),(1,154),(2,3),(3,4)],4,48,.agg [.p .nilp,.nilsl,.p (.int .i64 0),.p (.bool false)],true⟩,
 some ⟨.st [(0,149),(1,154),(2,3),(3,4)],4,48,.agg [.p .nilp,.nilsl,.p (.int .i64 0),.p (.bool false)],true⟩,
 none,
 some ⟨.sl 4,1,24,.nilsl,true⟩,
 none,
 some ⟨.fn,1,8,.p .nilf,true⟩,
 some ⟨.st [(0,158),(1,213),(2,184)],3,40,.agg [.p .nilf,.p .nilf,.nilsl],true⟩,
 some ⟨.st [(0,158),(1,213),(2,184)],3,40,.agg [.p .nilf,.p .nilf,.nilsl],true⟩,
 none,
 none,
 none,
 none,
 none,
 some ⟨.ptr 5,1,8,.p .nilp,true⟩,
 none,
 none,
 none,
 none,
 none,
 some ⟨.fn,1,8,.p .nilf,true⟩,
 none,
 none,
 none,
 none,
 some ⟨.int .u64,1,8,.p (.int .u64 0),true⟩,
 none,
 none,
 none,
 some ⟨.ptr 3,1,8,.p .nilp,true⟩,
 none,
 none,
 none,
 none,
 none,
 none,
 none,
 none,
 some ⟨.ar 24 5,24,24,.agg (pcells (xJ 24 (.int .u8 0))),true⟩,
 none,
 none,
 none,
 none,
 some ⟨.ptr 232,1,8,.p .nilp,true⟩,
 none,
 none,
 none,
 some ⟨.ar 256 5,256,256,.agg (pcells (xJ 256 (.int .u8 0))),true⟩,
 some ⟨.st [(0,5),(1,5)],2,2,.agg [.p (.int .u8 0),.p (.int .u8 0)],true⟩,
 some ⟨.st [(0,5),(1,5)],2,2,.agg [.p (.int .u8 0),.p (.int .u8 0)],true⟩,
 some ⟨.ar 16 256,32,32,.agg (pcells (xJ 32 (.int .u8 0))),true⟩,
 none,
 none,
 some ⟨.ar 20 24,20,160,.agg (pcells (xJ 20 (.int .u64 0))),true⟩,
 some ⟨.ar 65 5,65,65,.agg (pcells (xJ 65 (.int .u8 0))),true⟩,
 none,
 none,
 none,
 some ⟨.sl 268,1,24,.nilsl,true⟩,
 none,
 some ⟨.st [(0,21),(1,21)],2,8,.agg [.p (.int .i32 0),.p (.int .i32 0)],true⟩,
 some ⟨.st [(0,21),(1,21)],2,8,.agg [.p (.int .i32 0),.p (.int .i32 0)],true⟩,
 none,
 some ⟨.ar 32 5,32,32,.agg (pcells (xJ 32 (.int .u8 0))),true⟩,
 some ⟨.ar 64 5,64,64,.agg (pcells (xJ 64 (.int .u8 0))),true⟩,
 none,
 some ⟨.fn,1,8,.p .nilf,true⟩,
 none,
 none,
 none,
 none,
 none,
 none,
 none,
 none,
 some ⟨.fn,1,8,.p .nilf,true⟩,
 none,
 none,
 none,
 none]
def T:Tab:=fun t=>(tbl[t]?).getD none
def zGQ (P:Program):Nat->List (Option TI)->Prop
 | _,[]=>True
 | k,none::r=>zGQ P (k+1) r
 | k,some ti::r=>zC P k=some ti/\zGQ P (k+1) r
theorem qLE {P:Program}:∀ {l:List (Option TI)} {k:Nat},zGQ P k l->∀ {i:Nat} {ti:TI},l[i]?=some (some ti)->zC P (k+i)=some ti
 | [],_,_,i,ti,h=>by simp at h
 | none::r,k,hk,i,ti,h=>by
  cases i with
  | zero=>simp at h
  | succ i=>have:=qLE (l:=r) (k:=k+1) hk (i:=i) (ti:=ti) (by simpa using h);rw[<-this,show k+(i+1)=k+1+i from by omega]
 | some t0::r,k,hk,i,ti,h=>by
  cases i with
  | zero=>simp at h;subst h;exact hk.1
  | succ i=>have:=qLE (l:=r) (k:=k+1) hk.2 (i:=i) (ti:=ti) (by simpa using h);rw[<-this,show k+(i+1)=k+1+i from by omega]
theorem ti2:zC Tryz.prog 2=some ⟨.int .i64,1,8,.p (.int .i64 0),true⟩:=by kernel_rfl
theorem ti3:zC Tryz.prog 3=some ⟨.int .i64,1,8,.p (.int .i64 0),true⟩:=by kernel_rfl
theorem ti4:zC Tryz.prog 4=some ⟨.bool,1,1,.p (.bool false),true⟩:=by kernel_rfl
theorem ti5:zC Tryz.prog 5=some ⟨.int .u8,1,1,.p (.int .u8 0),true⟩:=by kernel_rfl
theorem ti9:zC Tryz.prog 9=some ⟨.str,1,16,.p (.str []),true⟩:=by kernel_rfl
theorem wDR:zC Tryz.prog 12=some ⟨.int .u64,1,8,.p (.int .u64 0),true⟩:=by kernel_rfl
theorem wDQ:zC Tryz.prog 21=some ⟨.int .i32,1,4,.p (.int .i32 0),true⟩:=by kernel_rfl
theorem wDP:zC Tryz.prog 22=some ⟨.sl 57,1,24,.nilsl,true⟩:=by kernel_rfl
theorem wDO:zC Tryz.prog 24=some ⟨.int .u64,1,8,.p (.int .u64 0),true⟩:=by kernel_rfl
theorem wDN:zC Tryz.prog 25=some ⟨.st [(0,4),(1,9),(2,3)],3,32,.agg [.p (.bool false),.p (.str []),.p (.int .i64 0)],true⟩:=by kernel_rfl
theorem wDM:zC Tryz.prog 26=some ⟨.st [(0,4),(1,9),(2,3)],3,32,.agg [.p (.bool false),.p (.str []),.p (.int .i64 0)],true⟩:=by kernel_rfl
theorem wDL:zC Tryz.prog 27=some ⟨.sl 9,1,24,.nilsl,true⟩:=by kernel_rfl
theorem wDK:zC Tryz.prog 28=some ⟨.sl 31,1,24,.nilsl,true⟩:=by kernel_rfl
theorem wDJ:zC Tryz.prog 29=some ⟨.int .i64,1,8,.p (.int .i64 0),true⟩:=by kernel_rfl
theorem wDI:zC Tryz.prog 30=some ⟨.st [(0,3),(1,24),(2,26),(5,9),(6,27),(7,28),(8,29)],9,120,.agg [.p (.int .i64 0),.p (.int .u64 0),.p (.bool false),.p (.str []),.p (.int .i64 0),.p (.str []),.nilsl,.nilsl,.p (.int .i64 0)],true⟩:=by kernel_rfl
theorem wDH:zC Tryz.prog 31=some ⟨.st [(0,3),(1,24),(2,26),(5,9),(6,27),(7,28),(8,29)],9,120,.agg [.p (.int .i64 0),.p (.int .u64 0),.p (.bool false),.p (.str []),.p (.int .i64 0),.p (.str []),.nilsl,.nilsl,.p (.int .i64 0)],true⟩:=by kernel_rfl
theorem wDG:zC Tryz.prog 37=some ⟨.fn,1,8,.p .nilf,true⟩:=by kernel_rfl
theorem wDF:zC Tryz.prog 38=some ⟨.fn,1,8,.p .nilf,true⟩:=by kernel_rfl
theorem wDE:zC Tryz.prog 41=some ⟨.st [(0,22),(1,22),(2,9)],3,64,.agg [.nilsl,.nilsl,.p (.str [])],true⟩:=by kernel_rfl
theorem wDD:zC Tryz.prog 42=some ⟨.st [(0,22),(1,22),(2,9)],3,64,.agg [.nilsl,.nilsl,.p (.str [])],true⟩:=by kernel_rfl
theorem wDC:zC Tryz.prog 45=some ⟨.fn,1,8,.p .nilf,true⟩:=by kernel_rfl
theorem wDB:zC Tryz.prog 47=some ⟨.fn,1,8,.p .nilf,true⟩:=by kernel_rfl
theorem wDA:zC Tryz.prog 48=some ⟨.fn,1,8,.p .nilf,true⟩:=by kernel_rfl
theorem wCZ:zC Tryz.prog 56=some ⟨.st [(0,3),(1,3),(2,24),(3,9),(4,9),(5,27)],6,80,.agg [.p (.int .i64 0),.p (.int .i64 0),.p (.int .u64 0),.p (.str []),.p (.str []),.nilsl],true⟩:=by kernel_rfl
theorem wCY:zC Tryz.prog 57=some ⟨.st [(0,3),(1,3),(2,24),(3,9),(4,9),(5,27)],6,80,.agg [.p (.int .i64 0),.p (.int .i64 0),.p (.int .u64 0),.p (.str []),.p (.str []),.nilsl],true⟩:=by kernel_rfl
theorem wCX:zC Tryz.prog 60=some ⟨.st [(0,24)],1,8,.agg [.p (.int .u64 0)],true⟩:=by kernel_rfl
theorem wCW:zC Tryz.prog 61=some ⟨.st [(0,24)],1,8,.agg [.p (.int .u64 0)],true⟩:=by kernel_rfl
theorem wCV:zC Tryz.prog 72=some ⟨.fn,1,8,.p .nilf,true⟩:=by kernel_rfl
theorem wCU:zC Tryz.prog 81=some ⟨.sl 5,1,24,.nilsl,true⟩:=by kernel_rfl
theorem wCT:zC Tryz.prog 92=some ⟨.fn,1,8,.p .nilf,true⟩:=by kernel_rfl
theorem wCS:zC Tryz.prog 93=some ⟨.fn,1,8,.p .nilf,true⟩:=by kernel_rfl
theorem wCR:zC Tryz.prog 96=some ⟨.ar 9 9,9,144,.agg (pcells (xJ 9 (.str []))),true⟩:=by kernel_rfl
theorem wBJ:zC Tryz.prog 113=some ⟨.ptr 31,1,8,.p .nilp,true⟩:=by kernel_rfl
theorem wBI:zC Tryz.prog 114=some ⟨.fn,1,8,.p .nilf,true⟩:=by kernel_rfl
theorem wBH:zC Tryz.prog 148=some ⟨.int .u64,1,8,.p (.int .u64 0),true⟩:=by kernel_rfl
theorem wBG:zC Tryz.prog 149=some ⟨.ptr 207,1,8,.p .nilp,true⟩:=by kernel_rfl
theorem wBF:zC Tryz.prog 150=some ⟨.st [(0,3),(1,3)],2,16,.agg [.p (.int .i64 0),.p (.int .i64 0)],true⟩:=by kernel_rfl
theorem wBE:zC Tryz.prog 151=some ⟨.st [(0,3),(1,3)],2,16,.agg [.p (.int .i64 0),.p (.int .i64 0)],true⟩:=by kernel_rfl
theorem wBD:zC Tryz.prog 154=some ⟨.sl 21,1,24,.nilsl,true⟩:=by kernel_rfl
theorem wBC:zC Tryz.prog 156=some ⟨.fn,1,8,.p .nilf,true⟩:=by kernel_rfl
theorem wBB:zC Tryz.prog 158=some ⟨.fn,1,8,.p .nilf,true⟩:=by kernel_rfl
theorem wBA:zC Tryz.prog 161=some ⟨.ptr 163,1,8,.p .nilp,true⟩:=by kernel_rfl
theorem wAZ:zC Tryz.prog 162=some ⟨.st [(0,161),(1,81)],2,32,.agg [.p .nilp,.nilsl],true⟩:=by kernel_rfl
theorem wAY:zC Tryz.prog 163=some ⟨.st [(0,161),(1,81)],2,32,.agg [.p .nilp,.nilsl],true⟩:=by kernel_rfl
theorem wAX:zC Tryz.prog 178=some ⟨.sl 24,1,24,.nilsl,true⟩:=by kernel_rfl
theorem wAW:zC Tryz.prog 179=some ⟨.sl 24,1,24,.nilsl,true⟩:=by kernel_rfl
theorem wAV:zC Tryz.prog 184=some ⟨.sl 3,1,24,.nilsl,true⟩:=by kernel_rfl
theorem wAU:zC Tryz.prog 188=some ⟨.ar 256 4,256,256,.agg (pcells (xJ 256 (.bool false))),true⟩:=by kernel_rfl
theorem wAT:zC Tryz.prog 189=some ⟨.ar 256 4,256,256,.agg (pcells (xJ 256 (.bool false))),true⟩:=by kernel_rfl
theorem wAS:zC Tryz.prog 193=some ⟨.ptr 189,1,8,.p .nilp,true⟩:=by kernel_rfl
theorem wAR:zC Tryz.prog 195=some ⟨.int .i64,1,8,.p (.int .i64 0),true⟩:=by kernel_rfl
theorem wAQ:zC Tryz.prog 202=some ⟨.int .u32,1,4,.p (.int .u32 0),true⟩:=by kernel_rfl
theorem wAP:zC Tryz.prog 204=some ⟨.ptr 209,1,8,.p .nilp,true⟩:=by kernel_rfl
theorem wAO:zC Tryz.prog 205=some ⟨.sl 215,1,24,.nilsl,true⟩:=by kernel_rfl
theorem wAN:zC Tryz.prog 206=some ⟨.st [(0,205)],1,24,.agg [.nilsl],true⟩:=by kernel_rfl
theorem wAM:zC Tryz.prog 207=some ⟨.st [(0,205)],1,24,.agg [.nilsl],true⟩:=by kernel_rfl
theorem wAL:zC Tryz.prog 208=some ⟨.st [(0,149),(1,154),(2,3),(3,4)],4,48,.agg [.p .nilp,.nilsl,.p (.int .i64 0),.p (.bool false)],true⟩:=by kernel_rfl
theorem wAK:zC Tryz.prog 209=some ⟨.st [(0,149),(1,154),(2,3),(3,4)],4,48,.agg [.p .nilp,.nilsl,.p (.int .i64 0),.p (.bool false)],true⟩:=by kernel_rfl
theorem wAJ:zC Tryz.prog 211=some ⟨.sl 4,1,24,.nilsl,true⟩:=by kernel_rfl
theorem wAI:zC Tryz.prog 213=some ⟨.fn,1,8,.p .nilf,true⟩:=by kernel_rfl
theorem wAH:zC Tryz.prog 214=some ⟨.st [(0,158),(1,213),(2,184)],3,40,.agg [.p .nilf,.p .nilf,.nilsl],true⟩:=by kernel_rfl
theorem wAG:zC Tryz.prog 215=some ⟨.st [(0,158),(1,213),(2,184)],3,40,.agg [.p .nilf,.p .nilf,.nilsl],true⟩:=by kernel_rfl
theorem wAF:zC Tryz.prog 221=some ⟨.ptr 5,1,8,.p .nilp,true⟩:=by kernel_rfl
theorem wAE:zC Tryz.prog 227=some ⟨.fn,1,8,.p .nilf,true⟩:=by kernel_rfl
theorem wAD:zC Tryz.prog 232=some ⟨.int .u64,1,8,.p (.int .u64 0),true⟩:=by kernel_rfl
theorem wAC:zC Tryz.prog 236=some ⟨.ptr 3,1,8,.p .nilp,true⟩:=by kernel_rfl
theorem wAB:zC Tryz.prog 245=some ⟨.ar 24 5,24,24,.agg (pcells (xJ 24 (.int .u8 0))),true⟩:=by kernel_rfl
theorem wAA:zC Tryz.prog 250=some ⟨.ptr 232,1,8,.p .nilp,true⟩:=by kernel_rfl
theorem zZZ:zC Tryz.prog 254=some ⟨.ar 256 5,256,256,.agg (pcells (xJ 256 (.int .u8 0))),true⟩:=by kernel_rfl
theorem zZY:zC Tryz.prog 255=some ⟨.st [(0,5),(1,5)],2,2,.agg [.p (.int .u8 0),.p (.int .u8 0)],true⟩:=by kernel_rfl
theorem zZX:zC Tryz.prog 256=some ⟨.st [(0,5),(1,5)],2,2,.agg [.p (.int .u8 0),.p (.int .u8 0)],true⟩:=by kernel_rfl
theorem zZW:zC Tryz.prog 257=some ⟨.ar 16 256,32,32,.agg (pcells (xJ 32 (.int .u8 0))),true⟩:=by kernel_rfl
theorem zZV:zC Tryz.prog 260=some ⟨.ar 20 24,20,160,.agg (pcells (xJ 20 (.int .u64 0))),true⟩:=by kernel_rfl
theorem zZU:zC Tryz.prog 261=some ⟨.ar 65 5,65,65,.agg (pcells (xJ 65 (.int .u8 0))),true⟩:=by kernel_rfl
theorem zZT:zC Tryz.prog 265=some ⟨.sl 268,1,24,.nilsl,true⟩:=by kernel_rfl
theorem zZS:zC Tryz.prog 267=some ⟨.st [(0,21),(1,21)],2,8,.agg [.p (.int .i32 0),.p (.int .i32 0)],true⟩:=by kernel_rfl
theorem zZR:zC Tryz.prog 268=some ⟨.st [(0,21),(1,21)],2,8,.agg [.p (.int .i32 0),.p (.int .i32 0)],true⟩:=by kernel_rfl
theorem zZQ:zC Tryz.prog 270=some ⟨.ar 32 5,32,32,.agg (pcells (xJ 32 (.int .u8 0))),true⟩:=by kernel_rfl
theorem zZP:zC Tryz.prog 271=some ⟨.ar 64 5,64,64,.agg (pcells (xJ 64 (.int .u8 0))),true⟩:=by kernel_rfl
theorem zZO:zC Tryz.prog 273=some ⟨.fn,1,8,.p .nilf,true⟩:=by kernel_rfl
theorem zZN:zC Tryz.prog 282=some ⟨.fn,1,8,.p .nilf,true⟩:=by kernel_rfl
@[simp] theorem T_0:T 0=none:=rfl
@[simp] theorem T_2:T 2=some ⟨.int .i64,1,8,.p (.int .i64 0),true⟩:=rfl
@[simp] theorem T_3:T 3=some ⟨.int .i64,1,8,.p (.int .i64 0),true⟩:=rfl
@[simp] theorem T_4:T 4=some ⟨.bool,1,1,.p (.bool false),true⟩:=rfl
@[simp] theorem T_5:T 5=some ⟨.int .u8,1,1,.p (.int .u8 0),true⟩:=rfl
@[simp] theorem T_6:T 6=none:=rfl
@[simp] theorem T_7:T 7=none:=rfl
@[simp] theorem T_8:T 8=none:=rfl
@[simp] theorem T_9:T 9=some ⟨.str,1,16,.p (.str []),true⟩:=rfl
@[simp] theorem T_10:T 10=none:=rfl
@[simp] theorem T_11:T 11=none:=rfl
@[simp] theorem T_12:T 12=some ⟨.int .u64,1,8,.p (.int .u64 0),true⟩:=rfl
@[simp] theorem T_13:T 13=none:=rfl
@[simp] theorem T_14:T 14=none:=rfl
@[simp] theorem T_15:T 15=none:=rfl
@[simp] theorem T_16:T 16=none:=rfl
@[simp] theorem wIK:T 17=none:=rfl
@[simp] theorem wIJ:T 18=none:=rfl
@[simp] theorem wII:T 19=none:=rfl
@[simp] theorem wIH:T 20=none:=rfl
@[simp] theorem wIG:T 21=some ⟨.int .i32,1,4,.p (.int .i32 0),true⟩:=rfl
@[simp] theorem wIF:T 22=some ⟨.sl 57,1,24,.nilsl,true⟩:=rfl
@[simp] theorem wIE:T 24=some ⟨.int .u64,1,8,.p (.int .u64 0),true⟩:=rfl
@[simp] theorem wID:T 25=some ⟨.st [(0,4),(1,9),(2,3)],3,32,.agg [.p (.bool false),.p (.str []),.p (.int .i64 0)],true⟩:=rfl
@[simp] theorem wIC:T 26=some ⟨.st [(0,4),(1,9),(2,3)],3,32,.agg [.p (.bool false),.p (.str []),.p (.int .i64 0)],true⟩:=rfl
@[simp] theorem wIB:T 27=some ⟨.sl 9,1,24,.nilsl,true⟩:=rfl
@[simp] theorem wIA:T 28=some ⟨.sl 31,1,24,.nilsl,true⟩:=rfl
@[simp] theorem wHZ:T 29=some ⟨.int .i64,1,8,.p (.int .i64 0),true⟩:=rfl
@[simp] theorem wHY:T 30=some ⟨.st [(0,3),(1,24),(2,26),(5,9),(6,27),(7,28),(8,29)],9,120,.agg [.p (.int .i64 0),.p (.int .u64 0),.p (.bool false),.p (.str []),.p (.int .i64 0),.p (.str []),.nilsl,.nilsl,.p (.int .i64 0)],true⟩:=rfl
@[simp] theorem wHX:T 31=some ⟨.st [(0,3),(1,24),(2,26),(5,9),(6,27),(7,28),(8,29)],9,120,.agg [.p (.int .i64 0),.p (.int .u64 0),.p (.bool false),.p (.str []),.p (.int .i64 0),.p (.str []),.nilsl,.nilsl,.p (.int .i64 0)],true⟩:=rfl
@[simp] theorem wHW:T 37=some ⟨.fn,1,8,.p .nilf,true⟩:=rfl
@[simp] theorem wHV:T 38=some ⟨.fn,1,8,.p .nilf,true⟩:=rfl
@[simp] theorem wHU:T 41=some ⟨.st [(0,22),(1,22),(2,9)],3,64,.agg [.nilsl,.nilsl,.p (.str [])],true⟩:=rfl
@[simp] theorem wHT:T 42=some ⟨.st [(0,22),(1,22),(2,9)],3,64,.agg [.nilsl,.nilsl,.p (.str [])],true⟩:=rfl
@[simp] theorem wHS:T 45=some ⟨.fn,1,8,.p .nilf,true⟩:=rfl
@[simp] theorem wHR:T 47=some ⟨.fn,1,8,.p .nilf,true⟩:=rfl
@[simp] theorem wHQ:T 48=some ⟨.fn,1,8,.p .nilf,true⟩:=rfl
@[simp] theorem wHP:T 51=none:=rfl
@[simp] theorem wHO:T 56=some ⟨.st [(0,3),(1,3),(2,24),(3,9),(4,9),(5,27)],6,80,.agg [.p (.int .i64 0),.p (.int .i64 0),.p (.int .u64 0),.p (.str []),.p (.str []),.nilsl],true⟩:=rfl
@[simp] theorem wHN:T 57=some ⟨.st [(0,3),(1,3),(2,24),(3,9),(4,9),(5,27)],6,80,.agg [.p (.int .i64 0),.p (.int .i64 0),.p (.int .u64 0),.p (.str []),.p (.str []),.nilsl],true⟩:=rfl
@[simp] theorem wHM:T 60=some ⟨.st [(0,24)],1,8,.agg [.p (.int .u64 0)],true⟩:=rfl
@[simp] theorem wHL:T 61=some ⟨.st [(0,24)],1,8,.agg [.p (.int .u64 0)],true⟩:=rfl
@[simp] theorem wHK:T 62=none:=rfl
@[simp] theorem wHJ:T 72=some ⟨.fn,1,8,.p .nilf,true⟩:=rfl
@[simp] theorem wHI:T 79=none:=rfl
@[simp] theorem wHH:T 81=some ⟨.sl 5,1,24,.nilsl,true⟩:=rfl
@[simp] theorem wHG:T 83=none:=rfl
@[simp] theorem wHF:T 92=some ⟨.fn,1,8,.p .nilf,true⟩:=rfl
@[simp] theorem wHE:T 93=some ⟨.fn,1,8,.p .nilf,true⟩:=rfl
@[simp] theorem wHD:T 96=some ⟨.ar 9 9,9,144,.agg (pcells (xJ 9 (.str []))),true⟩:=rfl
@[simp] theorem wHC:T 97=none:=rfl
@[simp] theorem wHB:T 107=none:=rfl
@[simp] theorem wHA:T 113=some ⟨.ptr 31,1,8,.p .nilp,true⟩:=rfl
@[simp] theorem wGZ:T 114=some ⟨.fn,1,8,.p .nilf,true⟩:=rfl
@[simp] theorem wGY:T 115=none:=rfl
@[simp] theorem wGX:T 117=none:=rfl
@[simp] theorem wGW:T 119=none:=rfl
@[simp] theorem wGV:T 121=none:=rfl
@[simp] theorem wGU:T 126=none:=rfl
@[simp] theorem wGT:T 137=none:=rfl
@[simp] theorem wGS:T 148=some ⟨.int .u64,1,8,.p (.int .u64 0),true⟩:=rfl
@[simp] theorem wGR:T 149=some ⟨.ptr 207,1,8,.p .nilp,true⟩:=rfl
@[simp] theorem wGQ:T 150=some ⟨.st [(0,3),(1,3)],2,16,.agg [.p (.int .i64 0),.p (.int .i64 0)],true⟩:=rfl
@[simp] theorem wGP:T 151=some ⟨.st [(0,3),(1,3)],2,16,.agg [.p (.int .i64 0),.p (.int .i64 0)],true⟩:=rfl
@[simp] theorem wGO:T 152=none:=rfl
@[simp] theorem wGN:T 154=some ⟨.sl 21,1,24,.nilsl,true⟩:=rfl
@[simp] theorem wGM:T 156=some ⟨.fn,1,8,.p .nilf,true⟩:=rfl
@[simp] theorem wGL:T 158=some ⟨.fn,1,8,.p .nilf,true⟩:=rfl
@[simp] theorem wGK:T 159=none:=rfl
@[simp] theorem wGJ:T 161=some ⟨.ptr 163,1,8,.p .nilp,true⟩:=rfl
@[simp] theorem wGI:T 162=some ⟨.st [(0,161),(1,81)],2,32,.agg [.p .nilp,.nilsl],true⟩:=rfl
@[simp] theorem wGH:T 163=some ⟨.st [(0,161),(1,81)],2,32,.agg [.p .nilp,.nilsl],true⟩:=rfl
@[simp] theorem wGG:T 164=none:=rfl
@[simp] theorem wGF:T 165=none:=rfl
@[simp] theorem wGE:T 166=none:=rfl
@[simp] theorem wGD:T 178=some ⟨.sl 24,1,24,.nilsl,true⟩:=rfl
@[simp] theorem wGC:T 179=some ⟨.sl 24,1,24,.nilsl,true⟩:=rfl
@[simp] theorem wGB:T 180=none:=rfl
@[simp] theorem wGA:T 184=some ⟨.sl 3,1,24,.nilsl,true⟩:=rfl
@[simp] theorem wFZ:T 188=some ⟨.ar 256 4,256,256,.agg (pcells (xJ 256 (.bool false))),true⟩:=rfl
@[simp] theorem wFY:T 189=some ⟨.ar 256 4,256,256,.agg (pcells (xJ 256 (.bool false))),true⟩:=rfl
@[simp] theorem wFX:T 190=none:=rfl
@[simp] theorem wFW:T 193=some ⟨.ptr 189,1,8,.p .nilp,true⟩:=rfl
@[simp] theorem wFV:T 195=some ⟨.int .i64,1,8,.p (.int .i64 0),true⟩:=rfl
@[simp] theorem wFU:T 196=none:=rfl
@[simp] theorem wFT:T 202=some ⟨.int .u32,1,4,.p (.int .u32 0),true⟩:=rfl
@[simp] theorem wFS:T 204=some ⟨.ptr 209,1,8,.p .nilp,true⟩:=rfl
@[simp] theorem wFR:T 205=some ⟨.sl 215,1,24,.nilsl,true⟩:=rfl
@[simp] theorem wFQ:T 206=some ⟨.st [(0,205)],1,24,.agg [.nilsl],true⟩:=rfl
@[simp] theorem wFP:T 207=some ⟨.st [(0,205)],1,24,.agg [.nilsl],true⟩:=rfl
@[simp] theorem wFO:T 208=some ⟨.st [(0,149),(1,154),(2,3),(3,4)],4,48,.agg [.p .nilp,.nilsl,.p (.int .i64 0),.p (.bool false)],true⟩:=rfl
@[simp] theorem wFN:T 209=some ⟨.st [(0,149),(1,154),(2,3),(3,4)],4,48,.agg [.p .nilp,.nilsl,.p (.int .i64 0),.p (.bool false)],true⟩:=rfl
@[simp] theorem wFM:T 211=some ⟨.sl 4,1,24,.nilsl,true⟩:=rfl
@[simp] theorem wFL:T 213=some ⟨.fn,1,8,.p .nilf,true⟩:=rfl
@[simp] theorem wFK:T 214=some ⟨.st [(0,158),(1,213),(2,184)],3,40,.agg [.p .nilf,.p .nilf,.nilsl],true⟩:=rfl
@[simp] theorem wFJ:T 215=some ⟨.st [(0,158),(1,213),(2,184)],3,40,.agg [.p .nilf,.p .nilf,.nilsl],true⟩:=rfl
@[simp] theorem wFI:T 217=none:=rfl
@[simp] theorem wFH:T 219=none:=rfl
@[simp] theorem wFG:T 221=some ⟨.ptr 5,1,8,.p .nilp,true⟩:=rfl
@[simp] theorem wFF:T 222=none:=rfl
@[simp] theorem wFE:T 227=some ⟨.fn,1,8,.p .nilf,true⟩:=rfl
@[simp] theorem wFD:T 232=some ⟨.int .u64,1,8,.p (.int .u64 0),true⟩:=rfl
@[simp] theorem wFC:T 236=some ⟨.ptr 3,1,8,.p .nilp,true⟩:=rfl
@[simp] theorem wFB:T 238=none:=rfl
@[simp] theorem wFA:T 241=none:=rfl
@[simp] theorem wEZ:T 245=some ⟨.ar 24 5,24,24,.agg (pcells (xJ 24 (.int .u8 0))),true⟩:=rfl
@[simp] theorem wEY:T 247=none:=rfl
@[simp] theorem wEX:T 250=some ⟨.ptr 232,1,8,.p .nilp,true⟩:=rfl
@[simp] theorem wEW:T 254=some ⟨.ar 256 5,256,256,.agg (pcells (xJ 256 (.int .u8 0))),true⟩:=rfl
@[simp] theorem wEV:T 255=some ⟨.st [(0,5),(1,5)],2,2,.agg [.p (.int .u8 0),.p (.int .u8 0)],true⟩:=rfl
@[simp] theorem wEU:T 256=some ⟨.st [(0,5),(1,5)],2,2,.agg [.p (.int .u8 0),.p (.int .u8 0)],true⟩:=rfl
@[simp] theorem wET:T 257=some ⟨.ar 16 256,32,32,.agg (pcells (xJ 32 (.int .u8 0))),true⟩:=rfl
@[simp] theorem wES:T 260=some ⟨.ar 20 24,20,160,.agg (pcells (xJ 20 (.int .u64 0))),true⟩:=rfl
@[simp] theorem wER:T 261=some ⟨.ar 65 5,65,65,.agg (pcells (xJ 65 (.int .u8 0))),true⟩:=rfl
@[simp] theorem wEQ:T 265=some ⟨.sl 268,1,24,.nilsl,true⟩:=rfl
@[simp] theorem wEP:T 267=some ⟨.st [(0,21),(1,21)],2,8,.agg [.p (.int .i32 0),.p (.int .i32 0)],true⟩:=rfl
@[simp] theorem wEO:T 268=some ⟨.st [(0,21),(1,21)],2,8,.agg [.p (.int .i32 0),.p (.int .i32 0)],true⟩:=rfl
@[simp] theorem wEN:T 270=some ⟨.ar 32 5,32,32,.agg (pcells (xJ 32 (.int .u8 0))),true⟩:=rfl
@[simp] theorem wEM:T 271=some ⟨.ar 64 5,64,64,.agg (pcells (xJ 64 (.int .u8 0))),true⟩:=rfl
@[simp] theorem wEL:T 273=some ⟨.fn,1,8,.p .nilf,true⟩:=rfl
@[simp] theorem wEK:T 275=none:=rfl
@[simp] theorem wEJ:T 276=none:=rfl
@[simp] theorem wEI:T 277=none:=rfl
@[simp] theorem wEH:T 278=none:=rfl
@[simp] theorem wEG:T 279=none:=rfl
@[simp] theorem wEF:T 280=none:=rfl
@[simp] theorem wEE:T 281=none:=rfl
@[simp] theorem wED:T 282=some ⟨.fn,1,8,.p .nilf,true⟩:=rfl
@[simp] theorem wEC:T 283=none:=rfl
@[simp] theorem wEB:T 284=none:=rfl
@[simp] theorem wEA:T 285=none:=rfl
@[simp] theorem wDZ:T 286=none:=rfl
theorem zWS:zGQ Tryz.prog 0 tbl:=⟨ti2,ti3,ti4,ti5,ti9,wDR,wDQ,wDP,wDO,wDN,wDM,wDL,wDK,wDJ,wDI,wDH,wDG,wDF,wDE,wDD,wDC,wDB,wDA,wCZ,wCY,wCX,wCW,wCV,wCU,wCT,wCS,wCR,wBJ,wBI,wBH,wBG,wBF,wBE,wBD,wBC,wBB,wBA,wAZ,wAY,wAX,wAW,wAV,wAU,wAT,wAS,wAR,wAQ,wAP,wAO,wAN,wAM,wAL,wAK,wAJ,wAI,wAH,wAG,wAF,wAE,wAD,wAC,wAB,wAA,zZZ,zZY,zZX,zZW,zZV,zZU,zZT,zZS,zZR,zZQ,zZP,zZO,zZN,trivial⟩
theorem mixed:Tryz.prog.follows .mixedOrders=true:=by kernel_rfl
theorem tok:TOK Tryz.prog T:=by
 intro t ti h
 unfold T at h
 cases hx:tbl[t]? with
 | none=>rw[hx]at h;cases h
 | some o =>
  rw[hx]at h
  simp only[Option.getD_some]at h
  subst h
  have:=qLE zWS hx
  simpa using this
open Sy Go
end Go.Proofs.YtgcbapchinideaaGreatDoor
