import Derived.Test.YtgcbapchinideaaGreatDoorM3
import Derived.Test.YtgcbapchinideaaGreatDoorM2
import Derived.WalkKit
import Derived.ProofKit
import Derived.OpenShut
import Derived.Deep.DeepHandedRow
import Derived.Deep.Slices
import Derived.Carry
import Derived.LaidMore
import Derived.Lay
import Derived.Stop.Joined
import Derived.Test.YtgcbapchinideaaGreatDoorRows
set_option linter.all false
namespace Go.Proofs.YtgcbapchinideaaGreatDoor.Sy
open Go Go.ChangeShapes Go.WideShapes Go.ChangeAt Go.RowKit
def qBB (W:World):qY:=fun b o=>W.cell? ⟨b,o,none⟩
section
variable {H:Type} {enc:TypeId × Value->H} {P:Program}
theorem qJH (hl:laidOutB P=true) {W W':World} {sp:Nat->Bool}:∀ {ts:List TypeId} {vs:List Value} {ds:List (DataW H)} {p:List MemPlace},
  (∀ t∈ts,P.readableRec t=true/\t<P.types.size)->DataW.TrodAll enc P W 0 (fun _=>true) true ts vs ds p->(∀ x∈p,W.sameAt W' x)->(∀ x∈p,sp x.block=true)->DataW.TrodAll enc P W' 0 sp true ts vs ds p
 | [],vs,ds,p,_,h,_,_=>by
  obtain⟨rfl,rfl,rfl⟩:=trodAll_nil h;exact trodAll_mk0
 | t::ts,vs,ds,p,ht,h,hs,hsp=>by
  obtain⟨v,vs',d,ds',p1,q,rfl,rfl,rfl,h1,h2⟩:=trodAll_cons h;have a:=WideElems.Trod_stays hl (ht t (by simp)).1 (ht t (by simp)).2 h1 (fun x hx=>hs x (by simp[hx])) (fun x hx=>hsp x (by simp[hx]));have b:=qJH hl (fun t' h'=>ht t' (by simp[h'])) h2 (fun x hx=>hs x (by simp[hx])) (fun x hx=>hsp x (by simp[hx]));exact trodAll_cons_mk a b
theorem zTI {f:Func} {s:ChangeSpec} {W W':World} {args:Array Value} {ds gs:List (DataW H)} {before:List MemPlace} {tb:TypeId} (hW:DataW.Whole enc P f.params.toList s.vars false W args.toList ds gs before)
  (hb:Below W.heap.size W W') (hl:laidOutB P=true) (hr:∀ t∈f.params.toList,P.readableRec t=true/\t<P.types.size) (hv:s.vars=[]) (hspec:s.fn H (ds++gs)={ results:=[.lit (.bool true)],args:=ds })
  (hrt:f.resultTypes = #[tb]) (htb:P.underlying tb=some .bool):s.post enc P f false true false false W args (.bool true) W':=by
 have hlt:=hW.lt;have hW':=hW;obtain⟨p,q,hA,hV,rfl,hz,hn⟩:=hW;rw[hv]at hV;obtain⟨rfl,rfl⟩:=trodVars_none hV;simp only[cR]at hW' hz hlt hspec hn;have hsame:∀ x∈p,W.sameAt W' x:=fun x hx=>hb.same (hlt x hx);have hargs:∀ sp:Nat->Bool,(∀ x∈p,sp x.block=true)->DataW.TrodAll enc P W' 0 sp true f.params.toList args.toList ds p:=fun sp hsp=>qJH hl hr hA hsame hsp;have hres:∀ (b:Nat) (sp:Nat->Bool) (hd:Bool),DataW.TrodAll enc P W' b sp hd f.resultTypes.toList ((Value.bool true).resultList f.resultTypes.size) [.lit (.bool true)] []:=fun b sp hd=>by
  rw[hrt];exact trodAll_cons_mk (shut_bool htb true) trodAll_mk0
 have hvars:∀ sp:Nat->Bool,DataW.TrodVars enc P W' sp s.vars [] []:=fun sp=>by rw[hv];exact rfl
 have hold:∀ x∈p,(fun b=>decide (b<W.heap.size)) x.block=true:=fun x hx=>by simpa using hlt x hx
 refine⟨ds,[],p,[],p,[],hW', ?_, ?_, ?_,World.keptBut_mono (fun x hx=>⟨hx, ?_⟩) (hb.frame (· ∈ p)),fun _ => ?_⟩
 ·simp only[cR,hspec];exact hres _ _ _
 ·simp only[cR,hspec];exact hargs _ hold
 ·simp only[cR,hspec];exact hvars _
 ·exact Or.inr (Or.inl hx)
 refine⟨?_,_,_,([]++p)++[],⟨[]++p,[],trodAll_append (hargs _ (fun _ _=>rfl)) (hres _ _ _),hvars _,rfl, ?_, ?_⟩, ?_⟩
 ·intro j t r h1 h2;rw[hrt]at h1 h2;cases j with
  | zero=>simp[Value.resultList]at h1 h2;subst h1;subst h2;exact okWide_bool_mk htb true
  | succ j=>simp at h1
 ·intro b off hp;have hp':MemPlace.cell b off∈p:=by simpa using hp
  rw[hb.frozen (p:=⟨b,off,none⟩) (hlt _ hp')];exact hz b off hp'
 ·intro ha;cases ha
 intro x hx _;simpa using hx
end
def ShF (sh:TypeId->List PD->Prop):List (Nat × TypeId)->List PD->Prop
 | [],cs=>cs=[]
 | p::fs,cs=>∃ a b,cs=a++b/\sh p.2 a/\ShF sh fs b
def qEM (k:TK) (cs:List PD):PD:=if k.agg then .agg cs else match cs with
 | [c]=>c
 | _ => .agg cs
def ShC (T:Tab):Nat->TypeId->List PD->Prop
 | 0,_,_=>False
 | f+1,t,cs=>match T t with
  | some ti=>match ti.k with
   | .bool=>∃ b,cs=[.bool b]
   | .int k=>∃ n,cs=[.int k n]/\kS k<=n/\n<=kT k
   | .str=>∃ s:List UInt8,cs=[.str s]/\s.length<=140737488351232
   | .sl e=>match T e with
    | some te=>∃ es:List PD,cs=[.sl te.size es]/\es.length * te.bytes<=140737488351232/\∀ x∈es, ∃ cs',x=qEM te.k cs'/\ShC T f e cs'
    | none=>False
   | .st fs=>ShF (ShC T f) fs cs
   | _=>False
  | none=>False
def qOU (T:Tab):List (Nat × TypeId)->Nat->Nat->Bool
 | [],o,n=>o == n
 | p::fs,o,n=>p.1 == o && (match T p.2 with
  | some ti=>qOU T fs (o+ti.size) n
  | none=>false)
def okT (T:Tab):Nat->TypeId->Bool
 | 0,_=>false
 | f+1,t=>match T t with
  | some ti=>match ti.k with
   | .bool | .int _ | .str=>ti.size == 1
   | .sl e=>okT T f e && (ti.size == 1 && match T e with
    | some te=>decide (0<te.size)
    | none=>false)
   | .st fs=>qOU T fs 0 ti.size && fs.all fun p=>okT T f p.2
   | _=>false
  | none=>false
def RdL (M:qY) (us:List Value) (cs:List PD):Prop:=us.length=cs.length/\∀ (i:Nat) u d,us[i]?=some u->cs[i]?=some d->Rd M u d/\u.oneCell'=true
theorem RdL.nil {M:qY}:RdL M [] []:=⟨rfl,fun i u d h=>by simp at h⟩
theorem RdL.append {M:qY} {us vs:List Value} {cs ds:List PD} (h:RdL M us cs) (k:RdL M vs ds):RdL M (us++vs) (cs++ds):=by
 refine⟨by simp[h.1,k.1],fun i u d hu hd => ?_⟩;rw[cF]at hu hd;rw[<-h.1]at hd;split at hu
 ·rename_i hi;rw[bE hi]at hd;exact h.2 i u d hu hd
 rename_i hi;rw[bD hi]at hd;exact k.2 _ u d hu hd
theorem RdL.one {M:qY} {u:Value} {d:PD} (h:Rd M u d) (k:u.oneCell'=true):RdL M [u] [d]:=by
 refine⟨rfl,fun i u' d' hu hd => ?_⟩;cases i with
 | zero=>simp at hu hd;subst hu;subst hd;exact⟨h,k⟩
 | succ i=>simp at hu
section
variable {H:Type} {enc:TypeId × Value->H} {P:Program} {W:World} {T:Tab}
theorem qHZ (hT:TOK P T) {t:TypeId} {ti:TI} (h:T t=some ti):P.cellsOf t=ti.size:=by
 obtain⟨i,d,hi,_,_,hs,_⟩:=hT.get h;simp[Program.cellsOf,hi,hs]
theorem qVZ {n:Nat} {sh:TypeId->List PD->Prop} (hT:TOK P T) {us:List Value}:∀ (fl:List (Nat × TypeId)) (o m:Nat),qOU T fl o m=true->us.length=m->o<=m ->
  (∀ p∈fl, ∃ y,DataW.trod enc P W 0 (fun _=>true) true n p.2 ((us.drop p.1).take (P.cellsOf p.2))=some y/\∀ x∈DataW.weights P p.2 y.1,x<=140737488351232) ->
  (∀ p∈fl, ∀ vs y,DataW.trod enc P W 0 (fun _=>true) true n p.2 vs=some y->(∀ x∈DataW.weights P p.2 y.1,x<=140737488351232)->∃ cs,sh p.2 cs/\RdL (qBB W) vs cs)->∃ cs,ShF sh fl cs/\RdL (qBB W) (us.drop o) cs
 | [],o,m,ht,hl,ho,_,_=>by
  simp only[qOU,dD]at ht;refine⟨[],rfl, ?_⟩;rw[dQ (by omega)];exact .nil
 | p::fl,o,m,ht,hl,ho,hr,hs=>by
  simp only[qOU,bI,dD]at ht;obtain⟨rfl,ht⟩:=ht;split at ht
  ·rename_i ti hti;have hc:=qHZ hT hti;obtain⟨y,hy,hyw⟩:=hr p (by simp);obtain⟨a,ha,hra⟩:=hs p (by simp) _ y hy hyw;have hle:∀ (fl:List (Nat × TypeId)) (o m:Nat),qOU T fl o m=true->o<=m:=by
    intro fl;induction fl with
    | nil=>intro o m h;simp only[qOU,dD]at h;omega
    | cons q fl ih =>
     intro o m h;simp only[qOU,bI]at h;split at h
     ·have:=ih _ _ h.2;omega
     simp at h
   have hle':=hle fl _ _ ht;obtain⟨b,hb,hrb⟩:=qVZ hT fl (p.1+ti.size) m ht hl hle' (fun q hq=>hr q (by simp[hq])) (fun q hq=>hs q (by simp[hq]));refine⟨a++b,⟨a,b,rfl,ha,hb⟩, ?_⟩;have e:us.drop p.1=(us.drop p.1).take (P.cellsOf p.2)++us.drop (p.1+ti.size):=by
    rw[hc,<-dG,cE]
   rw[e];exact hra.append hrb
  cases ht
theorem zDJ {k:TK} {cs:List PD} (h:k.agg=false->∃ c,cs=[c]/\c.cells=[c]):(qEM k cs).cells=cs:=by
 unfold qEM;split
 ·rfl
 rename_i hk;obtain⟨c,rfl,hc⟩:=h (by simpa using hk);exact hc
theorem qHC {P:Program} {e:TypeId} {x:Nat} {d:DataW H}:∀ {l:List (DataW H)},d∈l->x∈DataW.weights P e d->x∈DataW.weightsAll P e l
 | a::l,hd,hx=>by
  simp only[DataW.weightsAll,bL];rcases bM.1 hd with rfl|hd
  ·exact .inl hx
  exact .inr (qHC hd hx)
theorem qGR {P:Program} {x:Nat}:∀ {ts:List TypeId} {l:List (DataW H)} {i:Nat} {t:TypeId} {d:DataW H},ts[i]?=some t->l[i]?=some d->x∈DataW.weights P t d->x∈DataW.weightsEach P ts l
 | t::ts,a::l,i,t',d,ht,hd,hx=>by
  simp only[DataW.weightsEach,bL];cases i with
  | zero=>simp at ht hd;subst ht;subst hd;exact .inl hx
  | succ i=>simp at ht hd;exact .inr (qGR ht hd hx)
 | [],_,i,_,_,ht,_,_=>by simp at ht
 | _::_,[],i,_,_,_,hd,_=>by simp at hd
theorem zFV (hT:TOK P T) {t:TypeId} {ti:TI} (h:T t=some ti):P.bytesOf t=ti.bytes:=by
 obtain⟨i,d,hi,_,_,_,hb,_⟩:=hT.get h;simp[Program.bytesOf,hi,hb]
theorem zSP (hT:TOK P T):∀ (f:Nat) (t:TypeId),okT T f t=true->∀ (n:Nat) (us:List Value) (y:DataW H × List MemPlace),DataW.trod enc P W 0 (fun _=>true) true n t us=some y->(∀ x∈DataW.weights P t y.1,x<=140737488351232) ->
  ∃ cs,(ShC T f t cs/\RdL (qBB W) us cs)/\∀ ti,T t=some ti->us.length=ti.size/\(ti.k.agg=false->∃ c,cs=[c]/\c.cells=[c]):=by
 intro f;induction f with
 | zero=>intro t h;cases h
 | succ f ih =>
  intro t hok n us y hy hw;simp only[okT]at hok;split at hok
  case h_2=>cases hok
  rename_i ti hti;have hsz:=qHZ hT hti;obtain⟨inf,d,hi,hd,hdk,his,_⟩:=hT.get hti;simp only[ShC,hti];split at hok
  ·rename_i hk;rw[hk]at hdk;obtain⟨b,rfl,_⟩:=DataW.trod_bool (by rw[hd,nC hdk]) hy;refine⟨[.bool b],⟨?_,.one (.bool b) rfl⟩, ?_⟩
   ·simp
   intro ti' e;cases e;exact⟨by simpa using(dD.1 hok).symm,fun _=>⟨_,rfl,rfl⟩⟩
  ·rename_i k hk;rw[hk]at hdk;obtain⟨m,rfl,_,hw⟩:=DataW.trod_int (by rw[hd,nR hdk]) hy;simp[Lit.wf]at hw;refine⟨[.int k m],⟨?_,.one (.int hw.1 hw.2) rfl⟩, ?_⟩
   ·exact⟨m,rfl,by rw[<-xC];exact hw.1,by rw[<-jI];exact hw.2⟩
   intro ti' e;cases e;exact⟨by simpa using(dD.1 hok).symm,fun _=>⟨_,rfl,rfl⟩⟩
  ·rename_i hk;rw[hk]at hdk;obtain⟨s,rfl,rfl,hm⟩:=DataW.trod_string (by rw[hd,nQ hdk]) hy;have hwl:=hw s.data.toList.length (by simp[DataW.weights]);refine⟨[.str s.data.toList],⟨?_,.one (.str rfl (by rw[dY];exact hm)) rfl⟩, ?_⟩
   ·exact⟨_,rfl,hwl⟩
   intro ti' e;cases e;exact⟨by simpa using(dD.1 hok).symm,fun _=>⟨_,rfl,rfl⟩⟩
  ·rename_i e hk;rw[hk]at hdk;simp only[bI,dD]at hok;obtain⟨hok1,hok2,hok3⟩:=hok;obtain⟨te,hte,hpos⟩:∃ te,T e=some te/\0<te.size:=by
    split at hok3
    ·rename_i te hte;exact⟨te,hte,by simpa using hok3⟩
    cases hok3
   have hce:=qHZ hT hte;have hlast:∀ (c:PD),c.cells=[c]->[Value.nilIface].length=ti.size/\(ti.k.agg=false->∃ c',[c]=[c']/\c'.cells=[c']):=fun c hc =>
    ⟨by rw[hok2];rfl,fun _=>⟨c,rfl,hc⟩⟩
   rcases Go.Deep.open_slice (by rw[hd,nK hdk]) hy with⟨rfl,_⟩|⟨ad,len,cap,m,n',D,Pl,rfl,_,hl,hm,hmm,hyx,hel⟩
   ·refine⟨[.sl te.size []],⟨?_,.one (.sl 0 0 rfl (bP _) (by simp[maxLen]) (fun h=>(h rfl).elim) (fun i e h=>by simp at h) (fun i e j h=>by simp at h) (fun i e j d u h=>by simp at h)) rfl⟩, ?_⟩
    ·simp[hte]
    intro ti' e';cases e';exact hlast _ rfl
   have hlm:len<=m:=by rw[hmm];simpa using hl
   have hwe:∀ x,x=(len+(m-len)) * P.bytesOf e\/x∈DataW.weightsAll P e ((List.range len).map D)->x<=140737488351232:=fun x hx=>by
    refine hw x ?_;rw[hyx];simp only[DataW.weights,show P.underlying t=some (.slice e) by rw[hd,nK hdk],cV,List.length_range,bM,bL];rcases hx with hx|hx
    ·exact .inl hx
    exact .inr (.inl hx)
   have hwl:=hwe _ (.inl rfl);rw[zFV hT hte]at hwl;have hlen2:len * te.bytes<=140737488351232:=dB (cM _ (Nat.le_add_right _ _)) hwl;have each:∀ i,i<len->∃ cs:List PD,ShC T f e cs/\cs.length=te.size/\(qEM te.k cs).cells=cs/\∀ j d,cs[j]?=some d->∃ u,W.cell? ((ad.add (i * te.size)).add j)=some u/\Rd (qBB W) u d/\u.oneCell'=true:=by
    intro i hi;obtain⟨vs,hc,htr⟩:=hel i (by omega);rw[hce]at hc;obtain⟨_,hlen,hcell⟩:=World.cells?_some hc;obtain⟨cs,⟨hsh,hrd⟩,hti'⟩:=ih e hok1 n' vs _ htr fun x hx=>hwe x (.inr (qHC (cO.2 ⟨i,by simpa using hi,rfl⟩) hx));obtain⟨h1,h2⟩:=hti' te hte;refine⟨cs,hsh,by rw[<-hrd.1];exact h1,zDJ h2,fun j d hj => ?_⟩;have hjl:j<vs.length:=by rw[hrd.1];exact(bB.1 hj).1
    have hv:vs[j]?=some vs[j]:=by simp[hjl]
    have h3:=hrd.2 j vs[j] d hv hj;exact⟨vs[j],by rw[hcell j (by omega)];exact hv,h3⟩
   obtain⟨F,hF⟩:=Go.Deep.choose_lt each;have hspot:len≠0->ad=⟨ad.block,ad.off,none⟩:=by
    intro hne;obtain⟨_,hlen,_,hc⟩:=hF 0 (by omega);obtain⟨u0,hu0,_⟩:=hc 0 ((F 0)[0]'(by omega)) (by simp[show 0<(F 0).length by omega]);simp[Addr.add]at hu0;unfold World.cell? at hu0;cases hsp:ad.spot with
    | none=>cases ad;simp at hsp;subst hsp;rfl
    | some q=>split at hu0 <;> simp[hsp]at hu0
   let es:=(List.range len).map fun i=>qEM te.k (F i)
   have hget:∀ (i:Nat) x,es[i]?=some x->i<len/\x=qEM te.k (F i):=by
    intro i x he;simp only[es]at he;rw[bG]at he;obtain⟨j,hj,rfl⟩:=bF.1 he;have hi:i<len:=by simpa using(bB.1 hj).1
    simp[hi]at hj;subst hj;exact⟨hi,rfl⟩
   have hadd:∀ b o i:Nat,(⟨b,o,none⟩:Addr).add i=⟨b,o+i,none⟩:=fun b o i=>jX b o i;refine⟨[.sl te.size es],⟨?_,.one ?_ rfl⟩, ?_⟩
   ·simp only[hte];refine⟨es,rfl,by simp only[es,cV,List.length_range];exact hlen2,fun x hx => ?_⟩;obtain⟨i,hi,rfl⟩:=cP.1 hx;obtain⟨h1,h2⟩:=hget i es[i] (cI hi);exact⟨F i,h2,(hF i h1).1⟩
   ·refine .sl ad.block ad.off (by simp[es]) hl hm (fun h=>by rw[<-hspot h]) (fun i x hx => ?_) (fun i x j hx hj => ?_) (fun i x j d u hx hd hu => ?_)
    ·obtain⟨h1,rfl⟩:=hget i x hx;rw[(hF i h1).2.2.1];exact(hF i h1).2.1
    ·obtain⟨h1,rfl⟩:=hget i x hx;obtain⟨_,hlen,_,hc⟩:=hF i h1;obtain⟨u,hu,_,h3⟩:=hc j ((F i)[j]'(by omega)) (by simp[show j<(F i).length by omega]);rw[hspot (by omega),hadd,hadd]at hu;exact⟨u,hu,h3⟩
    obtain⟨h1,rfl⟩:=hget i x hx;obtain⟨_,hlen,hp,hc⟩:=hF i h1;rw[hp]at hd;obtain⟨u',hu',h2,_⟩:=hc j d hd;rw[hspot (by omega),hadd,hadd]at hu';change W.cell? ⟨ad.block,ad.off+i * te.size+j,none⟩=some u at hu
    rw[hu']at hu;cases hu;exact h2
   intro ti' e';cases e';exact hlast _ rfl
  ·rename_i fs hk;rw[hk]at hdk;obtain⟨l,rfl,hl⟩:=mM hdk;simp only[bI,bR]at hok;obtain⟨xs,n',_,hyx,hlen,hxl,hfs⟩:=DataW.trod_struct hd hy;rw[hsz]at hlen;have hf:∀ p∈fs, ∃ z,DataW.trod enc P W 0 (fun _=>true) true n' p.2 ((us.drop p.1).take (P.cellsOf p.2))=some z/\∀ x∈DataW.weights P p.2 z.1,x<=140737488351232:=by
    intro p hp;rw[<-hl]at hp;obtain⟨fd,hfd,rfl⟩:=cO.1 hp;obtain⟨i,hi,hfi⟩:=cP.1 hfd;have h1:=hfs i fd (by simp at hi hfi;simp[hi,hfi]);have hil:i<xs.length:=by rw[hxl];simpa using hi
    refine⟨xs[i],by rw[h1];simp[hil],fun x hx=>hw x ?_⟩;rw[hyx];simp only[DataW.weights,hd];have hi':i<l.size:=by simpa using hi
    exact qGR (i:=i) (t:=fd.type) (d:=(xs[i]).1) (by simp at hfi;simp[hi',hfi]) (by simp[hil]) hx
   obtain⟨cs,h1,h2⟩:=qVZ (sh:=ShC T f) hT fs 0 ti.size hok.1 hlen (by omega) hf (fun p hp vs z hz hzw=>by
    obtain⟨cs,h,_⟩:=ih p.2 (hok.2 p hp) n' vs z hz hzw;exact⟨cs,h⟩)
   rw[gV]at h2;refine⟨cs,⟨h1,h2⟩,fun ti' e' => ?_⟩;cases e';exact⟨hlen,fun h=>by rw[hk]at h;cases h⟩
  cases hok
end
def ShL (T:Tab) (f:Nat):List TypeId->List PD->Prop
 | [],ds=>ds=[]
 | t::ts,ds=>∃ d ds',ds=d::ds'/\(∃ cs k,wC T t=some k/\d=qEM k cs/\ShC T f t cs)/\ShL T f ts ds'
section
variable {H:Type} {enc:TypeId × Value->H} {P:Program} {W:World} {T:Tab}
theorem zJG (hT:TOK P T) {base:Nat} {t:TypeId} {ti:TI} {v:Value} (ht:T t=some ti) (hk:ti.k = .bool\/(∃ k,ti.k = .int k)\/ti.k = .str\/∃ e,ti.k = .sl e) (h:Value.okWide P W .any base t v):v.cells = #[v]:=by
 obtain⟨i,d,_,hd,hdk,_⟩:=hT.get ht;rcases hk with hk|⟨k,hk⟩|hk|⟨e,hk⟩ <;> rw[hk]at hdk
 ·obtain⟨b,rfl⟩:=okWide_bool (by rw[hd,nC hdk]) h;rfl
 ·obtain⟨b,rfl⟩:=okWide_int (by rw[hd,nR hdk]) h;rfl
 ·obtain⟨b,rfl⟩:=okWide_string (by rw[hd,nQ hdk]) h;rfl
 obtain⟨a,l,c,rfl⟩:=okWide_slice (by rw[hd,nK hdk]) h;rfl
theorem qLA (hT:TOK P T) {base f:Nat}:∀ (ts:List TypeId) (vs:List Value) (ds:List (DataW H)) (p:List MemPlace),(∀ t∈ts,okT T f t=true)->DataW.TrodAll enc P W 0 (fun _=>true) true ts vs ds p->(∀ x∈DataW.weightsEach P ts ds,x<=140737488351232) ->
  (∀ (j:Nat) t v,ts[j]?=some t->vs[j]?=some v->Value.okWide P W .any base t v)->∃ pds,ShL T f ts pds/\vs.length=pds.length/\∀ (i:Nat) u d,vs[i]?=some u->pds[i]?=some d->Rd (qBB W) u d
 | [],vs,ds,p,_,h,_,_=>by
  obtain⟨rfl,rfl,rfl⟩:=trodAll_nil h;exact⟨[],rfl,rfl,fun i u d h=>by simp at h⟩
 | t::ts,vs,ds,p,hok,h,hw,hv=>by
  obtain⟨v,vs',d,ds',p1,q,rfl,rfl,rfl,⟨n,h1⟩,h2⟩:=trodAll_cons h;obtain⟨pds,a1,a2,a3⟩:=qLA hT ts vs' ds' q (fun t h=>hok t (by simp[h])) h2 (fun x hx=>hw x (by simp[DataW.weightsEach,hx])) (fun j t v h h'=>hv (j+1) t v (by simpa using h) (by simpa using h'));have hokt:=hok t (by simp);obtain⟨cs,⟨hsh,hrd⟩,hti⟩:=zSP hT f t hokt n _ _ h1 (fun x hx=>hw x (by simp[DataW.weightsEach,hx]));have hov:=hv 0 t v rfl rfl;obtain⟨ti,ht⟩:∃ ti,T t=some ti:=by
   cases f with
   | zero=>cases hokt
   | succ f =>
    cases hx:T t with
    | none=>simp[okT,hx]at hokt
    | some ti=>exact⟨ti,rfl⟩
  obtain⟨hl,hag⟩:=hti ti ht;have hfirst:Rd (qBB W) v (qEM ti.k cs):=by
   unfold qEM;split
   ·rename_i hk;obtain⟨i,dd,_,hd,hdk,_⟩:=hT.get ht;have:∃ fs,dd = .struct fs:=by
     cases f with
     | zero=>cases hokt
     | succ f =>
      simp only[okT,ht]at hokt;split at hokt
      ·rename_i e;rw[e]at hk;cases hk
      ·rename_i e;rw[e]at hk;cases hk
      ·rename_i e;rw[e]at hk;cases hk
      ·rename_i e;rw[e]at hk;cases hk
      ·rename_i fs e;rw[e]at hdk;obtain⟨l,rfl,_⟩:=mM hdk;exact⟨l,rfl⟩
      cases hokt
    obtain⟨fs,rfl⟩:=this;obtain⟨arr,rfl,_⟩:=okWide_struct hd hov;refine .agg (by simpa[Value.cells]using hrd.1) (fun i u hu => ?_) (fun i u d hu hd => ?_)
    ·have hi:i<cs.length:=by rw[<-hrd.1];simpa[Value.cells]using(cC.1 hu).1
     exact(hrd.2 i u cs[i] (by simpa[Value.cells]using hu) (by simp[hi])).2
    exact(hrd.2 i u d (by simpa[Value.cells]using hu) hd).1
   rename_i hk;obtain⟨c,rfl,hc⟩:=hag (by simpa using hk);have hat:v.cells = #[v]:=by
    refine zJG hT ht ?_ hov;cases f with
    | zero=>cases hokt
    | succ f =>
     simp only[okT,ht]at hokt;split at hokt
     ·exact .inl (by assumption)
     ·exact .inr (.inl ⟨_,by assumption⟩)
     ·exact .inr (.inr (.inl (by assumption)))
     ·exact .inr (.inr (.inr ⟨_,by assumption⟩))
     ·rename_i e;rw[e]at hk;exact(hk rfl).elim
     cases hokt
   rw[hat]at hrd;exact(hrd.2 0 v c (by simp) (by simp)).1
  refine⟨qEM ti.k cs::pds,⟨_,_,rfl,⟨cs,ti.k,by simp[wC,ht],rfl,hsh⟩,a1⟩,by simp[a2],fun i u d hu hd => ?_⟩;cases i with
  | zero=>simp at hu hd;subst hu;subst hd;exact hfirst
  | succ i=>exact a3 i u d (by simpa using hu) (by simpa using hd)
theorem zTJ (hT:TOK P T) {G:qT} {f:FuncId} {fn:Func} {s:ChangeSpec} {args:Array Value} {ds gs:List (DataW H)} {before:List MemPlace} {tb:TypeId} {base n:Nat}
  (hval:∀ (j:Nat) t v,fn.params[j]?=some t->args[j]?=some v->Value.okWide P W .any base t v)
  (hW:DataW.Whole enc P fn.params.toList s.vars false W args.toList ds gs before) (hok:(fn.params.toList.all fun t=>okT T n t)=true) (hl:laidOutB P=true) (hr:(fn.params.toList.all fun t=>P.readableRec t && decide (t<P.types.size))=true)
  (hv:s.vars=[]) (hspec:∀ ds:List (DataW H),ds.length=fn.params.size->s.fn H ds={ results:=[.lit (.bool true)],args:=ds }) (hrt:fn.resultTypes = #[tb]) (htb:P.underlying tb=some .bool)
  (hG:GOK G (qBB W) W) {vt:List TypeId} (hS:(DataW.weightsEach P (fn.params.toList++vt) (ds++gs)).all (fun x=>decide (x<=reachBytes))=true) (hA:∀ pds,ShL T n fn.params.toList pds->AFn P G f pds (.bool true)) :
  Calls P f args W fun e W'=>∃ v,e = .returned v/\s.post enc P fn false true false false W args v W':=by
 have hW':=hW;obtain⟨p,q,hA0,hV,rfl,hz,hn⟩:=hW;have hlen:ds.length=fn.params.size:=by
  have key:∀ (ts:List TypeId) (vs:List Value) (ds:List (DataW H)) (p:List MemPlace),DataW.TrodAll enc P W 0 (fun _=>true) true ts vs ds p->ds.length=ts.length:=by
   intro ts;induction ts with
   | nil=>intro vs ds p h;obtain⟨_,rfl,_⟩:=trodAll_nil h;rfl
   | cons t ts ih=>intro vs ds p h;obtain⟨v,vs',d,ds',p1,q,rfl,rfl,rfl,h1,h2⟩:=trodAll_cons h;simp[ih _ _ _ h2]
  have:=key _ _ _ _ hA0;simpa using this
 have hgs:gs=[]:=by rw[hv]at hV;exact(trodVars_none hV).1
 have hws:∀ x∈DataW.weightsEach P fn.params.toList ds,x<=140737488351232:=fun x hx=>by
  have key:∀ (ts ts':List TypeId) (ds gs:List (DataW H)),x∈DataW.weightsEach P ts ds->x∈DataW.weightsEach P (ts++ts') (ds++gs):=by
   intro ts;induction ts with
   | nil=>intro ts' ds gs h;simp[DataW.weightsEach]at h
   | cons t ts ih =>
    intro ts' ds gs h;cases ds with
    | nil=>simp[DataW.weightsEach]at h
    | cons d ds =>
     simp only[DataW.weightsEach,cT,bL]at h ⊢;exact h.imp id (ih ts' ds gs)
  have:=bR.1 hS x (key _ _ _ _ hx);exact eT (p:=x<=reachBytes) this
 obtain⟨pds,h1,h2,h3⟩:=qLA hT (base:=base) (f:=n) _ _ _ _ (fun t ht=>bR.1 hok t ht) hA0 hws (fun j t v hj hv'=>hval j t v (by simpa using hj) (by simpa using hv'));refine((hA pds h1).2 (qBB W) W args hG (fun _ _ _ h=>h) (by simpa using h2) (fun i u d hu hd=>h3 i u d (by simpa using hu) hd)).mono ?_;rintro e W' ⟨v,M',rfl,hrd,_,_,_,hb⟩;cases hrd;refine⟨_,rfl,zTI hW' hb hl (fun t ht => ?_) hv ?_ hrt htb⟩
 ·have:=bR.1 hr t ht;simpa using this
 rw[hgs,cR];exact hspec ds hlen
end
theorem zLF {α β:Type} {f:α->β}:∀ {es:List β},(∀ x∈es, ∃ a,x=f a)->∃ l:List α,es=l.map f
 | [],_=>⟨[],rfl⟩
 | x::es,h=>by
  obtain⟨a,rfl⟩:=h x (by simp);obtain⟨l,rfl⟩:=zLF (es:=es) fun y hy=>h y (by simp[hy]);exact⟨a::l,rfl⟩
theorem qWW {α β:Type} {f:α->β} {p:α->Prop}:∀ {es:List β},(∀ x∈es, ∃ a,x=f a/\p a)->∃ l:List α,es=l.map f/\∀ a∈l,p a
 | [],_=>⟨[],rfl,by simp⟩
 | x::es,h=>by
  obtain⟨a,rfl,hp⟩:=h x (by simp);obtain⟨l,rfl,hl⟩:=qWW (es:=es) fun y hy=>h y (by simp[hy]);exact⟨a::l,rfl,by simpa using⟨hp,hl⟩⟩
end Go.Proofs.YtgcbapchinideaaGreatDoor.Sy
namespace Go.Proofs.YtgcbapchinideaaGreatDoor
open Sy
set_option maxRecDepth 100000
def tbl:List (Option TI):=[
 none,
 none,
 some ⟨.int .i64,1,8,.p (.int .i64 0),true⟩,
 some ⟨.int .i64,1,8,.p (.int .i64 0),true⟩,
 some ⟨.bool,1,1,.p (.bool false),true⟩,
 some ⟨.int .u8,1,1,.p (.int .u8 0),true⟩,
 none,
 none,
 none,
 some ⟨.str,1,16,.p (.str []),true⟩,
 none,
 none,
 some ⟨.int .u64,1,8,.p (.int .u64 0),true⟩,
 none,
 none,
 none,
 none,
 none,
 none,
 none,
 none,
 some ⟨.int .i32,1,4,.p (.int .i32 0),true⟩,
 some ⟨.sl 57,1,24,.nilsl,true⟩,
 none,
 some ⟨.int .u64,1,8,.p (.int .u64 0),true⟩,
 some ⟨.st [(0,4),(1,9),(2,3)],3,32,.agg [.p (.bool false),.p (.str []),.p (.int .i64 0)],true⟩,
 some ⟨.st [(0,4),(1,9),(2,3)],3,32,.agg [.p (.bool false),.p (.str []),.p (.int .i64 0)],true⟩,
 some ⟨.sl 9,1,24,.nilsl,true⟩,
 some ⟨.sl 31,1,24,.nilsl,true⟩,
 some ⟨.int .i64,1,8,.p (.int .i64 0),true⟩,
 some ⟨.st [(0,3),(1,24),(2,26),(5,9),(6,27),(7,28),(8,29)],9,120,.agg [.p (.int .i64 0),.p (.int .u64 0),.p (.bool false),.p (.str []),.p (.int .i64 0),.p (.str []),.nilsl,.nilsl,.p (.int .i64 0)],true⟩,
 some ⟨.st [(0,3),(1,24),(2,26),(5,9),(6,27),(7,28),(8,29)],9,120,.agg [.p (.int .i64 0),.p (.int .u64 0),.p (.bool false),.p (.str []),.p (.int .i64 0),.p (.str []),.nilsl,.nilsl,.p (.int .i64 0)],true⟩,
 none,
 none,
 none,
 none,
 none,
 some ⟨.fn,1,8,.p .nilf,true⟩,
 some ⟨.fn,1,8,.p .nilf,true⟩,
 none,
 none,
 some ⟨.st [(0,22),(1,22),(2,9)],3,64,.agg [.nilsl,.nilsl,.p (.str [])],true⟩,
 some ⟨.st [(0,22),(1,22),(2,9)],3,64,.agg [.nilsl,.nilsl,.p (.str [])],true⟩,
 none,
 none,
 some ⟨.fn,1,8,.p .nilf,true⟩,
 none,
 some ⟨.fn,1,8,.p .nilf,true⟩,
 some ⟨.fn,1,8,.p .nilf,true⟩,
 none,
 none,
 none,
 none,
 none,
 none,
 none,
 some ⟨.st [(0,3),(1,3),(2,24),(3,9),(4,9),(5,27)],6,80,.agg [.p (.int .i64 0),.p (.int .i64 0),.p (.int .u64 0),.p (.str []),.p (.str []),.nilsl],true⟩,
 some ⟨.st [(0,3),(1,3),(2,24),(3,9),(4,9),(5,27)],6,80,.agg [.p (.int .i64 0),.p (.int .i64 0),.p (.int .u64 0),.p (.str []),.p (.str []),.nilsl],true⟩,
 none,
 none,
 some ⟨.st [(0,24)],1,8,.agg [.p (.int .u64 0)],true⟩,
 some ⟨.st [(0,24)],1,8,.agg [.p (.int .u64 0)],true⟩,
 none,
 none,
 none,
 none,
 none,
 none,
 none,
 none,
 none,
 none,
 some ⟨.fn,1,8,.p .nilf,true⟩,
 none,
 none,
 none,
 none,
 none,
 none,
 none,
 none,
 some ⟨.sl 5,1,24,.nilsl,true⟩,
 none,
 none,
 none,
 none,
 none,
 none,
 none,
 none,
 none,
 none,
 some ⟨.fn,1,8,.p .nilf,true⟩,
 some ⟨.fn,1,8,.p .nilf,true⟩,
 none,
 none,
 some ⟨.ar 9 9,9,144,.agg (zF (vE 9 (.str []))),true⟩,
 none,
 none,
 none,
 none,
 none,
 none,
 none,
 none,
 none,
 none,
 none,
 none,
 none,
 none,
 none,
 none,
 some ⟨.ptr 31,1,8,.p .nilp,true⟩,
 some ⟨.fn,1,8,.p .nilf,true⟩,
 none,
 none,
 none,
 none,
 none,
 none,
 none,
 none,
 none,
 none,
 none,
 none,
 none,
 none,
 none,
 none,
 none,
 none,
 none,
 none,
 none,
 none,
 none,
 none,
 none,
 none,
 none,
 none,
 none,
 none,
 none,
 none,
 none,
 some ⟨.int .u64,1,8,.p (.int .u64 0),true⟩,
 some ⟨.ptr 207,1,8,.p .nilp,true⟩,
 some ⟨.st [(0,3),(1,3)],2,16,.agg [.p (.int .i64 0),.p (.int .i64 0)],true⟩,
 some ⟨.st [(0,3),(1,3)],2,16,.agg [.p (.int .i64 0),.p (.int .i64 0)],true⟩,
 none,
 none,
 some ⟨.sl 21,1,24,.nilsl,true⟩,
 none,
 some ⟨.fn,1,8,.p .nilf,true⟩,
 none,
 some ⟨.fn,1,8,.p .nilf,true⟩,
 none,
 none,
 some ⟨.ptr 163,1,8,.p .nilp,true⟩,
 some ⟨.st [(0,161),(1,81)],2,32,.agg [.p .nilp,.nilsl],true⟩,
 some ⟨.st [(0,161),(1,81)],2,32,.agg [.p .nilp,.nilsl],true⟩,
 none,
 none,
 none,
 none,
 none,
 none,
 none,
 none,
 none,
 none,
 none,
 none,
 none,
 none,
 some ⟨.sl 24,1,24,.nilsl,true⟩,
 some ⟨.sl 24,1,24,.nilsl,true⟩,
 none,
 none,
 none,
 none,
 some ⟨.sl 3,1,24,.nilsl,true⟩,
 none,
 none,
 none,
 some ⟨.ar 256 4,256,256,.agg (zF (vE 256 (.bool false))),true⟩,
 some ⟨.ar 256 4,256,256,.agg (zF (vE 256 (.bool false))),true⟩,
 none,
 none,
 none,
 some ⟨.ptr 189,1,8,.p .nilp,true⟩,
 none,
 some ⟨.int .i64,1,8,.p (.int .i64 0),true⟩,
 none,
 none,
 none,
 none,
 none,
 none,
 some ⟨.int .u32,1,4,.p (.int .u32 0),true⟩,
 none,
 some ⟨.ptr 209,1,8,.p .nilp,true⟩,
 some ⟨.sl 215,1,24,.nilsl,true⟩,
 some ⟨.st [(0,205)],1,24,.agg [.nilsl],true⟩,
 some ⟨.st [(0,205)],1,24,.agg [.nilsl],true⟩,
 some ⟨.st [(0,149),(1,154),(2,3),(3,4)],4,48,.agg [.p .nilp,.nilsl,.p (.int .i64 0),.p (.bool false)],true⟩,
 some ⟨.st [(0,149),(1,154),(2,3),(3,4)],4,48,.agg [.p .nilp,.nilsl,.p (.int .i64 0),.p (.bool false)],true⟩,
 none,
 some ⟨.sl 4,1,24,.nilsl,true⟩,
 none,
 some ⟨.fn,1,8,.p .nilf,true⟩,
 some ⟨.st [(0,158),(1,213),(2,184)],3,40,.agg [.p .nilf,.p .nilf,.nilsl],true⟩,
 some ⟨.st [(0,158),(1,213),(2,184)],3,40,.agg [.p .nilf,.p .nilf,.nilsl],true⟩,
 none,
 none,
 none,
 none,
 none,
 some ⟨.ptr 5,1,8,.p .nilp,true⟩,
 none,
 none,
 none,
 none,
 none,
 some ⟨.fn,1,8,.p .nilf,true⟩,
 none,
 none,
 none,
 none,
 some ⟨.int .u64,1,8,.p (.int .u64 0),true⟩,
 none,
 none,
 none,
 some ⟨.ptr 3,1,8,.p .nilp,true⟩,
 none,
 none,
 none,
 none,
 none,
 none,
 none,
 none,
 some ⟨.ar 24 5,24,24,.agg (zF (vE 24 (.int .u8 0))),true⟩,
 none,
 none,
 none,
 none,
 some ⟨.ptr 232,1,8,.p .nilp,true⟩,
 none,
 none,
 none,
 some ⟨.ar 256 5,256,256,.agg (zF (vE 256 (.int .u8 0))),true⟩,
 some ⟨.st [(0,5),(1,5)],2,2,.agg [.p (.int .u8 0),.p (.int .u8 0)],true⟩,
 some ⟨.st [(0,5),(1,5)],2,2,.agg [.p (.int .u8 0),.p (.int .u8 0)],true⟩,
 some ⟨.ar 16 256,32,32,.agg (zF (vE 32 (.int .u8 0))),true⟩,
 none,
 none,
 some ⟨.ar 20 24,20,160,.agg (zF (vE 20 (.int .u64 0))),true⟩,
 some ⟨.ar 65 5,65,65,.agg (zF (vE 65 (.int .u8 0))),true⟩,
 none,
 none,
 none,
 some ⟨.sl 268,1,24,.nilsl,true⟩,
 none,
 some ⟨.st [(0,21),(1,21)],2,8,.agg [.p (.int .i32 0),.p (.int .i32 0)],true⟩,
 some ⟨.st [(0,21),(1,21)],2,8,.agg [.p (.int .i32 0),.p (.int .i32 0)],true⟩,
 none,
 some ⟨.ar 32 5,32,32,.agg (zF (vE 32 (.int .u8 0))),true⟩,
 some ⟨.ar 64 5,64,64,.agg (zF (vE 64 (.int .u8 0))),true⟩,
 none,
 some ⟨.fn,1,8,.p .nilf,true⟩,
 none,
 none,
 none,
 none,
 none,
 none,
 none,
 none,
 some ⟨.fn,1,8,.p .nilf,true⟩,
 none,
 none,
 none,
 none]
def T:Tab:=fun t=>(tbl[t]?).getD none
def zKI (P:Program):Nat->List (Option TI)->Prop
 | _,[]=>True
 | k,none::r=>zKI P (k+1) r
 | k,some ti::r=>zE P k=some ti/\zKI P (k+1) r
theorem qNF {P:Program}:∀ {l:List (Option TI)} {k:Nat},zKI P k l->∀ {i:Nat} {ti:TI},l[i]?=some (some ti)->zE P (k+i)=some ti
 | [],_,_,i,ti,h=>by simp at h
 | none::r,k,hk,i,ti,h=>by
  cases i with
  | zero=>simp at h
  | succ i=>have:=qNF (l:=r) (k:=k+1) hk (i:=i) (ti:=ti) (by simpa using h);rw[<-this,show k+(i+1)=k+1+i from by omega]
 | some t0::r,k,hk,i,ti,h=>by
  cases i with
  | zero=>simp at h;subst h;exact hk.1
  | succ i=>have:=qNF (l:=r) (k:=k+1) hk.2 (i:=i) (ti:=ti) (by simpa using h);rw[<-this,show k+(i+1)=k+1+i from by omega]
theorem ti2:zE Tryz.prog 2=some ⟨.int .i64,1,8,.p (.int .i64 0),true⟩:=by kernel_rfl
theorem ti3:zE Tryz.prog 3=some ⟨.int .i64,1,8,.p (.int .i64 0),true⟩:=by kernel_rfl
theorem ti4:zE Tryz.prog 4=some ⟨.bool,1,1,.p (.bool false),true⟩:=by kernel_rfl
theorem ti5:zE Tryz.prog 5=some ⟨.int .u8,1,1,.p (.int .u8 0),true⟩:=by kernel_rfl
theorem ti9:zE Tryz.prog 9=some ⟨.str,1,16,.p (.str []),true⟩:=by kernel_rfl
theorem ti12:zE Tryz.prog 12=some ⟨.int .u64,1,8,.p (.int .u64 0),true⟩:=by kernel_rfl
theorem ti21:zE Tryz.prog 21=some ⟨.int .i32,1,4,.p (.int .i32 0),true⟩:=by kernel_rfl
theorem ti22:zE Tryz.prog 22=some ⟨.sl 57,1,24,.nilsl,true⟩:=by kernel_rfl
theorem ti24:zE Tryz.prog 24=some ⟨.int .u64,1,8,.p (.int .u64 0),true⟩:=by kernel_rfl
theorem ti25:zE Tryz.prog 25=some ⟨.st [(0,4),(1,9),(2,3)],3,32,.agg [.p (.bool false),.p (.str []),.p (.int .i64 0)],true⟩:=by kernel_rfl
theorem ti26:zE Tryz.prog 26=some ⟨.st [(0,4),(1,9),(2,3)],3,32,.agg [.p (.bool false),.p (.str []),.p (.int .i64 0)],true⟩:=by kernel_rfl
theorem ti27:zE Tryz.prog 27=some ⟨.sl 9,1,24,.nilsl,true⟩:=by kernel_rfl
theorem ti28:zE Tryz.prog 28=some ⟨.sl 31,1,24,.nilsl,true⟩:=by kernel_rfl
theorem ti29:zE Tryz.prog 29=some ⟨.int .i64,1,8,.p (.int .i64 0),true⟩:=by kernel_rfl
theorem wIK:zE Tryz.prog 30=some ⟨.st [(0,3),(1,24),(2,26),(5,9),(6,27),(7,28),(8,29)],9,120,.agg [.p (.int .i64 0),.p (.int .u64 0),.p (.bool false),.p (.str []),.p (.int .i64 0),.p (.str []),.nilsl,.nilsl,.p (.int .i64 0)],true⟩:=by kernel_rfl
theorem wIJ:zE Tryz.prog 31=some ⟨.st [(0,3),(1,24),(2,26),(5,9),(6,27),(7,28),(8,29)],9,120,.agg [.p (.int .i64 0),.p (.int .u64 0),.p (.bool false),.p (.str []),.p (.int .i64 0),.p (.str []),.nilsl,.nilsl,.p (.int .i64 0)],true⟩:=by kernel_rfl
theorem wII:zE Tryz.prog 37=some ⟨.fn,1,8,.p .nilf,true⟩:=by kernel_rfl
theorem wIH:zE Tryz.prog 38=some ⟨.fn,1,8,.p .nilf,true⟩:=by kernel_rfl
theorem wIG:zE Tryz.prog 41=some ⟨.st [(0,22),(1,22),(2,9)],3,64,.agg [.nilsl,.nilsl,.p (.str [])],true⟩:=by kernel_rfl
theorem wIF:zE Tryz.prog 42=some ⟨.st [(0,22),(1,22),(2,9)],3,64,.agg [.nilsl,.nilsl,.p (.str [])],true⟩:=by kernel_rfl
theorem wIE:zE Tryz.prog 45=some ⟨.fn,1,8,.p .nilf,true⟩:=by kernel_rfl
theorem wID:zE Tryz.prog 47=some ⟨.fn,1,8,.p .nilf,true⟩:=by kernel_rfl
theorem wIC:zE Tryz.prog 48=some ⟨.fn,1,8,.p .nilf,true⟩:=by kernel_rfl
theorem wIB:zE Tryz.prog 56=some ⟨.st [(0,3),(1,3),(2,24),(3,9),(4,9),(5,27)],6,80,.agg [.p (.int .i64 0),.p (.int .i64 0),.p (.int .u64 0),.p (.str []),.p (.str []),.nilsl],true⟩:=by kernel_rfl
theorem wIA:zE Tryz.prog 57=some ⟨.st [(0,3),(1,3),(2,24),(3,9),(4,9),(5,27)],6,80,.agg [.p (.int .i64 0),.p (.int .i64 0),.p (.int .u64 0),.p (.str []),.p (.str []),.nilsl],true⟩:=by kernel_rfl
theorem wHZ:zE Tryz.prog 60=some ⟨.st [(0,24)],1,8,.agg [.p (.int .u64 0)],true⟩:=by kernel_rfl
theorem wHY:zE Tryz.prog 61=some ⟨.st [(0,24)],1,8,.agg [.p (.int .u64 0)],true⟩:=by kernel_rfl
theorem wHX:zE Tryz.prog 72=some ⟨.fn,1,8,.p .nilf,true⟩:=by kernel_rfl
theorem wHW:zE Tryz.prog 81=some ⟨.sl 5,1,24,.nilsl,true⟩:=by kernel_rfl
theorem wHV:zE Tryz.prog 92=some ⟨.fn,1,8,.p .nilf,true⟩:=by kernel_rfl
theorem wHU:zE Tryz.prog 93=some ⟨.fn,1,8,.p .nilf,true⟩:=by kernel_rfl
theorem wHT:zE Tryz.prog 96=some ⟨.ar 9 9,9,144,.agg (zF (vE 9 (.str []))),true⟩:=by kernel_rfl
theorem wGH:zE Tryz.prog 113=some ⟨.ptr 31,1,8,.p .nilp,true⟩:=by kernel_rfl
theorem wGG:zE Tryz.prog 114=some ⟨.fn,1,8,.p .nilf,true⟩:=by kernel_rfl
theorem wGF:zE Tryz.prog 148=some ⟨.int .u64,1,8,.p (.int .u64 0),true⟩:=by kernel_rfl
theorem wGE:zE Tryz.prog 149=some ⟨.ptr 207,1,8,.p .nilp,true⟩:=by kernel_rfl
theorem wGD:zE Tryz.prog 150=some ⟨.st [(0,3),(1,3)],2,16,.agg [.p (.int .i64 0),.p (.int .i64 0)],true⟩:=by kernel_rfl
theorem wGC:zE Tryz.prog 151=some ⟨.st [(0,3),(1,3)],2,16,.agg [.p (.int .i64 0),.p (.int .i64 0)],true⟩:=by kernel_rfl
theorem wGB:zE Tryz.prog 154=some ⟨.sl 21,1,24,.nilsl,true⟩:=by kernel_rfl
theorem wGA:zE Tryz.prog 156=some ⟨.fn,1,8,.p .nilf,true⟩:=by kernel_rfl
theorem wFZ:zE Tryz.prog 158=some ⟨.fn,1,8,.p .nilf,true⟩:=by kernel_rfl
theorem wFY:zE Tryz.prog 161=some ⟨.ptr 163,1,8,.p .nilp,true⟩:=by kernel_rfl
theorem wFX:zE Tryz.prog 162=some ⟨.st [(0,161),(1,81)],2,32,.agg [.p .nilp,.nilsl],true⟩:=by kernel_rfl
theorem wFW:zE Tryz.prog 163=some ⟨.st [(0,161),(1,81)],2,32,.agg [.p .nilp,.nilsl],true⟩:=by kernel_rfl
theorem wFV:zE Tryz.prog 178=some ⟨.sl 24,1,24,.nilsl,true⟩:=by kernel_rfl
theorem wFU:zE Tryz.prog 179=some ⟨.sl 24,1,24,.nilsl,true⟩:=by kernel_rfl
theorem wFT:zE Tryz.prog 184=some ⟨.sl 3,1,24,.nilsl,true⟩:=by kernel_rfl
theorem wFS:zE Tryz.prog 188=some ⟨.ar 256 4,256,256,.agg (zF (vE 256 (.bool false))),true⟩:=by kernel_rfl
theorem wFR:zE Tryz.prog 189=some ⟨.ar 256 4,256,256,.agg (zF (vE 256 (.bool false))),true⟩:=by kernel_rfl
theorem wFQ:zE Tryz.prog 193=some ⟨.ptr 189,1,8,.p .nilp,true⟩:=by kernel_rfl
theorem wFP:zE Tryz.prog 195=some ⟨.int .i64,1,8,.p (.int .i64 0),true⟩:=by kernel_rfl
theorem wFO:zE Tryz.prog 202=some ⟨.int .u32,1,4,.p (.int .u32 0),true⟩:=by kernel_rfl
theorem wFN:zE Tryz.prog 204=some ⟨.ptr 209,1,8,.p .nilp,true⟩:=by kernel_rfl
theorem wFM:zE Tryz.prog 205=some ⟨.sl 215,1,24,.nilsl,true⟩:=by kernel_rfl
theorem wFL:zE Tryz.prog 206=some ⟨.st [(0,205)],1,24,.agg [.nilsl],true⟩:=by kernel_rfl
theorem wFK:zE Tryz.prog 207=some ⟨.st [(0,205)],1,24,.agg [.nilsl],true⟩:=by kernel_rfl
theorem wFJ:zE Tryz.prog 208=some ⟨.st [(0,149),(1,154),(2,3),(3,4)],4,48,.agg [.p .nilp,.nilsl,.p (.int .i64 0),.p (.bool false)],true⟩:=by kernel_rfl
theorem wFI:zE Tryz.prog 209=some ⟨.st [(0,149),(1,154),(2,3),(3,4)],4,48,.agg [.p .nilp,.nilsl,.p (.int .i64 0),.p (.bool false)],true⟩:=by kernel_rfl
theorem wFH:zE Tryz.prog 211=some ⟨.sl 4,1,24,.nilsl,true⟩:=by kernel_rfl
theorem wFG:zE Tryz.prog 213=some ⟨.fn,1,8,.p .nilf,true⟩:=by kernel_rfl
theorem wFF:zE Tryz.prog 214=some ⟨.st [(0,158),(1,213),(2,184)],3,40,.agg [.p .nilf,.p .nilf,.nilsl],true⟩:=by kernel_rfl
theorem wFE:zE Tryz.prog 215=some ⟨.st [(0,158),(1,213),(2,184)],3,40,.agg [.p .nilf,.p .nilf,.nilsl],true⟩:=by kernel_rfl
theorem wFD:zE Tryz.prog 221=some ⟨.ptr 5,1,8,.p .nilp,true⟩:=by kernel_rfl
theorem wFC:zE Tryz.prog 227=some ⟨.fn,1,8,.p .nilf,true⟩:=by kernel_rfl
theorem wFB:zE Tryz.prog 232=some ⟨.int .u64,1,8,.p (.int .u64 0),true⟩:=by kernel_rfl
theorem wFA:zE Tryz.prog 236=some ⟨.ptr 3,1,8,.p .nilp,true⟩:=by kernel_rfl
theorem wEZ:zE Tryz.prog 245=some ⟨.ar 24 5,24,24,.agg (zF (vE 24 (.int .u8 0))),true⟩:=by kernel_rfl
theorem wEY:zE Tryz.prog 250=some ⟨.ptr 232,1,8,.p .nilp,true⟩:=by kernel_rfl
theorem wEX:zE Tryz.prog 254=some ⟨.ar 256 5,256,256,.agg (zF (vE 256 (.int .u8 0))),true⟩:=by kernel_rfl
theorem wEW:zE Tryz.prog 255=some ⟨.st [(0,5),(1,5)],2,2,.agg [.p (.int .u8 0),.p (.int .u8 0)],true⟩:=by kernel_rfl
theorem wEV:zE Tryz.prog 256=some ⟨.st [(0,5),(1,5)],2,2,.agg [.p (.int .u8 0),.p (.int .u8 0)],true⟩:=by kernel_rfl
theorem wEU:zE Tryz.prog 257=some ⟨.ar 16 256,32,32,.agg (zF (vE 32 (.int .u8 0))),true⟩:=by kernel_rfl
theorem wET:zE Tryz.prog 260=some ⟨.ar 20 24,20,160,.agg (zF (vE 20 (.int .u64 0))),true⟩:=by kernel_rfl
theorem wES:zE Tryz.prog 261=some ⟨.ar 65 5,65,65,.agg (zF (vE 65 (.int .u8 0))),true⟩:=by kernel_rfl
theorem wER:zE Tryz.prog 265=some ⟨.sl 268,1,24,.nilsl,true⟩:=by kernel_rfl
theorem wEQ:zE Tryz.prog 267=some ⟨.st [(0,21),(1,21)],2,8,.agg [.p (.int .i32 0),.p (.int .i32 0)],true⟩:=by kernel_rfl
theorem wEP:zE Tryz.prog 268=some ⟨.st [(0,21),(1,21)],2,8,.agg [.p (.int .i32 0),.p (.int .i32 0)],true⟩:=by kernel_rfl
theorem wEO:zE Tryz.prog 270=some ⟨.ar 32 5,32,32,.agg (zF (vE 32 (.int .u8 0))),true⟩:=by kernel_rfl
theorem wEN:zE Tryz.prog 271=some ⟨.ar 64 5,64,64,.agg (zF (vE 64 (.int .u8 0))),true⟩:=by kernel_rfl
theorem wEM:zE Tryz.prog 273=some ⟨.fn,1,8,.p .nilf,true⟩:=by kernel_rfl
theorem wEL:zE Tryz.prog 282=some ⟨.fn,1,8,.p .nilf,true⟩:=by kernel_rfl
@[simp] theorem T_0:T 0=none:=rfl
@[simp] theorem T_2:T 2=some ⟨.int .i64,1,8,.p (.int .i64 0),true⟩:=rfl
@[simp] theorem T_3:T 3=some ⟨.int .i64,1,8,.p (.int .i64 0),true⟩:=rfl
@[simp] theorem T_4:T 4=some ⟨.bool,1,1,.p (.bool false),true⟩:=rfl
@[simp] theorem T_5:T 5=some ⟨.int .u8,1,1,.p (.int .u8 0),true⟩:=rfl
@[simp] theorem T_6:T 6=none:=rfl
@[simp] theorem T_7:T 7=none:=rfl
@[simp] theorem T_8:T 8=none:=rfl
@[simp] theorem T_9:T 9=some ⟨.str,1,16,.p (.str []),true⟩:=rfl
@[simp] theorem T_10:T 10=none:=rfl
@[simp] theorem T_11:T 11=none:=rfl
@[simp] theorem T_12:T 12=some ⟨.int .u64,1,8,.p (.int .u64 0),true⟩:=rfl
@[simp] theorem T_13:T 13=none:=rfl
@[simp] theorem T_14:T 14=none:=rfl
@[simp] theorem T_15:T 15=none:=rfl
@[simp] theorem T_16:T 16=none:=rfl
@[simp] theorem T_17:T 17=none:=rfl
@[simp] theorem T_18:T 18=none:=rfl
@[simp] theorem T_19:T 19=none:=rfl
@[simp] theorem T_20:T 20=none:=rfl
@[simp] theorem T_21:T 21=some ⟨.int .i32,1,4,.p (.int .i32 0),true⟩:=rfl
@[simp] theorem T_22:T 22=some ⟨.sl 57,1,24,.nilsl,true⟩:=rfl
@[simp] theorem T_24:T 24=some ⟨.int .u64,1,8,.p (.int .u64 0),true⟩:=rfl
@[simp] theorem T_25:T 25=some ⟨.st [(0,4),(1,9),(2,3)],3,32,.agg [.p (.bool false),.p (.str []),.p (.int .i64 0)],true⟩:=rfl
@[simp] theorem T_26:T 26=some ⟨.st [(0,4),(1,9),(2,3)],3,32,.agg [.p (.bool false),.p (.str []),.p (.int .i64 0)],true⟩:=rfl
@[simp] theorem T_27:T 27=some ⟨.sl 9,1,24,.nilsl,true⟩:=rfl
@[simp] theorem T_28:T 28=some ⟨.sl 31,1,24,.nilsl,true⟩:=rfl
@[simp] theorem T_29:T 29=some ⟨.int .i64,1,8,.p (.int .i64 0),true⟩:=rfl
@[simp] theorem T_30:T 30=some ⟨.st [(0,3),(1,24),(2,26),(5,9),(6,27),(7,28),(8,29)],9,120,.agg [.p (.int .i64 0),.p (.int .u64 0),.p (.bool false),.p (.str []),.p (.int .i64 0),.p (.str []),.nilsl,.nilsl,.p (.int .i64 0)],true⟩:=rfl
@[simp] theorem T_31:T 31=some ⟨.st [(0,3),(1,24),(2,26),(5,9),(6,27),(7,28),(8,29)],9,120,.agg [.p (.int .i64 0),.p (.int .u64 0),.p (.bool false),.p (.str []),.p (.int .i64 0),.p (.str []),.nilsl,.nilsl,.p (.int .i64 0)],true⟩:=rfl
@[simp] theorem T_37:T 37=some ⟨.fn,1,8,.p .nilf,true⟩:=rfl
@[simp] theorem T_38:T 38=some ⟨.fn,1,8,.p .nilf,true⟩:=rfl
@[simp] theorem T_41:T 41=some ⟨.st [(0,22),(1,22),(2,9)],3,64,.agg [.nilsl,.nilsl,.p (.str [])],true⟩:=rfl
@[simp] theorem T_42:T 42=some ⟨.st [(0,22),(1,22),(2,9)],3,64,.agg [.nilsl,.nilsl,.p (.str [])],true⟩:=rfl
@[simp] theorem T_45:T 45=some ⟨.fn,1,8,.p .nilf,true⟩:=rfl
@[simp] theorem T_47:T 47=some ⟨.fn,1,8,.p .nilf,true⟩:=rfl
@[simp] theorem T_48:T 48=some ⟨.fn,1,8,.p .nilf,true⟩:=rfl
@[simp] theorem T_51:T 51=none:=rfl
@[simp] theorem T_56:T 56=some ⟨.st [(0,3),(1,3),(2,24),(3,9),(4,9),(5,27)],6,80,.agg [.p (.int .i64 0),.p (.int .i64 0),.p (.int .u64 0),.p (.str []),.p (.str []),.nilsl],true⟩:=rfl
@[simp] theorem T_57:T 57=some ⟨.st [(0,3),(1,3),(2,24),(3,9),(4,9),(5,27)],6,80,.agg [.p (.int .i64 0),.p (.int .i64 0),.p (.int .u64 0),.p (.str []),.p (.str []),.nilsl],true⟩:=rfl
@[simp] theorem T_60:T 60=some ⟨.st [(0,24)],1,8,.agg [.p (.int .u64 0)],true⟩:=rfl
@[simp] theorem T_61:T 61=some ⟨.st [(0,24)],1,8,.agg [.p (.int .u64 0)],true⟩:=rfl
@[simp] theorem T_62:T 62=none:=rfl
@[simp] theorem T_72:T 72=some ⟨.fn,1,8,.p .nilf,true⟩:=rfl
@[simp] theorem T_79:T 79=none:=rfl
@[simp] theorem T_81:T 81=some ⟨.sl 5,1,24,.nilsl,true⟩:=rfl
@[simp] theorem T_83:T 83=none:=rfl
@[simp] theorem T_92:T 92=some ⟨.fn,1,8,.p .nilf,true⟩:=rfl
@[simp] theorem T_93:T 93=some ⟨.fn,1,8,.p .nilf,true⟩:=rfl
@[simp] theorem T_96:T 96=some ⟨.ar 9 9,9,144,.agg (zF (vE 9 (.str []))),true⟩:=rfl
@[simp] theorem T_97:T 97=none:=rfl
@[simp] theorem T_107:T 107=none:=rfl
@[simp] theorem T_113:T 113=some ⟨.ptr 31,1,8,.p .nilp,true⟩:=rfl
@[simp] theorem T_114:T 114=some ⟨.fn,1,8,.p .nilf,true⟩:=rfl
@[simp] theorem T_115:T 115=none:=rfl
@[simp] theorem T_117:T 117=none:=rfl
@[simp] theorem T_119:T 119=none:=rfl
@[simp] theorem T_121:T 121=none:=rfl
@[simp] theorem T_126:T 126=none:=rfl
@[simp] theorem T_137:T 137=none:=rfl
@[simp] theorem T_148:T 148=some ⟨.int .u64,1,8,.p (.int .u64 0),true⟩:=rfl
@[simp] theorem T_149:T 149=some ⟨.ptr 207,1,8,.p .nilp,true⟩:=rfl
@[simp] theorem T_150:T 150=some ⟨.st [(0,3),(1,3)],2,16,.agg [.p (.int .i64 0),.p (.int .i64 0)],true⟩:=rfl
@[simp] theorem T_151:T 151=some ⟨.st [(0,3),(1,3)],2,16,.agg [.p (.int .i64 0),.p (.int .i64 0)],true⟩:=rfl
@[simp] theorem T_152:T 152=none:=rfl
@[simp] theorem T_154:T 154=some ⟨.sl 21,1,24,.nilsl,true⟩:=rfl
@[simp] theorem T_156:T 156=some ⟨.fn,1,8,.p .nilf,true⟩:=rfl
@[simp] theorem T_158:T 158=some ⟨.fn,1,8,.p .nilf,true⟩:=rfl
@[simp] theorem T_159:T 159=none:=rfl
@[simp] theorem T_161:T 161=some ⟨.ptr 163,1,8,.p .nilp,true⟩:=rfl
@[simp] theorem T_162:T 162=some ⟨.st [(0,161),(1,81)],2,32,.agg [.p .nilp,.nilsl],true⟩:=rfl
@[simp] theorem T_163:T 163=some ⟨.st [(0,161),(1,81)],2,32,.agg [.p .nilp,.nilsl],true⟩:=rfl
@[simp] theorem T_164:T 164=none:=rfl
@[simp] theorem T_165:T 165=none:=rfl
@[simp] theorem T_166:T 166=none:=rfl
@[simp] theorem T_178:T 178=some ⟨.sl 24,1,24,.nilsl,true⟩:=rfl
@[simp] theorem T_179:T 179=some ⟨.sl 24,1,24,.nilsl,true⟩:=rfl
@[simp] theorem T_180:T 180=none:=rfl
@[simp] theorem T_184:T 184=some ⟨.sl 3,1,24,.nilsl,true⟩:=rfl
@[simp] theorem T_188:T 188=some ⟨.ar 256 4,256,256,.agg (zF (vE 256 (.bool false))),true⟩:=rfl
@[simp] theorem T_189:T 189=some ⟨.ar 256 4,256,256,.agg (zF (vE 256 (.bool false))),true⟩:=rfl
@[simp] theorem T_190:T 190=none:=rfl
@[simp] theorem T_193:T 193=some ⟨.ptr 189,1,8,.p .nilp,true⟩:=rfl
@[simp] theorem T_195:T 195=some ⟨.int .i64,1,8,.p (.int .i64 0),true⟩:=rfl
@[simp] theorem T_196:T 196=none:=rfl
@[simp] theorem T_202:T 202=some ⟨.int .u32,1,4,.p (.int .u32 0),true⟩:=rfl
@[simp] theorem T_204:T 204=some ⟨.ptr 209,1,8,.p .nilp,true⟩:=rfl
@[simp] theorem T_205:T 205=some ⟨.sl 215,1,24,.nilsl,true⟩:=rfl
@[simp] theorem T_206:T 206=some ⟨.st [(0,205)],1,24,.agg [.nilsl],true⟩:=rfl
@[simp] theorem T_207:T 207=some ⟨.st [(0,205)],1,24,.agg [.nilsl],true⟩:=rfl
@[simp] theorem T_208:T 208=some ⟨.st [(0,149),(1,154),(2,3),(3,4)],4,48,.agg [.p .nilp,.nilsl,.p (.int .i64 0),.p (.bool false)],true⟩:=rfl
@[simp] theorem T_209:T 209=some ⟨.st [(0,149),(1,154),(2,3),(3,4)],4,48,.agg [.p .nilp,.nilsl,.p (.int .i64 0),.p (.bool false)],true⟩:=rfl
@[simp] theorem T_211:T 211=some ⟨.sl 4,1,24,.nilsl,true⟩:=rfl
@[simp] theorem T_213:T 213=some ⟨.fn,1,8,.p .nilf,true⟩:=rfl
@[simp] theorem T_214:T 214=some ⟨.st [(0,158),(1,213),(2,184)],3,40,.agg [.p .nilf,.p .nilf,.nilsl],true⟩:=rfl
@[simp] theorem T_215:T 215=some ⟨.st [(0,158),(1,213),(2,184)],3,40,.agg [.p .nilf,.p .nilf,.nilsl],true⟩:=rfl
@[simp] theorem T_217:T 217=none:=rfl
@[simp] theorem T_219:T 219=none:=rfl
@[simp] theorem T_221:T 221=some ⟨.ptr 5,1,8,.p .nilp,true⟩:=rfl
@[simp] theorem T_222:T 222=none:=rfl
@[simp] theorem T_227:T 227=some ⟨.fn,1,8,.p .nilf,true⟩:=rfl
@[simp] theorem T_232:T 232=some ⟨.int .u64,1,8,.p (.int .u64 0),true⟩:=rfl
@[simp] theorem T_236:T 236=some ⟨.ptr 3,1,8,.p .nilp,true⟩:=rfl
@[simp] theorem T_238:T 238=none:=rfl
@[simp] theorem T_241:T 241=none:=rfl
@[simp] theorem T_245:T 245=some ⟨.ar 24 5,24,24,.agg (zF (vE 24 (.int .u8 0))),true⟩:=rfl
@[simp] theorem T_247:T 247=none:=rfl
@[simp] theorem T_250:T 250=some ⟨.ptr 232,1,8,.p .nilp,true⟩:=rfl
@[simp] theorem T_254:T 254=some ⟨.ar 256 5,256,256,.agg (zF (vE 256 (.int .u8 0))),true⟩:=rfl
@[simp] theorem T_255:T 255=some ⟨.st [(0,5),(1,5)],2,2,.agg [.p (.int .u8 0),.p (.int .u8 0)],true⟩:=rfl
@[simp] theorem T_256:T 256=some ⟨.st [(0,5),(1,5)],2,2,.agg [.p (.int .u8 0),.p (.int .u8 0)],true⟩:=rfl
@[simp] theorem T_257:T 257=some ⟨.ar 16 256,32,32,.agg (zF (vE 32 (.int .u8 0))),true⟩:=rfl
@[simp] theorem T_260:T 260=some ⟨.ar 20 24,20,160,.agg (zF (vE 20 (.int .u64 0))),true⟩:=rfl
@[simp] theorem T_261:T 261=some ⟨.ar 65 5,65,65,.agg (zF (vE 65 (.int .u8 0))),true⟩:=rfl
@[simp] theorem T_265:T 265=some ⟨.sl 268,1,24,.nilsl,true⟩:=rfl
@[simp] theorem T_267:T 267=some ⟨.st [(0,21),(1,21)],2,8,.agg [.p (.int .i32 0),.p (.int .i32 0)],true⟩:=rfl
@[simp] theorem T_268:T 268=some ⟨.st [(0,21),(1,21)],2,8,.agg [.p (.int .i32 0),.p (.int .i32 0)],true⟩:=rfl
@[simp] theorem T_270:T 270=some ⟨.ar 32 5,32,32,.agg (zF (vE 32 (.int .u8 0))),true⟩:=rfl
@[simp] theorem T_271:T 271=some ⟨.ar 64 5,64,64,.agg (zF (vE 64 (.int .u8 0))),true⟩:=rfl
@[simp] theorem T_273:T 273=some ⟨.fn,1,8,.p .nilf,true⟩:=rfl
@[simp] theorem T_275:T 275=none:=rfl
@[simp] theorem T_276:T 276=none:=rfl
@[simp] theorem T_277:T 277=none:=rfl
@[simp] theorem T_278:T 278=none:=rfl
@[simp] theorem T_279:T 279=none:=rfl
@[simp] theorem T_280:T 280=none:=rfl
@[simp] theorem T_281:T 281=none:=rfl
@[simp] theorem T_282:T 282=some ⟨.fn,1,8,.p .nilf,true⟩:=rfl
@[simp] theorem T_283:T 283=none:=rfl
@[simp] theorem T_284:T 284=none:=rfl
@[simp] theorem T_285:T 285=none:=rfl
@[simp] theorem T_286:T 286=none:=rfl
theorem wBJ:zKI Tryz.prog 0 tbl:=⟨ti2,ti3,ti4,ti5,ti9,ti12,ti21,ti22,ti24,ti25,ti26,ti27,ti28,ti29,wIK,wIJ,wII,wIH,wIG,wIF,wIE,wID,wIC,wIB,wIA,wHZ,wHY,wHX,wHW,wHV,wHU,wHT,wGH,wGG,wGF,wGE,wGD,wGC,wGB,wGA,wFZ,wFY,wFX,wFW,wFV,wFU,wFT,wFS,wFR,wFQ,wFP,wFO,wFN,wFM,wFL,wFK,wFJ,wFI,wFH,wFG,wFF,wFE,wFD,wFC,wFB,wFA,wEZ,wEY,wEX,wEW,wEV,wEU,wET,wES,wER,wEQ,wEP,wEO,wEN,wEM,wEL,trivial⟩
theorem mixed:Tryz.prog.follows .mixedOrders=true:=by kernel_rfl
theorem tok:TOK Tryz.prog T:=by
 intro t ti h;unfold T at h;cases hx:tbl[t]? with
 | none=>rw[hx]at h;cases h
 | some o =>
  rw[hx]at h;simp only[dM]at h;subst h;have:=qNF wBJ hx;simpa using this
open Sy Go
end Go.Proofs.YtgcbapchinideaaGreatDoor
