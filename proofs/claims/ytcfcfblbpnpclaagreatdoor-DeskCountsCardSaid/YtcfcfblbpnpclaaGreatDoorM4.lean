import Derived.Test.YtcfcfblbpnpclaaGreatDoorM3
import Derived.Test.YtcfcfblbpnpclaaGreatDoorM2
import Derived.WalkKit
import Derived.ProofKit
import Derived.OpenShut
import Derived.Deep.DeepHandedRow
import Derived.Deep.Slices
import Derived.Carry
import Derived.LaidMore
import Derived.Lay
import Derived.Stop.Joined
import Derived.Test.YtcfcfblbpnpclaaGreatDoorRows
namespace Go.Proofs.YtcfcfblbpnpclaaGreatDoor.Sy
open Go Go.ChangeShapes Go.WideShapes Go.ChangeAt Go.RowKit
def yU (W:World):qQ:=fun b o=>W.cell? ⟨b,o,none⟩
section
variable {H:Type} {enc:TypeId × Value→H} {P:Program}
theorem xD (hl : laidOutB P = true) {W W' : World} {sp : Nat → Bool} : ∀ {ts : List TypeId} {vs : List Value} {ds : List (DataW H)} {p : List MemPlace},
  (∀ t∈ts,P.readableRec t=true∧t<P.types.size)→DataW.TrodAll enc P W 0 (fun _=>true) true ts vs ds p→(∀ x∈p,W.sameAt W' x)→(∀ x∈p,sp x.block=true)→DataW.TrodAll enc P W' 0 sp true ts vs ds p
 | [],vs,ds,p,_,h,_,_=>by
  obtain ⟨rfl,rfl,rfl⟩:=trodAll_nil h
  exact trodAll_mk0
 | t::ts,vs,ds,p,ht,h,hs,hsp=>by
  obtain ⟨v,vs',d,ds',p1,q,rfl,rfl,rfl,h1,h2⟩:=trodAll_cons h
  have a:=WideElems.Trod_stays hl (ht t (by simp)).1 (ht t (by simp)).2 h1 (fun x hx=>hs x (by simp [hx])) (fun x hx=>hsp x (by simp [hx]))
  have b:=xD hl (fun t' h'=>ht t' (by simp [h'])) h2 (fun x hx=>hs x (by simp [hx])) (fun x hx=>hsp x (by simp [hx]))
  exact trodAll_cons_mk a b
theorem qIG {f : Func} {s : ChangeSpec} {W W' : World} {args : Array Value} {ds gs : List (DataW H)} {before : List MemPlace} {tb : TypeId} (hW : DataW.Whole enc P f.params.toList s.vars false W args.toList ds gs before)
  (hb:Below W.heap.size W W') (hl:laidOutB P=true) (hr:∀ t∈f.params.toList,P.readableRec t=true∧t<P.types.size) (hv:s.vars=[]) (hspec:s.fn H (ds++gs)={ results:=[.lit (.bool true)],args:=ds })
  (hrt:f.resultTypes = #[tb]) (htb:P.underlying tb=some .bool):s.post enc P f false true false false W args (.bool true) W':=by
 have hlt:=hW.lt
 have hW':=hW
 obtain ⟨p,q,hA,hV,rfl,hz,hn⟩:=hW
 rw [hv] at hV
 obtain ⟨rfl,rfl⟩:=trodVars_none hV
 simp only [List.append_nil] at hW' hz hlt hspec hn
 have hsame:∀ x∈p,W.sameAt W' x:=fun x hx=>hb.same (hlt x hx)
 have hargs:∀ sp:Nat→Bool,(∀ x∈p,sp x.block=true)→DataW.TrodAll enc P W' 0 sp true f.params.toList args.toList ds p:=fun sp hsp=>xD hl hr hA hsame hsp
 have hres:∀ (b:Nat) (sp:Nat→Bool) (hd:Bool),DataW.TrodAll enc P W' b sp hd f.resultTypes.toList ((Value.bool true).resultList f.resultTypes.size) [.lit (.bool true)] []:=fun b sp hd=>by
  rw [hrt]; exact trodAll_cons_mk (shut_bool htb true) trodAll_mk0
 have hvars:∀ sp:Nat→Bool,DataW.TrodVars enc P W' sp s.vars [] []:=fun sp=>by rw [hv]; exact rfl
 have hold:∀ x∈p,(fun b=>decide (b<W.heap.size)) x.block=true:=fun x hx=>by simpa using hlt x hx
 refine ⟨ds,[],p,[],p,[],hW', ?_, ?_, ?_,World.keptBut_mono (fun x hx=>⟨hx, ?_⟩) (hb.frame (· ∈ p)),fun _ => ?_⟩
 ·simp only [List.append_nil,hspec]; exact hres _ _ _
 ·simp only [List.append_nil,hspec]; exact hargs _ hold
 ·simp only [List.append_nil,hspec]; exact hvars _
 ·exact Or.inr (Or.inl hx)
 refine ⟨?_,_,_,([]++p)++[],⟨[]++p,[],trodAll_append (hargs _ (fun _ _=>rfl)) (hres _ _ _),hvars _,rfl, ?_, ?_⟩, ?_⟩
 ·intro j t r h1 h2
  rw [hrt] at h1 h2
  cases j with
  | zero=>simp [Value.resultList] at h1 h2; subst h1; subst h2; exact okWide_bool_mk htb true
  | succ j=>simp at h1
 ·intro b off hp
  have hp':MemPlace.cell b off∈p:=by simpa using hp
  rw [hb.frozen (p:=⟨b,off,none⟩) (hlt _ hp')]
  exact hz b off hp'
 ·intro ha; cases ha
 intro x hx _
 simpa using hx
end
def ShF (sh:TypeId→List PD→Prop):List (Nat × TypeId)→List PD→Prop
 | [],cs=>cs=[]
 | p::fs,cs=>∃ a b,cs=a++b∧sh p.2 a∧ShF sh fs b
def kE (k:TK) (cs:List PD):PD:=if k.agg then .agg cs else match cs with
 | [c]=>c
 | _ => .agg cs
def ShC (T:Tab):Nat→TypeId→List PD→Prop
 | 0,_,_=>False
 | f+1,t,cs=>match T t with
  | some ti=>match ti.k with
   | .bool=>∃ b,cs=[.bool b]
   | .int k=>∃ n,cs=[.int k n]∧wE k≤n∧n≤wF k
   | .str=>∃ s:List UInt8,cs=[.str s]∧s.length≤140737488351232
   | .sl e=>match T e with
    | some te=>∃ es:List PD,cs=[.sl te.size es]∧es.length * te.bytes≤140737488351232∧∀ x∈es, ∃ cs',x=kE te.k cs'∧ShC T f e cs'
    | none=>False
   | .st fs=>ShF (ShC T f) fs cs
   | _=>False
  | none=>False
def vZ (T:Tab):List (Nat × TypeId)→Nat→Nat→Bool
 | [],o,n=>o == n
 | p::fs,o,n=>p.1 == o && (match T p.2 with
  | some ti=>vZ T fs (o+ti.size) n
  | none=>false)
def okT (T:Tab):Nat→TypeId→Bool
 | 0,_=>false
 | f+1,t=>match T t with
  | some ti=>match ti.k with
   | .bool | .int _ | .str=>ti.size == 1
   | .sl e=>okT T f e && (ti.size == 1 && match T e with
    | some te=>decide (0<te.size)
    | none=>false)
   | .st fs=>vZ T fs 0 ti.size && fs.all fun p=>okT T f p.2
   | _=>false
  | none=>false
def RdL (M:qQ) (us:List Value) (cs:List PD):Prop:=us.length=cs.length∧∀ (i:Nat) u d,us[i]?=some u→cs[i]?=some d→Rd M u d∧u.oneCell'=true
theorem RdL.nil {M:qQ}:RdL M [] []:=⟨rfl,fun i u d h=>by simp at h⟩
theorem RdL.append {M:qQ} {us vs:List Value} {cs ds:List PD} (h:RdL M us cs) (k:RdL M vs ds):RdL M (us++vs) (cs++ds):=by
 refine ⟨by simp [h.1,k.1],fun i u d hu hd => ?_⟩
 rw [List.getElem?_append] at hu hd
 rw [← h.1] at hd
 split at hu
 ·rename_i hi; rw [if_pos hi] at hd; exact h.2 i u d hu hd
 rename_i hi; rw [if_neg hi] at hd; exact k.2 _ u d hu hd
theorem RdL.one {M:qQ} {u:Value} {d:PD} (h:Rd M u d) (k:u.oneCell'=true):RdL M [u] [d]:=by
 refine ⟨rfl,fun i u' d' hu hd => ?_⟩
 cases i with
 | zero=>simp at hu hd; subst hu; subst hd; exact ⟨h,k⟩
 | succ i=>simp at hu
section
variable {H:Type} {enc:TypeId × Value→H} {P:Program} {W:World} {T:Tab}
theorem jS (hT:TOK P T) {t:TypeId} {ti:TI} (h:T t=some ti):P.cellsOf t=ti.size:=by
 obtain ⟨i,d,hi,_,_,hs,_⟩:=hT.get h
 simp [Program.cellsOf,hi,hs]
theorem qBW {n : Nat} {sh : TypeId → List PD → Prop} (hT : TOK P T) {us : List Value} : ∀ (fl : List (Nat × TypeId)) (o m : Nat), vZ T fl o m = true → us.length = m → o ≤ m →
  (∀ p∈fl, ∃ y,DataW.trod enc P W 0 (fun _=>true) true n p.2 ((us.drop p.1).take (P.cellsOf p.2))=some y∧∀ x∈DataW.weights P p.2 y.1,x≤140737488351232) →
  (∀ p∈fl, ∀ vs y,DataW.trod enc P W 0 (fun _=>true) true n p.2 vs=some y→(∀ x∈DataW.weights P p.2 y.1,x≤140737488351232)→∃ cs,sh p.2 cs∧RdL (yU W) vs cs)→∃ cs,ShF sh fl cs∧RdL (yU W) (us.drop o) cs
 | [],o,m,ht,hl,ho,_,_=>by
  simp only [vZ,beq_iff_eq] at ht
  refine ⟨[],rfl, ?_⟩
  rw [List.drop_eq_nil_of_le (by omega)]; exact .nil
 | p::fl,o,m,ht,hl,ho,hr,hs=>by
  simp only [vZ,Bool.and_eq_true,beq_iff_eq] at ht
  obtain ⟨rfl,ht⟩:=ht
  split at ht
  ·rename_i ti hti
   have hc:=jS hT hti
   obtain ⟨y,hy,hyw⟩:=hr p (by simp)
   obtain ⟨a,ha,hra⟩:=hs p (by simp) _ y hy hyw
   have hle:∀ (fl:List (Nat × TypeId)) (o m:Nat),vZ T fl o m=true→o≤m:=by
    intro fl
    induction fl with
    | nil=>intro o m h; simp only [vZ,beq_iff_eq] at h; omega
    | cons q fl ih =>
     intro o m h
     simp only [vZ,Bool.and_eq_true] at h
     split at h
     ·have:=ih _ _ h.2; omega
     simp at h
   have hle':=hle fl _ _ ht
   obtain ⟨b,hb,hrb⟩:=qBW hT fl (p.1+ti.size) m ht hl hle' (fun q hq=>hr q (by simp [hq])) (fun q hq=>hs q (by simp [hq]))
   refine ⟨a++b,⟨a,b,rfl,ha,hb⟩, ?_⟩
   have e:us.drop p.1=(us.drop p.1).take (P.cellsOf p.2)++us.drop (p.1+ti.size):=by
    rw [hc,← List.drop_drop,List.take_append_drop]
   rw [e]
   exact hra.append hrb
  cases ht
theorem qEA {k:TK} {cs:List PD} (h:k.agg=false→∃ c,cs=[c]∧c.cells=[c]):(kE k cs).cells=cs:=by
 unfold kE
 split
 ·rfl
 rename_i hk
 obtain ⟨c,rfl,hc⟩:=h (by simpa using hk)
 exact hc
theorem jH {P:Program} {e:TypeId} {x:Nat} {d:DataW H}:∀ {l:List (DataW H)},d∈l→x∈DataW.weights P e d→x∈DataW.weightsAll P e l
 | a::l,hd,hx=>by
  simp only [DataW.weightsAll,List.mem_append]
  rcases List.mem_cons.1 hd with rfl | hd
  ·exact .inl hx
  exact .inr (jH hd hx)
theorem jC {P:Program} {x:Nat}:∀ {ts:List TypeId} {l:List (DataW H)} {i:Nat} {t:TypeId} {d:DataW H},ts[i]?=some t→l[i]?=some d→x∈DataW.weights P t d→x∈DataW.weightsEach P ts l
 | t::ts,a::l,i,t',d,ht,hd,hx=>by
  simp only [DataW.weightsEach,List.mem_append]
  cases i with
  | zero=>simp at ht hd; subst ht; subst hd; exact .inl hx
  | succ i=>simp at ht hd; exact .inr (jC ht hd hx)
 | [],_,i,_,_,ht,_,_=>by simp at ht
 | _::_,[],i,_,_,_,hd,_=>by simp at hd
theorem qEM (hT:TOK P T) {t:TypeId} {ti:TI} (h:T t=some ti):P.bytesOf t=ti.bytes:=by
 obtain ⟨i,d,hi,_,_,_,hb,_⟩:=hT.get h
 simp [Program.bytesOf,hi,hb]
theorem qIA (hT : TOK P T) : ∀ (f : Nat) (t : TypeId), okT T f t = true → ∀ (n : Nat) (us : List Value) (y : DataW H × List MemPlace), DataW.trod enc P W 0 (fun _ => true) true n t us = some y → (∀ x ∈ DataW.weights P t y.1, x ≤ 140737488351232) →
  ∃ cs,(ShC T f t cs∧RdL (yU W) us cs)∧∀ ti,T t=some ti→us.length=ti.size∧(ti.k.agg=false→∃ c,cs=[c]∧c.cells=[c]):=by
 intro f
 induction f with
 | zero=>intro t h; cases h
 | succ f ih =>
  intro t hok n us y hy hw
  simp only [okT] at hok
  split at hok
  case h_2=>cases hok
  rename_i ti hti
  have hsz:=jS hT hti
  obtain ⟨inf,d,hi,hd,hdk,his,_⟩:=hT.get hti
  simp only [ShC,hti]
  split at hok
  ·rename_i hk
   rw [hk] at hdk
   obtain ⟨b,rfl,_⟩:=DataW.trod_bool (by rw [hd,TK.of_bool hdk]) hy
   refine ⟨[.bool b],⟨?_,.one (.bool b) rfl⟩, ?_⟩
   ·simp
   intro ti' e; cases e
   exact ⟨by simpa using (beq_iff_eq.1 hok).symm,fun _=>⟨_,rfl,rfl⟩⟩
  ·rename_i k hk
   rw [hk] at hdk
   obtain ⟨m,rfl,_,hw⟩:=DataW.trod_int (by rw [hd,TK.of_int hdk]) hy
   simp [Lit.wf] at hw
   refine ⟨[.int k m],⟨?_,.one (.int hw.1 hw.2) rfl⟩, ?_⟩
   ·exact ⟨m,rfl,by rw [← wQ]; exact hw.1,by rw [← wR]; exact hw.2⟩
   intro ti' e; cases e
   exact ⟨by simpa using (beq_iff_eq.1 hok).symm,fun _=>⟨_,rfl,rfl⟩⟩
  ·rename_i hk
   rw [hk] at hdk
   obtain ⟨s,rfl,rfl,hm⟩:=DataW.trod_string (by rw [hd,TK.of_str hdk]) hy
   have hwl:=hw s.data.toList.length (by simp [DataW.weights])
   refine ⟨[.str s.data.toList],⟨?_,.one (.str rfl (by rw [Array.length_toList]; exact hm)) rfl⟩, ?_⟩
   ·exact ⟨_,rfl,hwl⟩
   intro ti' e; cases e
   exact ⟨by simpa using (beq_iff_eq.1 hok).symm,fun _=>⟨_,rfl,rfl⟩⟩
  ·rename_i e hk
   rw [hk] at hdk
   simp only [Bool.and_eq_true,beq_iff_eq] at hok
   obtain ⟨hok1,hok2,hok3⟩:=hok
   obtain ⟨te,hte,hpos⟩:∃ te,T e=some te∧0<te.size:=by
    split at hok3
    ·rename_i te hte; exact ⟨te,hte,by simpa using hok3⟩
    cases hok3
   have hce:=jS hT hte
   have hlast:∀ (c:PD),c.cells=[c]→[Value.nilIface].length=ti.size∧(ti.k.agg=false→∃ c',[c]=[c']∧c'.cells=[c']):=fun c hc =>
    ⟨by rw [hok2]; rfl,fun _=>⟨c,rfl,hc⟩⟩
   rcases Go.Deep.open_slice (by rw [hd,TK.of_sl hdk]) hy with ⟨rfl,_⟩ | ⟨ad,len,cap,m,n',D,Pl,rfl,_,hl,hm,hmm,hyx,hel⟩
   ·refine ⟨[.sl te.size []],⟨?_,.one (.sl 0 0 rfl (Nat.le_refl _) (by simp [maxLen]) (fun h=>(h rfl).elim) (fun i e h=>by simp at h) (fun i e j h=>by simp at h) (fun i e j d u h=>by simp at h)) rfl⟩, ?_⟩
    ·simp [hte]
    intro ti' e'; cases e'; exact hlast _ rfl
   have hlm:len≤m:=by rw [hmm]; simpa using hl
   have hwe:∀ x,x=(len+(m-len)) * P.bytesOf e∨x∈DataW.weightsAll P e ((List.range len).map D)→x≤140737488351232:=fun x hx=>by
    refine hw x ?_
    rw [hyx]
    simp only [DataW.weights,show P.underlying t=some (.slice e) by rw [hd,TK.of_sl hdk],List.length_map,List.length_range,List.mem_cons,List.mem_append]
    rcases hx with hx | hx
    ·exact .inl hx
    exact .inr (.inl hx)
   have hwl:=hwe _ (.inl rfl)
   rw [qEM hT hte] at hwl
   have hlen2:len * te.bytes≤140737488351232:=Nat.le_trans (Nat.mul_le_mul_right _ (Nat.le_add_right _ _)) hwl
   have each:∀ i,i<len→∃ cs:List PD,ShC T f e cs∧cs.length=te.size∧(kE te.k cs).cells=cs∧∀ j d,cs[j]?=some d→∃ u,W.cell? ((ad.add (i * te.size)).add j)=some u∧Rd (yU W) u d∧u.oneCell'=true:=by
    intro i hi
    obtain ⟨vs,hc,htr⟩:=hel i (by omega)
    rw [hce] at hc
    obtain ⟨_,hlen,hcell⟩:=World.cells?_some hc
    obtain ⟨cs,⟨hsh,hrd⟩,hti'⟩:=ih e hok1 n' vs _ htr fun x hx=>hwe x (.inr (jH (List.mem_map.2 ⟨i,by simpa using hi,rfl⟩) hx))
    obtain ⟨h1,h2⟩:=hti' te hte
    refine ⟨cs,hsh,by rw [← hrd.1]; exact h1,qEA h2,fun j d hj => ?_⟩
    have hjl:j<vs.length:=by rw [hrd.1]; exact (List.getElem?_eq_some_iff.1 hj).1
    have hv:vs[j]?=some vs[j]:=by simp [hjl]
    have h3:=hrd.2 j vs[j] d hv hj
    exact ⟨vs[j],by rw [hcell j (by omega)]; exact hv,h3⟩
   obtain ⟨F,hF⟩:=Go.Deep.choose_lt each
   have hspot:len≠0→ad=⟨ad.block,ad.off,none⟩:=by
    intro hne
    obtain ⟨_,hlen,_,hc⟩:=hF 0 (by omega)
    obtain ⟨u0,hu0,_⟩:=hc 0 ((F 0)[0]'(by omega)) (by simp [show 0<(F 0).length by omega])
    simp [Addr.add] at hu0
    unfold World.cell? at hu0
    cases hsp:ad.spot with
    | none=>cases ad; simp at hsp; subst hsp; rfl
    | some q=>split at hu0 <;> simp [hsp] at hu0
   let es:=(List.range len).map fun i=>kE te.k (F i)
   have hget:∀ (i:Nat) x,es[i]?=some x→i<len∧x=kE te.k (F i):=by
    intro i x he
    simp only [es] at he
    rw [List.getElem?_map] at he
    obtain ⟨j,hj,rfl⟩:=Option.map_eq_some_iff.1 he
    have hi:i<len:=by simpa using (List.getElem?_eq_some_iff.1 hj).1
    simp [hi] at hj
    subst hj
    exact ⟨hi,rfl⟩
   have hadd:∀ b o i:Nat,(⟨b,o,none⟩:Addr).add i=⟨b,o+i,none⟩:=fun b o i=>wV b o i
   refine ⟨[.sl te.size es],⟨?_,.one ?_ rfl⟩, ?_⟩
   ·simp only [hte]
    refine ⟨es,rfl,by simp only [es,List.length_map,List.length_range]; exact hlen2,fun x hx => ?_⟩
    obtain ⟨i,hi,rfl⟩:=List.mem_iff_getElem.1 hx
    obtain ⟨h1,h2⟩:=hget i es[i] (List.getElem?_eq_getElem hi)
    exact ⟨F i,h2,(hF i h1).1⟩
   ·refine .sl ad.block ad.off (by simp [es]) hl hm (fun h=>by rw [← hspot h]) (fun i x hx => ?_) (fun i x j hx hj => ?_) (fun i x j d u hx hd hu => ?_)
    ·obtain ⟨h1,rfl⟩:=hget i x hx
     rw [(hF i h1).2.2.1]; exact (hF i h1).2.1
    ·obtain ⟨h1,rfl⟩:=hget i x hx
     obtain ⟨_,hlen,_,hc⟩:=hF i h1
     obtain ⟨u,hu,_,h3⟩:=hc j ((F i)[j]'(by omega)) (by simp [show j<(F i).length by omega])
     rw [hspot (by omega),hadd,hadd] at hu
     exact ⟨u,hu,h3⟩
    obtain ⟨h1,rfl⟩:=hget i x hx
    obtain ⟨_,hlen,hp,hc⟩:=hF i h1
    rw [hp] at hd
    obtain ⟨u',hu',h2,_⟩:=hc j d hd
    rw [hspot (by omega),hadd,hadd] at hu'
    change W.cell? ⟨ad.block,ad.off+i * te.size+j,none⟩=some u at hu
    rw [hu'] at hu; cases hu
    exact h2
   intro ti' e'; cases e'; exact hlast _ rfl
  ·rename_i fs hk
   rw [hk] at hdk
   obtain ⟨l,rfl,hl⟩:=TK.of_st hdk
   simp only [Bool.and_eq_true,List.all_eq_true] at hok
   obtain ⟨xs,n',_,hyx,hlen,hxl,hfs⟩:=DataW.trod_struct hd hy
   rw [hsz] at hlen
   have hf:∀ p∈fs, ∃ z,DataW.trod enc P W 0 (fun _=>true) true n' p.2 ((us.drop p.1).take (P.cellsOf p.2))=some z∧∀ x∈DataW.weights P p.2 z.1,x≤140737488351232:=by
    intro p hp
    rw [← hl] at hp
    obtain ⟨fd,hfd,rfl⟩:=List.mem_map.1 hp
    obtain ⟨i,hi,hfi⟩:=List.mem_iff_getElem.1 hfd
    have h1:=hfs i fd (by simp at hi hfi; simp [hi,hfi])
    have hil:i<xs.length:=by rw [hxl]; simpa using hi
    refine ⟨xs[i],by rw [h1]; simp [hil],fun x hx=>hw x ?_⟩
    rw [hyx]
    simp only [DataW.weights,hd]
    have hi':i<l.size:=by simpa using hi
    exact jC (i:=i) (t:=fd.type) (d:=(xs[i]).1) (by simp at hfi; simp [hi',hfi]) (by simp [hil]) hx
   obtain ⟨cs,h1,h2⟩:=qBW (sh:=ShC T f) hT fs 0 ti.size hok.1 hlen (by omega) hf (fun p hp vs z hz hzw=>by
    obtain ⟨cs,h,_⟩:=ih p.2 (hok.2 p hp) n' vs z hz hzw
    exact ⟨cs,h⟩)
   rw [List.drop_zero] at h2
   refine ⟨cs,⟨h1,h2⟩,fun ti' e' => ?_⟩
   cases e'
   exact ⟨hlen,fun h=>by rw [hk] at h; cases h⟩
  cases hok
end
def ShL (T:Tab) (f:Nat):List TypeId→List PD→Prop
 | [],ds=>ds=[]
 | t::ts,ds=>∃ d ds',ds=d::ds'∧(∃ cs k,zE T t=some k∧d=kE k cs∧ShC T f t cs)∧ShL T f ts ds'
section
variable {H:Type} {enc:TypeId × Value→H} {P:Program} {W:World} {T:Tab}
theorem qFJ (hT:TOK P T) {base:Nat} {t:TypeId} {ti:TI} {v:Value} (ht:T t=some ti) (hk:ti.k = .bool∨(∃ k,ti.k = .int k)∨ti.k = .str∨∃ e,ti.k = .sl e) (h:Value.okWide P W .any base t v):v.cells = #[v]:=by
 obtain ⟨i,d,_,hd,hdk,_⟩:=hT.get ht
 rcases hk with hk | ⟨k,hk⟩ | hk | ⟨e,hk⟩ <;> rw [hk] at hdk
 ·obtain ⟨b,rfl⟩:=okWide_bool (by rw [hd,TK.of_bool hdk]) h; rfl
 ·obtain ⟨b,rfl⟩:=okWide_int (by rw [hd,TK.of_int hdk]) h; rfl
 ·obtain ⟨b,rfl⟩:=okWide_string (by rw [hd,TK.of_str hdk]) h; rfl
 obtain ⟨a,l,c,rfl⟩:=okWide_slice (by rw [hd,TK.of_sl hdk]) h; rfl
theorem xU (hT : TOK P T) {base f : Nat} : ∀ (ts : List TypeId) (vs : List Value) (ds : List (DataW H)) (p : List MemPlace), (∀ t ∈ ts, okT T f t = true) → DataW.TrodAll enc P W 0 (fun _ => true) true ts vs ds p → (∀ x ∈ DataW.weightsEach P ts ds, x ≤ 140737488351232) →
  (∀ (j:Nat) t v,ts[j]?=some t→vs[j]?=some v→Value.okWide P W .any base t v)→∃ pds,ShL T f ts pds∧vs.length=pds.length∧∀ (i:Nat) u d,vs[i]?=some u→pds[i]?=some d→Rd (yU W) u d
 | [],vs,ds,p,_,h,_,_=>by
  obtain ⟨rfl,rfl,rfl⟩:=trodAll_nil h
  exact ⟨[],rfl,rfl,fun i u d h=>by simp at h⟩
 | t::ts,vs,ds,p,hok,h,hw,hv=>by
  obtain ⟨v,vs',d,ds',p1,q,rfl,rfl,rfl,⟨n,h1⟩,h2⟩:=trodAll_cons h
  obtain ⟨pds,a1,a2,a3⟩:=xU hT ts vs' ds' q (fun t h=>hok t (by simp [h])) h2 (fun x hx=>hw x (by simp [DataW.weightsEach,hx])) (fun j t v h h'=>hv (j+1) t v (by simpa using h) (by simpa using h'))
  have hokt:=hok t (by simp)
  obtain ⟨cs,⟨hsh,hrd⟩,hti⟩:=qIA hT f t hokt n _ _ h1 (fun x hx=>hw x (by simp [DataW.weightsEach,hx]))
  have hov:=hv 0 t v rfl rfl
  obtain ⟨ti,ht⟩:∃ ti,T t=some ti:=by
   cases f with
   | zero=>cases hokt
   | succ f =>
    cases hx:T t with
    | none=>simp [okT,hx] at hokt
    | some ti=>exact ⟨ti,rfl⟩
  obtain ⟨hl,hag⟩:=hti ti ht
  have hfirst:Rd (yU W) v (kE ti.k cs):=by
   unfold kE
   split
   ·rename_i hk
    obtain ⟨i,dd,_,hd,hdk,_⟩:=hT.get ht
    have:∃ fs,dd = .struct fs:=by
     cases f with
     | zero=>cases hokt
     | succ f =>
      simp only [okT,ht] at hokt
      split at hokt
      ·rename_i e; rw [e] at hk; cases hk
      ·rename_i e; rw [e] at hk; cases hk
      ·rename_i e; rw [e] at hk; cases hk
      ·rename_i e; rw [e] at hk; cases hk
      ·rename_i fs e
       rw [e] at hdk
       obtain ⟨l,rfl,_⟩:=TK.of_st hdk
       exact ⟨l,rfl⟩
      cases hokt
    obtain ⟨fs,rfl⟩:=this
    obtain ⟨arr,rfl,_⟩:=okWide_struct hd hov
    refine .agg (by simpa [Value.cells] using hrd.1) (fun i u hu => ?_) (fun i u d hu hd => ?_)
    ·have hi:i<cs.length:=by rw [← hrd.1]; simpa [Value.cells] using (Array.getElem?_eq_some_iff.1 hu).1
     exact (hrd.2 i u cs[i] (by simpa [Value.cells] using hu) (by simp [hi])).2
    exact (hrd.2 i u d (by simpa [Value.cells] using hu) hd).1
   rename_i hk
   obtain ⟨c,rfl,hc⟩:=hag (by simpa using hk)
   have hat:v.cells = #[v]:=by
    refine qFJ hT ht ?_ hov
    cases f with
    | zero=>cases hokt
    | succ f =>
     simp only [okT,ht] at hokt
     split at hokt
     ·exact .inl (by assumption)
     ·exact .inr (.inl ⟨_,by assumption⟩)
     ·exact .inr (.inr (.inl (by assumption)))
     ·exact .inr (.inr (.inr ⟨_,by assumption⟩))
     ·rename_i e; rw [e] at hk; exact (hk rfl).elim
     cases hokt
   rw [hat] at hrd
   exact (hrd.2 0 v c (by simp) (by simp)).1
  refine ⟨kE ti.k cs::pds,⟨_,_,rfl,⟨cs,ti.k,by simp [zE,ht],rfl,hsh⟩,a1⟩,by simp [a2],fun i u d hu hd => ?_⟩
  cases i with
  | zero=>simp at hu hd; subst hu; subst hd; exact hfirst
  | succ i=>exact a3 i u d (by simpa using hu) (by simpa using hd)
theorem qIH (hT : TOK P T) {G : qK} {f : FuncId} {fn : Func} {s : ChangeSpec} {args : Array Value} {ds gs : List (DataW H)} {before : List MemPlace} {tb : TypeId} {base n : Nat}
  (hval:∀ (j:Nat) t v,fn.params[j]?=some t→args[j]?=some v→Value.okWide P W .any base t v)
  (hW:DataW.Whole enc P fn.params.toList s.vars false W args.toList ds gs before) (hok:(fn.params.toList.all fun t=>okT T n t)=true) (hl:laidOutB P=true) (hr:(fn.params.toList.all fun t=>P.readableRec t && decide (t<P.types.size))=true)
  (hv:s.vars=[]) (hspec:∀ ds:List (DataW H),ds.length=fn.params.size→s.fn H ds={ results:=[.lit (.bool true)],args:=ds }) (hrt:fn.resultTypes = #[tb]) (htb:P.underlying tb=some .bool)
  (hG:GOK G (yU W) W) {vt:List TypeId} (hS:(DataW.weightsEach P (fn.params.toList++vt) (ds++gs)).all (fun x=>decide (x≤reachBytes))=true) (hA:∀ pds,ShL T n fn.params.toList pds→AFn P G f pds (.bool true)) :
  Calls P f args W fun e W'=>∃ v,e = .returned v∧s.post enc P fn false true false false W args v W':=by
 have hW':=hW
 obtain ⟨p,q,hA0,hV,rfl,hz,hn⟩:=hW
 have hlen:ds.length=fn.params.size:=by
  have key:∀ (ts:List TypeId) (vs:List Value) (ds:List (DataW H)) (p:List MemPlace),DataW.TrodAll enc P W 0 (fun _=>true) true ts vs ds p→ds.length=ts.length:=by
   intro ts
   induction ts with
   | nil=>intro vs ds p h; obtain ⟨_,rfl,_⟩:=trodAll_nil h; rfl
   | cons t ts ih=>intro vs ds p h; obtain ⟨v,vs',d,ds',p1,q,rfl,rfl,rfl,h1,h2⟩:=trodAll_cons h; simp [ih _ _ _ h2]
  have:=key _ _ _ _ hA0
  simpa using this
 have hgs:gs=[]:=by rw [hv] at hV; exact (trodVars_none hV).1
 have hws:∀ x∈DataW.weightsEach P fn.params.toList ds,x≤140737488351232:=fun x hx=>by
  have key:∀ (ts ts':List TypeId) (ds gs:List (DataW H)),x∈DataW.weightsEach P ts ds→x∈DataW.weightsEach P (ts++ts') (ds++gs):=by
   intro ts
   induction ts with
   | nil=>intro ts' ds gs h; simp [DataW.weightsEach] at h
   | cons t ts ih =>
    intro ts' ds gs h
    cases ds with
    | nil=>simp [DataW.weightsEach] at h
    | cons d ds =>
     simp only [DataW.weightsEach,List.cons_append,List.mem_append] at h ⊢
     exact h.imp id (ih ts' ds gs)
  have:=List.all_eq_true.1 hS x (key _ _ _ _ hx)
  exact of_decide_eq_true (p:=x≤reachBytes) this
 obtain ⟨pds,h1,h2,h3⟩:=xU hT (base:=base) (f:=n) _ _ _ _ (fun t ht=>List.all_eq_true.1 hok t ht) hA0 hws (fun j t v hj hv'=>hval j t v (by simpa using hj) (by simpa using hv'))
 refine ((hA pds h1).2 (yU W) W args hG (fun _ _ _ h=>h) (by simpa using h2) (fun i u d hu hd=>h3 i u d (by simpa using hu) hd)).mono ?_
 rintro e W' ⟨v,M',rfl,hrd,_,_,_,hb⟩
 cases hrd
 refine ⟨_,rfl,qIG hW' hb hl (fun t ht => ?_) hv ?_ hrt htb⟩
 ·have:=List.all_eq_true.1 hr t ht
  simpa using this
 rw [hgs,List.append_nil]; exact hspec ds hlen
end
theorem qGB {α β:Type} {f:α→β}:∀ {es:List β},(∀ x∈es, ∃ a,x=f a)→∃ l:List α,es=l.map f
 | [],_=>⟨[],rfl⟩
 | x::es,h=>by
  obtain ⟨a,rfl⟩:=h x (by simp)
  obtain ⟨l,rfl⟩:=qGB (es:=es) fun y hy=>h y (by simp [hy])
  exact ⟨a::l,rfl⟩
theorem vS {α β:Type} {f:α→β} {p:α→Prop}:∀ {es:List β},(∀ x∈es, ∃ a,x=f a∧p a)→∃ l:List α,es=l.map f∧∀ a∈l,p a
 | [],_=>⟨[],rfl,by simp⟩
 | x::es,h=>by
  obtain ⟨a,rfl,hp⟩:=h x (by simp)
  obtain ⟨l,rfl,hl⟩:=vS (es:=es) fun y hy=>h y (by simp [hy])
  exact ⟨a::l,rfl,by simpa using ⟨hp,hl⟩⟩
end Go.Proofs.YtcfcfblbpnpclaaGreatDoor.Sy
namespace Go.Proofs.YtcfcfblbpnpclaaGreatDoor
open Sy
set_option maxRecDepth 100000
def tbl:List (Option TI):=[
 none,
 some ⟨.fn,1,8,.p .nilf,true⟩,
 some ⟨.int .i64,1,8,.p (.int .i64 0),true⟩,
 some ⟨.int .i64,1,8,.p (.int .i64 0),true⟩,
 some ⟨.bool,1,1,.p (.bool false),true⟩,
 some ⟨.int .u8,1,1,.p (.int .u8 0),true⟩,
 none,
 none,
 none,
 some ⟨.str,1,16,.p (.str []),true⟩,
 none,
 none,
 some ⟨.int .u64,1,8,.p (.int .u64 0),true⟩,
 none,
 none,
 none,
 none,
 none,
 none,
 none,
 none,
 some ⟨.int .i32,1,4,.p (.int .i32 0),true⟩,
 some ⟨.sl 28,1,24,.nilsl,true⟩,
 some ⟨.fn,1,8,.p .nilf,true⟩,
 some ⟨.int .i64,1,8,.p (.int .i64 0),true⟩,
 some ⟨.sl 24,1,24,.nilsl,true⟩,
 some ⟨.sl 5,1,24,.nilsl,true⟩,
 some ⟨.st [(0,24),(1,3),(2,3),(3,3),(4,25),(5,26),(6,26)],7,104,.agg [.p (.int .i64 0),.p (.int .i64 0),.p (.int .i64 0),.p (.int .i64 0),.nilsl,.nilsl,.nilsl],true⟩,
 some ⟨.st [(0,24),(1,3),(2,3),(3,3),(4,25),(5,26),(6,26)],7,104,.agg [.p (.int .i64 0),.p (.int .i64 0),.p (.int .i64 0),.p (.int .i64 0),.nilsl,.nilsl,.nilsl],true⟩,
 none,
 none,
 none,
 some ⟨.sl 35,1,24,.nilsl,true⟩,
 none,
 none,
 some ⟨.ar 3 3,3,24,.agg (pcells (zY 3 (.int .i64 0))),true⟩,
 none,
 none,
 some ⟨.sl 3,1,24,.nilsl,true⟩,
 none,
 none,
 none,
 some ⟨.int .u32,1,4,.p (.int .u32 0),true⟩,
 none,
 some ⟨.ptr 71,1,8,.p .nilp,true⟩,
 none,
 none,
 none,
 some ⟨.ptr 85,1,8,.p .nilp,true⟩,
 none,
 some ⟨.st [(0,9),(1,9),(2,9),(3,9),(4,3),(5,3),(6,3),(7,3)],8,96,.agg [.p (.str []),.p (.str []),.p (.str []),.p (.str []),.p (.int .i64 0),.p (.int .i64 0),.p (.int .i64 0),.p (.int .i64 0)],true⟩,
 some ⟨.st [(0,9),(1,9),(2,9),(3,9),(4,3),(5,3),(6,3),(7,3)],8,96,.agg [.p (.str []),.p (.str []),.p (.str []),.p (.str []),.p (.int .i64 0),.p (.int .i64 0),.p (.int .i64 0),.p (.int .i64 0)],true⟩,
 none,
 none,
 none,
 some ⟨.sl 9,1,24,.nilsl,true⟩,
 some ⟨.fn,1,8,.p .nilf,true⟩,
 none,
 none,
 none,
 none,
 some ⟨.st [(0,60),(0,42)],1,4,.agg [.p (.int .u32 0)],false⟩,
 some ⟨.st [(0,60),(0,42)],1,4,.agg [.p (.int .u32 0)],false⟩,
 some ⟨.st [(0,21),(1,42)],2,8,.agg [.p (.int .i32 0),.p (.int .u32 0)],true⟩,
 some ⟨.st [(0,21),(1,42)],2,8,.agg [.p (.int .i32 0),.p (.int .u32 0)],true⟩,
 some ⟨.st [(0,59),(0,64)],2,8,.agg [.p (.int .i32 0),.p (.int .u32 0)],false⟩,
 some ⟨.st [(0,59),(0,64)],2,8,.agg [.p (.int .i32 0),.p (.int .u32 0)],false⟩,
 some ⟨.st [(0,59),(0,62),(1,66)],3,12,.agg [.p (.int .u32 0),.p (.int .i32 0),.p (.int .u32 0)],false⟩,
 some ⟨.st [(0,59),(0,62),(1,66)],3,12,.agg [.p (.int .u32 0),.p (.int .i32 0),.p (.int .u32 0)],false⟩,
 some ⟨.sl 78,1,24,.nilsl,true⟩,
 some ⟨.st [(0,3),(1,68),(4,69)],5,48,.agg [.p (.int .i64 0),.p (.int .u32 0),.p (.int .i32 0),.p (.int .u32 0),.nilsl],true⟩,
 some ⟨.st [(0,3),(1,68),(4,69)],5,48,.agg [.p (.int .i64 0),.p (.int .u32 0),.p (.int .i32 0),.p (.int .u32 0),.nilsl],true⟩,
 none,
 none,
 some ⟨.st [(0,60),(0,73),(0,2)],1,8,.agg [.p (.int .i64 0)],false⟩,
 some ⟨.st [(0,60),(0,73),(0,2)],1,8,.agg [.p (.int .i64 0)],false⟩,
 some ⟨.st [(0,75),(1,75),(2,75)],3,24,.agg [.p (.int .i64 0),.p (.int .i64 0),.p (.int .i64 0)],true⟩,
 some ⟨.st [(0,75),(1,75),(2,75)],3,24,.agg [.p (.int .i64 0),.p (.int .i64 0),.p (.int .i64 0)],true⟩,
 some ⟨.ptr 77,1,8,.p .nilp,true⟩,
 none,
 none,
 none,
 none,
 some ⟨.sl 38,1,24,.nilsl,true⟩,
 some ⟨.st [(0,83)],1,24,.agg [.nilsl],true⟩,
 some ⟨.st [(0,83)],1,24,.agg [.nilsl],true⟩,
 none,
 some ⟨.int .u64,1,8,.p (.int .u64 0),true⟩,
 some ⟨.st [(0,4),(1,9),(2,3)],3,32,.agg [.p (.bool false),.p (.str []),.p (.int .i64 0)],true⟩,
 some ⟨.st [(0,4),(1,9),(2,3)],3,32,.agg [.p (.bool false),.p (.str []),.p (.int .i64 0)],true⟩,
 some ⟨.sl 92,1,24,.nilsl,true⟩,
 some ⟨.st [(0,3),(1,87),(2,89),(5,9),(6,55),(7,90),(8,24)],9,120,.agg [.p (.int .i64 0),.p (.int .u64 0),.p (.bool false),.p (.str []),.p (.int .i64 0),.p (.str []),.nilsl,.nilsl,.p (.int .i64 0)],true⟩,
 some ⟨.st [(0,3),(1,87),(2,89),(5,9),(6,55),(7,90),(8,24)],9,120,.agg [.p (.int .i64 0),.p (.int .u64 0),.p (.bool false),.p (.str []),.p (.int .i64 0),.p (.str []),.nilsl,.nilsl,.p (.int .i64 0)],true⟩,
 none,
 none,
 none,
 none,
 some ⟨.ptr 9,1,8,.p .nilp,true⟩,
 none,
 some ⟨.map 9 97,1,8,.dead,true⟩,
 none,
 some ⟨.ptr 51,1,8,.p .nilp,true⟩,
 some ⟨.ptr 3,1,8,.p .nilp,true⟩,
 none,
 some ⟨.map 9 102,1,8,.dead,true⟩,
 none,
 none,
 none,
 some ⟨.sl 269,1,24,.nilsl,true⟩,
 some ⟨.st [(0,55),(1,108),(2,9),(3,3),(4,3)],5,80,.agg [.nilsl,.nilsl,.p (.str []),.p (.int .i64 0),.p (.int .i64 0)],true⟩,
 some ⟨.st [(0,55),(1,108),(2,9),(3,3),(4,3)],5,80,.agg [.nilsl,.nilsl,.p (.str []),.p (.int .i64 0),.p (.int .i64 0)],true⟩,
 some ⟨.sl 287,1,24,.nilsl,true⟩,
 some ⟨.st [(0,110),(5,111),(6,87),(7,90)],8,136,.agg [.nilsl,.nilsl,.p (.str []),.p (.int .i64 0),.p (.int .i64 0),.nilsl,.p (.int .u64 0),.nilsl],true⟩,
 some ⟨.st [(0,110),(5,111),(6,87),(7,90)],8,136,.agg [.nilsl,.nilsl,.p (.str []),.p (.int .i64 0),.p (.int .i64 0),.nilsl,.p (.int .u64 0),.nilsl],true⟩,
 none,
 none,
 some ⟨.ptr 163,1,8,.p .nilp,true⟩,
 none,
 some ⟨.ptr 167,1,8,.p .nilp,true⟩,
 none,
 none,
 some ⟨.ptr 28,1,8,.p .nilp,true⟩,
 none,
 some ⟨.ptr 125,1,8,.p .nilp,true⟩,
 some ⟨.st [(0,123),(1,26)],2,32,.agg [.p .nilp,.nilsl],true⟩,
 some ⟨.st [(0,123),(1,26)],2,32,.agg [.p .nilp,.nilsl],true⟩,
 some ⟨.fn,1,8,.p .nilf,true⟩,
 none,
 none,
 none,
 none,
 none,
 some ⟨.int .u64,1,8,.p (.int .u64 0),true⟩,
 none,
 some ⟨.ptr 75,1,8,.p .nilp,true⟩,
 none,
 some ⟨.ptr 2,1,8,.p .nilp,true⟩,
 none,
 none,
 some ⟨.ptr 141,1,8,.p .nilp,true⟩,
 some ⟨.st [(0,9),(1,3),(2,4),(3,4),(4,4)],5,32,.agg [.p (.str []),.p (.int .i64 0),.p (.bool false),.p (.bool false),.p (.bool false)],true⟩,
 some ⟨.st [(0,9),(1,3),(2,4),(3,4),(4,4)],5,32,.agg [.p (.str []),.p (.int .i64 0),.p (.bool false),.p (.bool false),.p (.bool false)],true⟩,
 none,
 some ⟨.fn,1,8,.p .nilf,true⟩,
 none,
 some ⟨.ar 256 4,256,256,.agg (pcells (zY 256 (.bool false))),true⟩,
 some ⟨.ar 256 4,256,256,.agg (pcells (zY 256 (.bool false))),true⟩,
 none,
 none,
 none,
 some ⟨.ptr 146,1,8,.p .nilp,true⟩,
 some ⟨.fn,1,8,.p .nilf,true⟩,
 none,
 none,
 none,
 none,
 none,
 none,
 none,
 none,
 some ⟨.sl 1,1,24,.nilsl,true⟩,
 none,
 some ⟨.st [(0,26),(1,3),(2,3),(3,4)],4,48,.agg [.nilsl,.p (.int .i64 0),.p (.int .i64 0),.p (.bool false)],true⟩,
 some ⟨.st [(0,26),(1,3),(2,3),(3,4)],4,48,.agg [.nilsl,.p (.int .i64 0),.p (.int .i64 0),.p (.bool false)],true⟩,
 some ⟨.st [(0,116)],1,8,.agg [.p .nilp],true⟩,
 some ⟨.st [(0,116)],1,8,.agg [.p .nilp],true⟩,
 some ⟨.st [(0,165),(1,116),(2,24)],3,24,.agg [.p .nilp,.p .nilp,.p (.int .i64 0)],true⟩,
 some ⟨.st [(0,165),(1,116),(2,24)],3,24,.agg [.p .nilp,.p .nilp,.p (.int .i64 0)],true⟩,
 some ⟨.st [(0,90),(1,24),(2,3)],3,40,.agg [.nilsl,.p (.int .i64 0),.p (.int .i64 0)],true⟩,
 some ⟨.st [(0,90),(1,24),(2,3)],3,40,.agg [.nilsl,.p (.int .i64 0),.p (.int .i64 0)],true⟩,
 none,
 none,
 none,
 none,
 some ⟨.st [(0,3),(1,3),(2,3),(3,55)],4,48,.agg [.p (.int .i64 0),.p (.int .i64 0),.p (.int .i64 0),.nilsl],true⟩,
 some ⟨.st [(0,3),(1,3),(2,3),(3,55)],4,48,.agg [.p (.int .i64 0),.p (.int .i64 0),.p (.int .i64 0),.nilsl],true⟩,
 none,
 none,
 some ⟨.ptr 5,1,8,.p .nilp,true⟩,
 some ⟨.ptr 68,1,8,.p .nilp,true⟩,
 none,
 none,
 some ⟨.fn,1,8,.p .nilf,true⟩,
 none,
 none,
 none,
 some ⟨.ptr 92,1,8,.p .nilp,true⟩,
 some ⟨.fn,1,8,.p .nilf,true⟩,
 none,
 none,
 none,
 none,
 none,
 none,
 none,
 none,
 some ⟨.ptr 110,1,8,.p .nilp,true⟩,
 none,
 none,
 some ⟨.sl 275,1,24,.nilsl,true⟩,
 none,
 none,
 some ⟨.ptr 204,1,8,.p .nilp,true⟩,
 some ⟨.st [(0,199),(1,111),(2,3),(3,4)],4,64,.agg [.nilsl,.nilsl,.p (.int .i64 0),.p (.bool false)],true⟩,
 some ⟨.st [(0,199),(1,111),(2,3),(3,4)],4,64,.agg [.nilsl,.nilsl,.p (.int .i64 0),.p (.bool false)],true⟩,
 none,
 some ⟨.map 9 3,1,8,.dead,true⟩,
 none,
 none,
 some ⟨.sl 214,1,24,.nilsl,true⟩,
 none,
 none,
 none,
 some ⟨.st [(0,3),(1,9),(2,3)],3,32,.agg [.p (.int .i64 0),.p (.str []),.p (.int .i64 0)],true⟩,
 some ⟨.st [(0,3),(1,9),(2,3)],3,32,.agg [.p (.int .i64 0),.p (.str []),.p (.int .i64 0)],true⟩,
 some ⟨.ptr 217,1,8,.p .nilp,true⟩,
 some ⟨.st [(0,111),(1,3),(2,3),(3,3),(4,4),(5,87),(6,24)],7,72,.agg [.nilsl,.p (.int .i64 0),.p (.int .i64 0),.p (.int .i64 0),.p (.bool false),.p (.int .u64 0),.p (.int .i64 0)],true⟩,
 some ⟨.st [(0,111),(1,3),(2,3),(3,3),(4,4),(5,87),(6,24)],7,72,.agg [.nilsl,.p (.int .i64 0),.p (.int .i64 0),.p (.int .i64 0),.p (.bool false),.p (.int .u64 0),.p (.int .i64 0)],true⟩,
 none,
 none,
 some ⟨.fn,1,8,.p .nilf,true⟩,
 some ⟨.sl 209,1,24,.nilsl,true⟩,
 none,
 none,
 none,
 none,
 none,
 none,
 none,
 none,
 none,
 some ⟨.ar 24 5,24,24,.agg (pcells (zY 24 (.int .u8 0))),true⟩,
 none,
 none,
 none,
 none,
 none,
 none,
 none,
 some ⟨.ptr 62,1,8,.p .nilp,true⟩,
 none,
 some ⟨.ptr 42,1,8,.p .nilp,true⟩,
 none,
 none,
 none,
 none,
 none,
 none,
 none,
 none,
 none,
 none,
 none,
 some ⟨.int .i64,1,8,.p (.int .i64 0),true⟩,
 none,
 none,
 some ⟨.ptr 335,1,8,.p .nilp,true⟩,
 none,
 none,
 none,
 none,
 none,
 none,
 none,
 none,
 none,
 none,
 none,
 some ⟨.st [(0,209),(1,87)],2,32,.agg [.nilsl,.p (.int .u64 0)],true⟩,
 some ⟨.st [(0,209),(1,87)],2,32,.agg [.nilsl,.p (.int .u64 0)],true⟩,
 none,
 none,
 none,
 none,
 some ⟨.st [(0,3),(1,3),(2,9),(3,89)],6,64,.agg [.p (.int .i64 0),.p (.int .i64 0),.p (.str []),.p (.bool false),.p (.str []),.p (.int .i64 0)],true⟩,
 some ⟨.st [(0,3),(1,3),(2,9),(3,89)],6,64,.agg [.p (.int .i64 0),.p (.int .i64 0),.p (.str []),.p (.bool false),.p (.str []),.p (.int .i64 0)],true⟩,
 none,
 none,
 none,
 some ⟨.fn,1,8,.p .nilf,true⟩,
 none,
 none,
 none,
 none,
 some ⟨.ptr 299,1,8,.p .nilp,true⟩,
 some ⟨.fn,1,8,.p .nilf,true⟩,
 some ⟨.st [(0,3),(1,3),(2,9),(3,89),(6,55),(7,38)],8,112,.agg [.p (.int .i64 0),.p (.int .i64 0),.p (.str []),.p (.bool false),.p (.str []),.p (.int .i64 0),.nilsl,.nilsl],true⟩,
 some ⟨.st [(0,3),(1,3),(2,9),(3,89),(6,55),(7,38)],8,112,.agg [.p (.int .i64 0),.p (.int .i64 0),.p (.str []),.p (.bool false),.p (.str []),.p (.int .i64 0),.nilsl,.nilsl],true⟩,
 none,
 none,
 none,
 none,
 none,
 none,
 none,
 none,
 some ⟨.fn,1,8,.p .nilf,true⟩,
 none,
 some ⟨.st [(0,9),(1,92),(10,284)],11,144,.agg [.p (.str []),.p (.int .i64 0),.p (.int .u64 0),.p (.bool false),.p (.str []),.p (.int .i64 0),.p (.str []),.nilsl,.nilsl,.p (.int .i64 0),.p .nilp],true⟩,
 some ⟨.st [(0,9),(1,92),(10,284)],11,144,.agg [.p (.str []),.p (.int .i64 0),.p (.int .u64 0),.p (.bool false),.p (.str []),.p (.int .i64 0),.p (.str []),.nilsl,.nilsl,.p (.int .i64 0),.p .nilp],true⟩,
 none,
 none,
 none,
 some ⟨.fn,1,8,.p .nilf,true⟩,
 none,
 none,
 none,
 none,
 none,
 none,
 none,
 none,
 none,
 none,
 some ⟨.ar 20 87,20,160,.agg (pcells (zY 20 (.int .u64 0))),true⟩,
 some ⟨.ar 65 5,65,65,.agg (pcells (zY 65 (.int .u8 0))),true⟩,
 none,
 some ⟨.ptr 66,1,8,.p .nilp,true⟩,
 none,
 none,
 none,
 none,
 none,
 none,
 none,
 none,
 some ⟨.ar 256 5,256,256,.agg (pcells (zY 256 (.int .u8 0))),true⟩,
 some ⟨.st [(0,5),(1,5)],2,2,.agg [.p (.int .u8 0),.p (.int .u8 0)],true⟩,
 some ⟨.st [(0,5),(1,5)],2,2,.agg [.p (.int .u8 0),.p (.int .u8 0)],true⟩,
 some ⟨.ar 16 328,32,32,.agg (pcells (zY 32 (.int .u8 0))),true⟩,
 none,
 some ⟨.fn,1,8,.p .nilf,true⟩,
 none,
 none,
 some ⟨.st [(0,9),(1,9),(2,128)],3,48,.agg [.p (.str []),.p (.str []),.dead],false⟩,
 some ⟨.st [(0,9),(1,9),(2,128)],3,48,.agg [.p (.str []),.p (.str []),.dead],false⟩,
 none,
 none,
 none,
 none,
 none,
 none,
 none,
 none,
 none,
 none,
 none,
 some ⟨.sl 350,1,24,.nilsl,true⟩,
 none,
 some ⟨.st [(0,3),(1,4),(2,4),(3,55)],4,40,.agg [.p (.int .i64 0),.p (.bool false),.p (.bool false),.nilsl],true⟩,
 some ⟨.st [(0,3),(1,4),(2,4),(3,55)],4,40,.agg [.p (.int .i64 0),.p (.bool false),.p (.bool false),.nilsl],true⟩,
 none,
 none,
 none,
 some ⟨.fn,1,8,.p .nilf,true⟩,
 none,
 none,
 some ⟨.sl 4,1,24,.nilsl,true⟩,
 some ⟨.fn,1,8,.p .nilf,true⟩,
 none,
 none,
 none,
 none,
 none,
 some ⟨.st [(0,87)],1,8,.agg [.p (.int .u64 0)],true⟩,
 some ⟨.st [(0,87)],1,8,.agg [.p (.int .u64 0)],true⟩,
 none,
 none,
 none,
 none,
 none,
 some ⟨.fn,1,8,.p .nilf,true⟩,
 none,
 none,
 none,
 none,
 some ⟨.sl 55,1,24,.nilsl,true⟩,
 none,
 none,
 none,
 none,
 none,
 some ⟨.fn,1,8,.p .nilf,true⟩,
 none,
 none,
 none,
 none,
 none,
 none,
 none,
 some ⟨.ptr 64,1,8,.p .nilp,true⟩,
 none,
 some ⟨.ptr 21,1,8,.p .nilp,true⟩,
 none,
 none,
 none,
 none,
 none,
 none,
 none,
 some ⟨.ptr 402,1,8,.p .nilp,true⟩,
 some ⟨.st [(0,9)],1,16,.agg [.p (.str [])],true⟩,
 some ⟨.st [(0,9)],1,16,.agg [.p (.str [])],true⟩,
 none,
 none,
 none,
 none,
 none,
 none,
 some ⟨.fn,1,8,.p .nilf,true⟩,
 some ⟨.fn,1,8,.p .nilf,true⟩,
 none,
 some ⟨.ar 9 9,9,144,.agg (pcells (zY 9 (.str []))),true⟩,
 none,
 none,
 none,
 none,
 some ⟨.fn,1,8,.p .nilf,true⟩,
 none,
 some ⟨.fn,1,8,.p .nilf,true⟩,
 none,
 none,
 some ⟨.st [(0,92),(9,92),(18,87),(19,87)],20,256,.agg [.p (.int .i64 0),.p (.int .u64 0),.p (.bool false),.p (.str []),.p (.int .i64 0),.p (.str []),.nilsl,.nilsl,.p (.int .i64 0),.p (.int .i64 0),.p (.int .u64 0),.p (.bool false),.p (.str []),.p (.int .i64 0),.p (.str []),.nilsl,.nilsl,.p (.int .i64 0),.p (.int .u64 0),.p (.int .u64 0)],true⟩,
 some ⟨.st [(0,92),(9,92),(18,87),(19,87)],20,256,.agg [.p (.int .i64 0),.p (.int .u64 0),.p (.bool false),.p (.str []),.p (.int .i64 0),.p (.str []),.nilsl,.nilsl,.p (.int .i64 0),.p (.int .i64 0),.p (.int .u64 0),.p (.bool false),.p (.str []),.p (.int .i64 0),.p (.str []),.nilsl,.nilsl,.p (.int .i64 0),.p (.int .u64 0),.p (.int .u64 0)],true⟩,
 none,
 some ⟨.fn,1,8,.p .nilf,true⟩,
 none,
 some ⟨.fn,1,8,.p .nilf,true⟩,
 none,
 none,
 some ⟨.ptr 4,1,8,.p .nilp,true⟩,
 some ⟨.ar 32 5,32,32,.agg (pcells (zY 32 (.int .u8 0))),true⟩,
 some ⟨.ar 64 5,64,64,.agg (pcells (zY 64 (.int .u8 0))),true⟩,
 none,
 none,
 none,
 none,
 none,
 none,
 none,
 none,
 none,
 none,
 none,
 none,
 none,
 none,
 none,
 none,
 none,
 none,
 none,
 none,
 none,
 none,
 none,
 some ⟨.sl 87,1,24,.nilsl,true⟩,
 some ⟨.sl 87,1,24,.nilsl,true⟩,
 none,
 none,
 some ⟨.ptr 466,1,8,.p .nilp,true⟩,
 none,
 none,
 some ⟨.sl 490,1,24,.nilsl,true⟩,
 some ⟨.sl 490,1,24,.nilsl,true⟩,
 some ⟨.st [(0,464),(1,464),(2,26)],3,72,.agg [.nilsl,.nilsl,.nilsl],true⟩,
 some ⟨.st [(0,464),(1,464),(2,26)],3,72,.agg [.nilsl,.nilsl,.nilsl],true⟩,
 none,
 none,
 none,
 none,
 none,
 some ⟨.ptr 502,1,8,.p .nilp,true⟩,
 some ⟨.st [(0,3),(1,3)],2,16,.agg [.p (.int .i64 0),.p (.int .i64 0)],true⟩,
 some ⟨.st [(0,3),(1,3)],2,16,.agg [.p (.int .i64 0),.p (.int .i64 0)],true⟩,
 none,
 none,
 some ⟨.sl 21,1,24,.nilsl,true⟩,
 none,
 none,
 none,
 none,
 none,
 none,
 none,
 some ⟨.sl 90,1,24,.nilsl,true⟩,
 none,
 none,
 none,
 none,
 some ⟨.int .i8,1,1,.p (.int .i8 0),true⟩,
 none,
 none,
 some ⟨.int .i64,1,8,.p (.int .i64 0),true⟩,
 none,
 none,
 none,
 none,
 none,
 some ⟨.ptr 504,1,8,.p .nilp,true⟩,
 some ⟨.sl 509,1,24,.nilsl,true⟩,
 some ⟨.st [(0,500)],1,24,.agg [.nilsl],true⟩,
 some ⟨.st [(0,500)],1,24,.agg [.nilsl],true⟩,
 some ⟨.st [(0,472),(1,477),(2,3),(3,4)],4,48,.agg [.p .nilp,.nilsl,.p (.int .i64 0),.p (.bool false)],true⟩,
 some ⟨.st [(0,472),(1,477),(2,3),(3,4)],4,48,.agg [.p .nilp,.nilsl,.p (.int .i64 0),.p (.bool false)],true⟩,
 none,
 none,
 some ⟨.fn,1,8,.p .nilf,true⟩,
 some ⟨.st [(0,331),(1,507),(2,38)],3,40,.agg [.p .nilf,.p .nilf,.nilsl],true⟩,
 some ⟨.st [(0,331),(1,507),(2,38)],3,40,.agg [.p .nilf,.p .nilf,.nilsl],true⟩,
 some ⟨.fn,1,8,.p .nilf,true⟩,
 none,
 some ⟨.int .u64,1,8,.p (.int .u64 0),true⟩,
 none,
 none,
 none,
 none,
 none,
 some ⟨.ptr 512,1,8,.p .nilp,true⟩,
 none,
 none,
 none,
 none,
 none,
 none,
 some ⟨.sl 528,1,24,.nilsl,true⟩,
 none,
 some ⟨.st [(0,21),(1,21)],2,8,.agg [.p (.int .i32 0),.p (.int .i32 0)],true⟩,
 some ⟨.st [(0,21),(1,21)],2,8,.agg [.p (.int .i32 0),.p (.int .i32 0)],true⟩,
 none,
 none,
 some ⟨.fn,1,8,.p .nilf,true⟩,
 none,
 none,
 none,
 none,
 none,
 none,
 none,
 none,
 some ⟨.fn,1,8,.p .nilf,true⟩,
 none,
 none,
 none,
 none]
def T:Tab:=fun t=>(tbl[t]?).getD none
def qFP (P:Program):Nat→List (Option TI)→Prop
 | _,[]=>True
 | k,none::r=>qFP P (k+1) r
 | k,some ti::r=>qE P k=some ti∧qFP P (k+1) r
theorem vL {P:Program}:∀ {l:List (Option TI)} {k:Nat},qFP P k l→∀ {i:Nat} {ti:TI},l[i]?=some (some ti)→qE P (k+i)=some ti
 | [],_,_,i,ti,h=>by simp at h
 | none::r,k,hk,i,ti,h=>by
  cases i with
  | zero=>simp at h
  | succ i=>have:=vL (l:=r) (k:=k+1) hk (i:=i) (ti:=ti) (by simpa using h); rw [← this,show k+(i+1)=k+1+i from by omega]
 | some t0::r,k,hk,i,ti,h=>by
  cases i with
  | zero=>simp at h; subst h; exact hk.1
  | succ i=>have:=vL (l:=r) (k:=k+1) hk.2 (i:=i) (ti:=ti) (by simpa using h); rw [← this,show k+(i+1)=k+1+i from by omega]
theorem ti1:qE Tryz.prog 1=some ⟨.fn,1,8,.p .nilf,true⟩:=by kernel_rfl
theorem ti2:qE Tryz.prog 2=some ⟨.int .i64,1,8,.p (.int .i64 0),true⟩:=by kernel_rfl
theorem ti3:qE Tryz.prog 3=some ⟨.int .i64,1,8,.p (.int .i64 0),true⟩:=by kernel_rfl
theorem ti4:qE Tryz.prog 4=some ⟨.bool,1,1,.p (.bool false),true⟩:=by kernel_rfl
theorem ti5:qE Tryz.prog 5=some ⟨.int .u8,1,1,.p (.int .u8 0),true⟩:=by kernel_rfl
theorem ti9:qE Tryz.prog 9=some ⟨.str,1,16,.p (.str []),true⟩:=by kernel_rfl
theorem qUH:qE Tryz.prog 12=some ⟨.int .u64,1,8,.p (.int .u64 0),true⟩:=by kernel_rfl
theorem qUG:qE Tryz.prog 21=some ⟨.int .i32,1,4,.p (.int .i32 0),true⟩:=by kernel_rfl
theorem qUF:qE Tryz.prog 22=some ⟨.sl 28,1,24,.nilsl,true⟩:=by kernel_rfl
theorem qUE:qE Tryz.prog 23=some ⟨.fn,1,8,.p .nilf,true⟩:=by kernel_rfl
theorem qUD:qE Tryz.prog 24=some ⟨.int .i64,1,8,.p (.int .i64 0),true⟩:=by kernel_rfl
theorem qUC:qE Tryz.prog 25=some ⟨.sl 24,1,24,.nilsl,true⟩:=by kernel_rfl
theorem qUB:qE Tryz.prog 26=some ⟨.sl 5,1,24,.nilsl,true⟩:=by kernel_rfl
theorem qUA:qE Tryz.prog 27=some ⟨.st [(0,24),(1,3),(2,3),(3,3),(4,25),(5,26),(6,26)],7,104,.agg [.p (.int .i64 0),.p (.int .i64 0),.p (.int .i64 0),.p (.int .i64 0),.nilsl,.nilsl,.nilsl],true⟩:=by kernel_rfl
theorem qTZ:qE Tryz.prog 28=some ⟨.st [(0,24),(1,3),(2,3),(3,3),(4,25),(5,26),(6,26)],7,104,.agg [.p (.int .i64 0),.p (.int .i64 0),.p (.int .i64 0),.p (.int .i64 0),.nilsl,.nilsl,.nilsl],true⟩:=by kernel_rfl
theorem qTY:qE Tryz.prog 32=some ⟨.sl 35,1,24,.nilsl,true⟩:=by kernel_rfl
theorem qTX:qE Tryz.prog 35=some ⟨.ar 3 3,3,24,.agg (pcells (zY 3 (.int .i64 0))),true⟩:=by kernel_rfl
theorem qTW:qE Tryz.prog 38=some ⟨.sl 3,1,24,.nilsl,true⟩:=by kernel_rfl
theorem qTV:qE Tryz.prog 42=some ⟨.int .u32,1,4,.p (.int .u32 0),true⟩:=by kernel_rfl
theorem qTU:qE Tryz.prog 44=some ⟨.ptr 71,1,8,.p .nilp,true⟩:=by kernel_rfl
theorem qTT:qE Tryz.prog 48=some ⟨.ptr 85,1,8,.p .nilp,true⟩:=by kernel_rfl
theorem qTS:qE Tryz.prog 50=some ⟨.st [(0,9),(1,9),(2,9),(3,9),(4,3),(5,3),(6,3),(7,3)],8,96,.agg [.p (.str []),.p (.str []),.p (.str []),.p (.str []),.p (.int .i64 0),.p (.int .i64 0),.p (.int .i64 0),.p (.int .i64 0)],true⟩:=by kernel_rfl
theorem qTR:qE Tryz.prog 51=some ⟨.st [(0,9),(1,9),(2,9),(3,9),(4,3),(5,3),(6,3),(7,3)],8,96,.agg [.p (.str []),.p (.str []),.p (.str []),.p (.str []),.p (.int .i64 0),.p (.int .i64 0),.p (.int .i64 0),.p (.int .i64 0)],true⟩:=by kernel_rfl
theorem qTQ:qE Tryz.prog 55=some ⟨.sl 9,1,24,.nilsl,true⟩:=by kernel_rfl
theorem qTP:qE Tryz.prog 56=some ⟨.fn,1,8,.p .nilf,true⟩:=by kernel_rfl
theorem qTO:qE Tryz.prog 61=some ⟨.st [(0,60),(0,42)],1,4,.agg [.p (.int .u32 0)],false⟩:=by kernel_rfl
theorem qTN:qE Tryz.prog 62=some ⟨.st [(0,60),(0,42)],1,4,.agg [.p (.int .u32 0)],false⟩:=by kernel_rfl
theorem qTM:qE Tryz.prog 63=some ⟨.st [(0,21),(1,42)],2,8,.agg [.p (.int .i32 0),.p (.int .u32 0)],true⟩:=by kernel_rfl
theorem qTL:qE Tryz.prog 64=some ⟨.st [(0,21),(1,42)],2,8,.agg [.p (.int .i32 0),.p (.int .u32 0)],true⟩:=by kernel_rfl
theorem qTK:qE Tryz.prog 65=some ⟨.st [(0,59),(0,64)],2,8,.agg [.p (.int .i32 0),.p (.int .u32 0)],false⟩:=by kernel_rfl
theorem qTJ:qE Tryz.prog 66=some ⟨.st [(0,59),(0,64)],2,8,.agg [.p (.int .i32 0),.p (.int .u32 0)],false⟩:=by kernel_rfl
theorem qTI:qE Tryz.prog 67=some ⟨.st [(0,59),(0,62),(1,66)],3,12,.agg [.p (.int .u32 0),.p (.int .i32 0),.p (.int .u32 0)],false⟩:=by kernel_rfl
theorem qTH:qE Tryz.prog 68=some ⟨.st [(0,59),(0,62),(1,66)],3,12,.agg [.p (.int .u32 0),.p (.int .i32 0),.p (.int .u32 0)],false⟩:=by kernel_rfl
theorem qTG:qE Tryz.prog 69=some ⟨.sl 78,1,24,.nilsl,true⟩:=by kernel_rfl
theorem qTF:qE Tryz.prog 70=some ⟨.st [(0,3),(1,68),(4,69)],5,48,.agg [.p (.int .i64 0),.p (.int .u32 0),.p (.int .i32 0),.p (.int .u32 0),.nilsl],true⟩:=by kernel_rfl
theorem qTE:qE Tryz.prog 71=some ⟨.st [(0,3),(1,68),(4,69)],5,48,.agg [.p (.int .i64 0),.p (.int .u32 0),.p (.int .i32 0),.p (.int .u32 0),.nilsl],true⟩:=by kernel_rfl
theorem qTD:qE Tryz.prog 74=some ⟨.st [(0,60),(0,73),(0,2)],1,8,.agg [.p (.int .i64 0)],false⟩:=by kernel_rfl
theorem qTC:qE Tryz.prog 75=some ⟨.st [(0,60),(0,73),(0,2)],1,8,.agg [.p (.int .i64 0)],false⟩:=by kernel_rfl
theorem qTB:qE Tryz.prog 76=some ⟨.st [(0,75),(1,75),(2,75)],3,24,.agg [.p (.int .i64 0),.p (.int .i64 0),.p (.int .i64 0)],true⟩:=by kernel_rfl
theorem qTA:qE Tryz.prog 77=some ⟨.st [(0,75),(1,75),(2,75)],3,24,.agg [.p (.int .i64 0),.p (.int .i64 0),.p (.int .i64 0)],true⟩:=by kernel_rfl
theorem qSZ:qE Tryz.prog 78=some ⟨.ptr 77,1,8,.p .nilp,true⟩:=by kernel_rfl
theorem qSY:qE Tryz.prog 83=some ⟨.sl 38,1,24,.nilsl,true⟩:=by kernel_rfl
theorem qSX:qE Tryz.prog 84=some ⟨.st [(0,83)],1,24,.agg [.nilsl],true⟩:=by kernel_rfl
theorem qSW:qE Tryz.prog 85=some ⟨.st [(0,83)],1,24,.agg [.nilsl],true⟩:=by kernel_rfl
theorem qSV:qE Tryz.prog 87=some ⟨.int .u64,1,8,.p (.int .u64 0),true⟩:=by kernel_rfl
theorem qSU:qE Tryz.prog 88=some ⟨.st [(0,4),(1,9),(2,3)],3,32,.agg [.p (.bool false),.p (.str []),.p (.int .i64 0)],true⟩:=by kernel_rfl
theorem qST:qE Tryz.prog 89=some ⟨.st [(0,4),(1,9),(2,3)],3,32,.agg [.p (.bool false),.p (.str []),.p (.int .i64 0)],true⟩:=by kernel_rfl
theorem qSS:qE Tryz.prog 90=some ⟨.sl 92,1,24,.nilsl,true⟩:=by kernel_rfl
theorem qSR:qE Tryz.prog 91=some ⟨.st [(0,3),(1,87),(2,89),(5,9),(6,55),(7,90),(8,24)],9,120,.agg [.p (.int .i64 0),.p (.int .u64 0),.p (.bool false),.p (.str []),.p (.int .i64 0),.p (.str []),.nilsl,.nilsl,.p (.int .i64 0)],true⟩:=by kernel_rfl
theorem qSQ:qE Tryz.prog 92=some ⟨.st [(0,3),(1,87),(2,89),(5,9),(6,55),(7,90),(8,24)],9,120,.agg [.p (.int .i64 0),.p (.int .u64 0),.p (.bool false),.p (.str []),.p (.int .i64 0),.p (.str []),.nilsl,.nilsl,.p (.int .i64 0)],true⟩:=by kernel_rfl
theorem qSP:qE Tryz.prog 97=some ⟨.ptr 9,1,8,.p .nilp,true⟩:=by kernel_rfl
theorem qSO:qE Tryz.prog 99=some ⟨.map 9 97,1,8,.dead,true⟩:=by kernel_rfl
theorem qSB:qE Tryz.prog 101=some ⟨.ptr 51,1,8,.p .nilp,true⟩:=by kernel_rfl
theorem qSA:qE Tryz.prog 102=some ⟨.ptr 3,1,8,.p .nilp,true⟩:=by kernel_rfl
theorem qRZ:qE Tryz.prog 104=some ⟨.map 9 102,1,8,.dead,true⟩:=by kernel_rfl
theorem qRY:qE Tryz.prog 108=some ⟨.sl 269,1,24,.nilsl,true⟩:=by kernel_rfl
theorem qRX:qE Tryz.prog 109=some ⟨.st [(0,55),(1,108),(2,9),(3,3),(4,3)],5,80,.agg [.nilsl,.nilsl,.p (.str []),.p (.int .i64 0),.p (.int .i64 0)],true⟩:=by kernel_rfl
theorem qRW:qE Tryz.prog 110=some ⟨.st [(0,55),(1,108),(2,9),(3,3),(4,3)],5,80,.agg [.nilsl,.nilsl,.p (.str []),.p (.int .i64 0),.p (.int .i64 0)],true⟩:=by kernel_rfl
theorem qRV:qE Tryz.prog 111=some ⟨.sl 287,1,24,.nilsl,true⟩:=by kernel_rfl
theorem qRU:qE Tryz.prog 112=some ⟨.st [(0,110),(5,111),(6,87),(7,90)],8,136,.agg [.nilsl,.nilsl,.p (.str []),.p (.int .i64 0),.p (.int .i64 0),.nilsl,.p (.int .u64 0),.nilsl],true⟩:=by kernel_rfl
theorem qRT:qE Tryz.prog 113=some ⟨.st [(0,110),(5,111),(6,87),(7,90)],8,136,.agg [.nilsl,.nilsl,.p (.str []),.p (.int .i64 0),.p (.int .i64 0),.nilsl,.p (.int .u64 0),.nilsl],true⟩:=by kernel_rfl
theorem qRS:qE Tryz.prog 116=some ⟨.ptr 163,1,8,.p .nilp,true⟩:=by kernel_rfl
theorem qRR:qE Tryz.prog 118=some ⟨.ptr 167,1,8,.p .nilp,true⟩:=by kernel_rfl
theorem qRQ:qE Tryz.prog 121=some ⟨.ptr 28,1,8,.p .nilp,true⟩:=by kernel_rfl
theorem qRP:qE Tryz.prog 123=some ⟨.ptr 125,1,8,.p .nilp,true⟩:=by kernel_rfl
theorem qRO:qE Tryz.prog 124=some ⟨.st [(0,123),(1,26)],2,32,.agg [.p .nilp,.nilsl],true⟩:=by kernel_rfl
theorem qRN:qE Tryz.prog 125=some ⟨.st [(0,123),(1,26)],2,32,.agg [.p .nilp,.nilsl],true⟩:=by kernel_rfl
theorem qRM:qE Tryz.prog 126=some ⟨.fn,1,8,.p .nilf,true⟩:=by kernel_rfl
theorem qRL:qE Tryz.prog 132=some ⟨.int .u64,1,8,.p (.int .u64 0),true⟩:=by kernel_rfl
theorem qRK:qE Tryz.prog 134=some ⟨.ptr 75,1,8,.p .nilp,true⟩:=by kernel_rfl
theorem qRJ:qE Tryz.prog 136=some ⟨.ptr 2,1,8,.p .nilp,true⟩:=by kernel_rfl
theorem qRI:qE Tryz.prog 139=some ⟨.ptr 141,1,8,.p .nilp,true⟩:=by kernel_rfl
theorem qRH:qE Tryz.prog 140=some ⟨.st [(0,9),(1,3),(2,4),(3,4),(4,4)],5,32,.agg [.p (.str []),.p (.int .i64 0),.p (.bool false),.p (.bool false),.p (.bool false)],true⟩:=by kernel_rfl
theorem qRG:qE Tryz.prog 141=some ⟨.st [(0,9),(1,3),(2,4),(3,4),(4,4)],5,32,.agg [.p (.str []),.p (.int .i64 0),.p (.bool false),.p (.bool false),.p (.bool false)],true⟩:=by kernel_rfl
theorem qRF:qE Tryz.prog 143=some ⟨.fn,1,8,.p .nilf,true⟩:=by kernel_rfl
theorem qRE:qE Tryz.prog 145=some ⟨.ar 256 4,256,256,.agg (pcells (zY 256 (.bool false))),true⟩:=by kernel_rfl
theorem qRD:qE Tryz.prog 146=some ⟨.ar 256 4,256,256,.agg (pcells (zY 256 (.bool false))),true⟩:=by kernel_rfl
theorem qRC:qE Tryz.prog 150=some ⟨.ptr 146,1,8,.p .nilp,true⟩:=by kernel_rfl
theorem qRB:qE Tryz.prog 151=some ⟨.fn,1,8,.p .nilf,true⟩:=by kernel_rfl
theorem qRA:qE Tryz.prog 160=some ⟨.sl 1,1,24,.nilsl,true⟩:=by kernel_rfl
theorem qQZ:qE Tryz.prog 162=some ⟨.st [(0,26),(1,3),(2,3),(3,4)],4,48,.agg [.nilsl,.p (.int .i64 0),.p (.int .i64 0),.p (.bool false)],true⟩:=by kernel_rfl
theorem qQY:qE Tryz.prog 163=some ⟨.st [(0,26),(1,3),(2,3),(3,4)],4,48,.agg [.nilsl,.p (.int .i64 0),.p (.int .i64 0),.p (.bool false)],true⟩:=by kernel_rfl
theorem qQX:qE Tryz.prog 164=some ⟨.st [(0,116)],1,8,.agg [.p .nilp],true⟩:=by kernel_rfl
theorem qQW:qE Tryz.prog 165=some ⟨.st [(0,116)],1,8,.agg [.p .nilp],true⟩:=by kernel_rfl
theorem qQV:qE Tryz.prog 166=some ⟨.st [(0,165),(1,116),(2,24)],3,24,.agg [.p .nilp,.p .nilp,.p (.int .i64 0)],true⟩:=by kernel_rfl
theorem qQU:qE Tryz.prog 167=some ⟨.st [(0,165),(1,116),(2,24)],3,24,.agg [.p .nilp,.p .nilp,.p (.int .i64 0)],true⟩:=by kernel_rfl
theorem qQT:qE Tryz.prog 168=some ⟨.st [(0,90),(1,24),(2,3)],3,40,.agg [.nilsl,.p (.int .i64 0),.p (.int .i64 0)],true⟩:=by kernel_rfl
theorem qQS:qE Tryz.prog 169=some ⟨.st [(0,90),(1,24),(2,3)],3,40,.agg [.nilsl,.p (.int .i64 0),.p (.int .i64 0)],true⟩:=by kernel_rfl
theorem qQR:qE Tryz.prog 174=some ⟨.st [(0,3),(1,3),(2,3),(3,55)],4,48,.agg [.p (.int .i64 0),.p (.int .i64 0),.p (.int .i64 0),.nilsl],true⟩:=by kernel_rfl
theorem qQQ:qE Tryz.prog 175=some ⟨.st [(0,3),(1,3),(2,3),(3,55)],4,48,.agg [.p (.int .i64 0),.p (.int .i64 0),.p (.int .i64 0),.nilsl],true⟩:=by kernel_rfl
theorem qQP:qE Tryz.prog 178=some ⟨.ptr 5,1,8,.p .nilp,true⟩:=by kernel_rfl
theorem qQO:qE Tryz.prog 179=some ⟨.ptr 68,1,8,.p .nilp,true⟩:=by kernel_rfl
theorem qQN:qE Tryz.prog 182=some ⟨.fn,1,8,.p .nilf,true⟩:=by kernel_rfl
theorem qQM:qE Tryz.prog 186=some ⟨.ptr 92,1,8,.p .nilp,true⟩:=by kernel_rfl
theorem qQL:qE Tryz.prog 187=some ⟨.fn,1,8,.p .nilf,true⟩:=by kernel_rfl
theorem qQK:qE Tryz.prog 196=some ⟨.ptr 110,1,8,.p .nilp,true⟩:=by kernel_rfl
theorem qQJ:qE Tryz.prog 199=some ⟨.sl 275,1,24,.nilsl,true⟩:=by kernel_rfl
theorem qQI:qE Tryz.prog 202=some ⟨.ptr 204,1,8,.p .nilp,true⟩:=by kernel_rfl
theorem qQH:qE Tryz.prog 203=some ⟨.st [(0,199),(1,111),(2,3),(3,4)],4,64,.agg [.nilsl,.nilsl,.p (.int .i64 0),.p (.bool false)],true⟩:=by kernel_rfl
theorem qQG:qE Tryz.prog 204=some ⟨.st [(0,199),(1,111),(2,3),(3,4)],4,64,.agg [.nilsl,.nilsl,.p (.int .i64 0),.p (.bool false)],true⟩:=by kernel_rfl
theorem qQF:qE Tryz.prog 206=some ⟨.map 9 3,1,8,.dead,true⟩:=by kernel_rfl
theorem qQE:qE Tryz.prog 209=some ⟨.sl 214,1,24,.nilsl,true⟩:=by kernel_rfl
theorem qQD:qE Tryz.prog 213=some ⟨.st [(0,3),(1,9),(2,3)],3,32,.agg [.p (.int .i64 0),.p (.str []),.p (.int .i64 0)],true⟩:=by kernel_rfl
theorem qQC:qE Tryz.prog 214=some ⟨.st [(0,3),(1,9),(2,3)],3,32,.agg [.p (.int .i64 0),.p (.str []),.p (.int .i64 0)],true⟩:=by kernel_rfl
theorem qQB:qE Tryz.prog 215=some ⟨.ptr 217,1,8,.p .nilp,true⟩:=by kernel_rfl
theorem qQA:qE Tryz.prog 216=some ⟨.st [(0,111),(1,3),(2,3),(3,3),(4,4),(5,87),(6,24)],7,72,.agg [.nilsl,.p (.int .i64 0),.p (.int .i64 0),.p (.int .i64 0),.p (.bool false),.p (.int .u64 0),.p (.int .i64 0)],true⟩:=by kernel_rfl
theorem qPZ:qE Tryz.prog 217=some ⟨.st [(0,111),(1,3),(2,3),(3,3),(4,4),(5,87),(6,24)],7,72,.agg [.nilsl,.p (.int .i64 0),.p (.int .i64 0),.p (.int .i64 0),.p (.bool false),.p (.int .u64 0),.p (.int .i64 0)],true⟩:=by kernel_rfl
theorem qPY:qE Tryz.prog 220=some ⟨.fn,1,8,.p .nilf,true⟩:=by kernel_rfl
theorem qPX:qE Tryz.prog 221=some ⟨.sl 209,1,24,.nilsl,true⟩:=by kernel_rfl
theorem qPW:qE Tryz.prog 231=some ⟨.ar 24 5,24,24,.agg (pcells (zY 24 (.int .u8 0))),true⟩:=by kernel_rfl
theorem qPV:qE Tryz.prog 239=some ⟨.ptr 62,1,8,.p .nilp,true⟩:=by kernel_rfl
theorem qPU:qE Tryz.prog 241=some ⟨.ptr 42,1,8,.p .nilp,true⟩:=by kernel_rfl
theorem qPT:qE Tryz.prog 253=some ⟨.int .i64,1,8,.p (.int .i64 0),true⟩:=by kernel_rfl
theorem qPS:qE Tryz.prog 256=some ⟨.ptr 335,1,8,.p .nilp,true⟩:=by kernel_rfl
theorem qPR:qE Tryz.prog 268=some ⟨.st [(0,209),(1,87)],2,32,.agg [.nilsl,.p (.int .u64 0)],true⟩:=by kernel_rfl
theorem qPQ:qE Tryz.prog 269=some ⟨.st [(0,209),(1,87)],2,32,.agg [.nilsl,.p (.int .u64 0)],true⟩:=by kernel_rfl
theorem qPP:qE Tryz.prog 274=some ⟨.st [(0,3),(1,3),(2,9),(3,89)],6,64,.agg [.p (.int .i64 0),.p (.int .i64 0),.p (.str []),.p (.bool false),.p (.str []),.p (.int .i64 0)],true⟩:=by kernel_rfl
theorem qPO:qE Tryz.prog 275=some ⟨.st [(0,3),(1,3),(2,9),(3,89)],6,64,.agg [.p (.int .i64 0),.p (.int .i64 0),.p (.str []),.p (.bool false),.p (.str []),.p (.int .i64 0)],true⟩:=by kernel_rfl
theorem qPN:qE Tryz.prog 279=some ⟨.fn,1,8,.p .nilf,true⟩:=by kernel_rfl
theorem qPM:qE Tryz.prog 284=some ⟨.ptr 299,1,8,.p .nilp,true⟩:=by kernel_rfl
theorem qPL:qE Tryz.prog 285=some ⟨.fn,1,8,.p .nilf,true⟩:=by kernel_rfl
theorem qPK:qE Tryz.prog 286=some ⟨.st [(0,3),(1,3),(2,9),(3,89),(6,55),(7,38)],8,112,.agg [.p (.int .i64 0),.p (.int .i64 0),.p (.str []),.p (.bool false),.p (.str []),.p (.int .i64 0),.nilsl,.nilsl],true⟩:=by kernel_rfl
theorem qPJ:qE Tryz.prog 287=some ⟨.st [(0,3),(1,3),(2,9),(3,89),(6,55),(7,38)],8,112,.agg [.p (.int .i64 0),.p (.int .i64 0),.p (.str []),.p (.bool false),.p (.str []),.p (.int .i64 0),.nilsl,.nilsl],true⟩:=by kernel_rfl
theorem qPI:qE Tryz.prog 296=some ⟨.fn,1,8,.p .nilf,true⟩:=by kernel_rfl
theorem qPH:qE Tryz.prog 298=some ⟨.st [(0,9),(1,92),(10,284)],11,144,.agg [.p (.str []),.p (.int .i64 0),.p (.int .u64 0),.p (.bool false),.p (.str []),.p (.int .i64 0),.p (.str []),.nilsl,.nilsl,.p (.int .i64 0),.p .nilp],true⟩:=by kernel_rfl
theorem qPG:qE Tryz.prog 299=some ⟨.st [(0,9),(1,92),(10,284)],11,144,.agg [.p (.str []),.p (.int .i64 0),.p (.int .u64 0),.p (.bool false),.p (.str []),.p (.int .i64 0),.p (.str []),.nilsl,.nilsl,.p (.int .i64 0),.p .nilp],true⟩:=by kernel_rfl
theorem qPF:qE Tryz.prog 303=some ⟨.fn,1,8,.p .nilf,true⟩:=by kernel_rfl
theorem qPE:qE Tryz.prog 314=some ⟨.ar 20 87,20,160,.agg (pcells (zY 20 (.int .u64 0))),true⟩:=by kernel_rfl
theorem qPD:qE Tryz.prog 315=some ⟨.ar 65 5,65,65,.agg (pcells (zY 65 (.int .u8 0))),true⟩:=by kernel_rfl
theorem qPC:qE Tryz.prog 317=some ⟨.ptr 66,1,8,.p .nilp,true⟩:=by kernel_rfl
theorem qPB:qE Tryz.prog 326=some ⟨.ar 256 5,256,256,.agg (pcells (zY 256 (.int .u8 0))),true⟩:=by kernel_rfl
theorem qPA:qE Tryz.prog 327=some ⟨.st [(0,5),(1,5)],2,2,.agg [.p (.int .u8 0),.p (.int .u8 0)],true⟩:=by kernel_rfl
theorem qOZ:qE Tryz.prog 328=some ⟨.st [(0,5),(1,5)],2,2,.agg [.p (.int .u8 0),.p (.int .u8 0)],true⟩:=by kernel_rfl
theorem qOY:qE Tryz.prog 329=some ⟨.ar 16 328,32,32,.agg (pcells (zY 32 (.int .u8 0))),true⟩:=by kernel_rfl
theorem qOX:qE Tryz.prog 331=some ⟨.fn,1,8,.p .nilf,true⟩:=by kernel_rfl
theorem qOW:qE Tryz.prog 334=some ⟨.st [(0,9),(1,9),(2,128)],3,48,.agg [.p (.str []),.p (.str []),.dead],false⟩:=by kernel_rfl
theorem qOV:qE Tryz.prog 335=some ⟨.st [(0,9),(1,9),(2,128)],3,48,.agg [.p (.str []),.p (.str []),.dead],false⟩:=by kernel_rfl
theorem qOU:qE Tryz.prog 347=some ⟨.sl 350,1,24,.nilsl,true⟩:=by kernel_rfl
theorem qOT:qE Tryz.prog 349=some ⟨.st [(0,3),(1,4),(2,4),(3,55)],4,40,.agg [.p (.int .i64 0),.p (.bool false),.p (.bool false),.nilsl],true⟩:=by kernel_rfl
theorem qOS:qE Tryz.prog 350=some ⟨.st [(0,3),(1,4),(2,4),(3,55)],4,40,.agg [.p (.int .i64 0),.p (.bool false),.p (.bool false),.nilsl],true⟩:=by kernel_rfl
theorem qOR:qE Tryz.prog 354=some ⟨.fn,1,8,.p .nilf,true⟩:=by kernel_rfl
theorem qOQ:qE Tryz.prog 357=some ⟨.sl 4,1,24,.nilsl,true⟩:=by kernel_rfl
theorem qOP:qE Tryz.prog 358=some ⟨.fn,1,8,.p .nilf,true⟩:=by kernel_rfl
theorem qOO:qE Tryz.prog 364=some ⟨.st [(0,87)],1,8,.agg [.p (.int .u64 0)],true⟩:=by kernel_rfl
theorem qON:qE Tryz.prog 365=some ⟨.st [(0,87)],1,8,.agg [.p (.int .u64 0)],true⟩:=by kernel_rfl
theorem qOM:qE Tryz.prog 371=some ⟨.fn,1,8,.p .nilf,true⟩:=by kernel_rfl
theorem qOL:qE Tryz.prog 376=some ⟨.sl 55,1,24,.nilsl,true⟩:=by kernel_rfl
theorem qOK:qE Tryz.prog 382=some ⟨.fn,1,8,.p .nilf,true⟩:=by kernel_rfl
theorem qOJ:qE Tryz.prog 390=some ⟨.ptr 64,1,8,.p .nilp,true⟩:=by kernel_rfl
theorem qOI:qE Tryz.prog 392=some ⟨.ptr 21,1,8,.p .nilp,true⟩:=by kernel_rfl
theorem qOH:qE Tryz.prog 400=some ⟨.ptr 402,1,8,.p .nilp,true⟩:=by kernel_rfl
theorem qOG:qE Tryz.prog 401=some ⟨.st [(0,9)],1,16,.agg [.p (.str [])],true⟩:=by kernel_rfl
theorem qOF:qE Tryz.prog 402=some ⟨.st [(0,9)],1,16,.agg [.p (.str [])],true⟩:=by kernel_rfl
theorem qOE:qE Tryz.prog 409=some ⟨.fn,1,8,.p .nilf,true⟩:=by kernel_rfl
theorem qOD:qE Tryz.prog 410=some ⟨.fn,1,8,.p .nilf,true⟩:=by kernel_rfl
theorem qOC:qE Tryz.prog 412=some ⟨.ar 9 9,9,144,.agg (pcells (zY 9 (.str []))),true⟩:=by kernel_rfl
theorem qOB:qE Tryz.prog 417=some ⟨.fn,1,8,.p .nilf,true⟩:=by kernel_rfl
theorem qOA:qE Tryz.prog 419=some ⟨.fn,1,8,.p .nilf,true⟩:=by kernel_rfl
theorem qNZ:qE Tryz.prog 422=some ⟨.st [(0,92),(9,92),(18,87),(19,87)],20,256,.agg [.p (.int .i64 0),.p (.int .u64 0),.p (.bool false),.p (.str []),.p (.int .i64 0),.p (.str []),.nilsl,.nilsl,.p (.int .i64 0),.p (.int .i64 0),.p (.int .u64 0),.p (.bool false),.p (.str []),.p (.int .i64 0),.p (.str []),.nilsl,.nilsl,.p (.int .i64 0),.p (.int .u64 0),.p (.int .u64 0)],true⟩:=by kernel_rfl
theorem qNY:qE Tryz.prog 423=some ⟨.st [(0,92),(9,92),(18,87),(19,87)],20,256,.agg [.p (.int .i64 0),.p (.int .u64 0),.p (.bool false),.p (.str []),.p (.int .i64 0),.p (.str []),.nilsl,.nilsl,.p (.int .i64 0),.p (.int .i64 0),.p (.int .u64 0),.p (.bool false),.p (.str []),.p (.int .i64 0),.p (.str []),.nilsl,.nilsl,.p (.int .i64 0),.p (.int .u64 0),.p (.int .u64 0)],true⟩:=by kernel_rfl
theorem qNX:qE Tryz.prog 425=some ⟨.fn,1,8,.p .nilf,true⟩:=by kernel_rfl
theorem qNW:qE Tryz.prog 427=some ⟨.fn,1,8,.p .nilf,true⟩:=by kernel_rfl
theorem qNV:qE Tryz.prog 430=some ⟨.ptr 4,1,8,.p .nilp,true⟩:=by kernel_rfl
theorem qNU:qE Tryz.prog 431=some ⟨.ar 32 5,32,32,.agg (pcells (zY 32 (.int .u8 0))),true⟩:=by kernel_rfl
theorem qNT:qE Tryz.prog 432=some ⟨.ar 64 5,64,64,.agg (pcells (zY 64 (.int .u8 0))),true⟩:=by kernel_rfl
theorem qNS:qE Tryz.prog 456=some ⟨.sl 87,1,24,.nilsl,true⟩:=by kernel_rfl
theorem qNR:qE Tryz.prog 457=some ⟨.sl 87,1,24,.nilsl,true⟩:=by kernel_rfl
theorem qNQ:qE Tryz.prog 460=some ⟨.ptr 466,1,8,.p .nilp,true⟩:=by kernel_rfl
theorem qNP:qE Tryz.prog 463=some ⟨.sl 490,1,24,.nilsl,true⟩:=by kernel_rfl
theorem qNO:qE Tryz.prog 464=some ⟨.sl 490,1,24,.nilsl,true⟩:=by kernel_rfl
theorem qNN:qE Tryz.prog 465=some ⟨.st [(0,464),(1,464),(2,26)],3,72,.agg [.nilsl,.nilsl,.nilsl],true⟩:=by kernel_rfl
theorem qNM:qE Tryz.prog 466=some ⟨.st [(0,464),(1,464),(2,26)],3,72,.agg [.nilsl,.nilsl,.nilsl],true⟩:=by kernel_rfl
theorem qNL:qE Tryz.prog 472=some ⟨.ptr 502,1,8,.p .nilp,true⟩:=by kernel_rfl
theorem qNK:qE Tryz.prog 473=some ⟨.st [(0,3),(1,3)],2,16,.agg [.p (.int .i64 0),.p (.int .i64 0)],true⟩:=by kernel_rfl
theorem qNJ:qE Tryz.prog 474=some ⟨.st [(0,3),(1,3)],2,16,.agg [.p (.int .i64 0),.p (.int .i64 0)],true⟩:=by kernel_rfl
theorem qNI:qE Tryz.prog 477=some ⟨.sl 21,1,24,.nilsl,true⟩:=by kernel_rfl
theorem qNH:qE Tryz.prog 485=some ⟨.sl 90,1,24,.nilsl,true⟩:=by kernel_rfl
theorem qNG:qE Tryz.prog 490=some ⟨.int .i8,1,1,.p (.int .i8 0),true⟩:=by kernel_rfl
theorem qNF:qE Tryz.prog 493=some ⟨.int .i64,1,8,.p (.int .i64 0),true⟩:=by kernel_rfl
theorem qNE:qE Tryz.prog 499=some ⟨.ptr 504,1,8,.p .nilp,true⟩:=by kernel_rfl
theorem qND:qE Tryz.prog 500=some ⟨.sl 509,1,24,.nilsl,true⟩:=by kernel_rfl
theorem qNC:qE Tryz.prog 501=some ⟨.st [(0,500)],1,24,.agg [.nilsl],true⟩:=by kernel_rfl
theorem qNB:qE Tryz.prog 502=some ⟨.st [(0,500)],1,24,.agg [.nilsl],true⟩:=by kernel_rfl
theorem qNA:qE Tryz.prog 503=some ⟨.st [(0,472),(1,477),(2,3),(3,4)],4,48,.agg [.p .nilp,.nilsl,.p (.int .i64 0),.p (.bool false)],true⟩:=by kernel_rfl
theorem qMZ:qE Tryz.prog 504=some ⟨.st [(0,472),(1,477),(2,3),(3,4)],4,48,.agg [.p .nilp,.nilsl,.p (.int .i64 0),.p (.bool false)],true⟩:=by kernel_rfl
theorem qMY:qE Tryz.prog 507=some ⟨.fn,1,8,.p .nilf,true⟩:=by kernel_rfl
theorem qMX:qE Tryz.prog 508=some ⟨.st [(0,331),(1,507),(2,38)],3,40,.agg [.p .nilf,.p .nilf,.nilsl],true⟩:=by kernel_rfl
theorem qMW:qE Tryz.prog 509=some ⟨.st [(0,331),(1,507),(2,38)],3,40,.agg [.p .nilf,.p .nilf,.nilsl],true⟩:=by kernel_rfl
theorem qMV:qE Tryz.prog 510=some ⟨.fn,1,8,.p .nilf,true⟩:=by kernel_rfl
theorem qMU:qE Tryz.prog 512=some ⟨.int .u64,1,8,.p (.int .u64 0),true⟩:=by kernel_rfl
theorem qMT:qE Tryz.prog 518=some ⟨.ptr 512,1,8,.p .nilp,true⟩:=by kernel_rfl
theorem qMS:qE Tryz.prog 525=some ⟨.sl 528,1,24,.nilsl,true⟩:=by kernel_rfl
theorem qMR:qE Tryz.prog 527=some ⟨.st [(0,21),(1,21)],2,8,.agg [.p (.int .i32 0),.p (.int .i32 0)],true⟩:=by kernel_rfl
theorem qMQ:qE Tryz.prog 528=some ⟨.st [(0,21),(1,21)],2,8,.agg [.p (.int .i32 0),.p (.int .i32 0)],true⟩:=by kernel_rfl
theorem qMP:qE Tryz.prog 531=some ⟨.fn,1,8,.p .nilf,true⟩:=by kernel_rfl
theorem qMO:qE Tryz.prog 540=some ⟨.fn,1,8,.p .nilf,true⟩:=by kernel_rfl
@[simp] theorem T_0:T 0=none:=rfl
@[simp] theorem T_1:T 1=some ⟨.fn,1,8,.p .nilf,true⟩:=rfl
@[simp] theorem T_2:T 2=some ⟨.int .i64,1,8,.p (.int .i64 0),true⟩:=rfl
@[simp] theorem T_3:T 3=some ⟨.int .i64,1,8,.p (.int .i64 0),true⟩:=rfl
@[simp] theorem T_4:T 4=some ⟨.bool,1,1,.p (.bool false),true⟩:=rfl
@[simp] theorem T_5:T 5=some ⟨.int .u8,1,1,.p (.int .u8 0),true⟩:=rfl
@[simp] theorem T_6:T 6=none:=rfl
@[simp] theorem T_7:T 7=none:=rfl
@[simp] theorem T_8:T 8=none:=rfl
@[simp] theorem T_9:T 9=some ⟨.str,1,16,.p (.str []),true⟩:=rfl
@[simp] theorem zEO:T 10=none:=rfl
@[simp] theorem zEN:T 11=none:=rfl
@[simp] theorem zEM:T 12=some ⟨.int .u64,1,8,.p (.int .u64 0),true⟩:=rfl
@[simp] theorem zEL:T 13=none:=rfl
@[simp] theorem zEK:T 14=none:=rfl
@[simp] theorem zEJ:T 15=none:=rfl
@[simp] theorem zEI:T 16=none:=rfl
@[simp] theorem zEH:T 17=none:=rfl
@[simp] theorem zEG:T 18=none:=rfl
@[simp] theorem zEF:T 19=none:=rfl
@[simp] theorem zEE:T 20=none:=rfl
@[simp] theorem zED:T 21=some ⟨.int .i32,1,4,.p (.int .i32 0),true⟩:=rfl
@[simp] theorem zEC:T 22=some ⟨.sl 28,1,24,.nilsl,true⟩:=rfl
@[simp] theorem zEB:T 23=some ⟨.fn,1,8,.p .nilf,true⟩:=rfl
@[simp] theorem zEA:T 24=some ⟨.int .i64,1,8,.p (.int .i64 0),true⟩:=rfl
@[simp] theorem zDZ:T 25=some ⟨.sl 24,1,24,.nilsl,true⟩:=rfl
@[simp] theorem zDY:T 26=some ⟨.sl 5,1,24,.nilsl,true⟩:=rfl
@[simp] theorem zDX:T 27=some ⟨.st [(0,24),(1,3),(2,3),(3,3),(4,25),(5,26),(6,26)],7,104,.agg [.p (.int .i64 0),.p (.int .i64 0),.p (.int .i64 0),.p (.int .i64 0),.nilsl,.nilsl,.nilsl],true⟩:=rfl
@[simp] theorem zDW:T 28=some ⟨.st [(0,24),(1,3),(2,3),(3,3),(4,25),(5,26),(6,26)],7,104,.agg [.p (.int .i64 0),.p (.int .i64 0),.p (.int .i64 0),.p (.int .i64 0),.nilsl,.nilsl,.nilsl],true⟩:=rfl
@[simp] theorem zDV:T 32=some ⟨.sl 35,1,24,.nilsl,true⟩:=rfl
@[simp] theorem zDU:T 35=some ⟨.ar 3 3,3,24,.agg (pcells (zY 3 (.int .i64 0))),true⟩:=rfl
@[simp] theorem zDT:T 36=none:=rfl
@[simp] theorem zDS:T 38=some ⟨.sl 3,1,24,.nilsl,true⟩:=rfl
@[simp] theorem zDR:T 42=some ⟨.int .u32,1,4,.p (.int .u32 0),true⟩:=rfl
@[simp] theorem zDQ:T 44=some ⟨.ptr 71,1,8,.p .nilp,true⟩:=rfl
@[simp] theorem zDP:T 48=some ⟨.ptr 85,1,8,.p .nilp,true⟩:=rfl
@[simp] theorem zDO:T 50=some ⟨.st [(0,9),(1,9),(2,9),(3,9),(4,3),(5,3),(6,3),(7,3)],8,96,.agg [.p (.str []),.p (.str []),.p (.str []),.p (.str []),.p (.int .i64 0),.p (.int .i64 0),.p (.int .i64 0),.p (.int .i64 0)],true⟩:=rfl
@[simp] theorem zDN:T 51=some ⟨.st [(0,9),(1,9),(2,9),(3,9),(4,3),(5,3),(6,3),(7,3)],8,96,.agg [.p (.str []),.p (.str []),.p (.str []),.p (.str []),.p (.int .i64 0),.p (.int .i64 0),.p (.int .i64 0),.p (.int .i64 0)],true⟩:=rfl
@[simp] theorem zDM:T 52=none:=rfl
@[simp] theorem zDL:T 55=some ⟨.sl 9,1,24,.nilsl,true⟩:=rfl
@[simp] theorem zDK:T 56=some ⟨.fn,1,8,.p .nilf,true⟩:=rfl
@[simp] theorem zDJ:T 58=none:=rfl
@[simp] theorem zDI:T 59=none:=rfl
@[simp] theorem zDH:T 60=none:=rfl
@[simp] theorem zDG:T 61=some ⟨.st [(0,60),(0,42)],1,4,.agg [.p (.int .u32 0)],false⟩:=rfl
@[simp] theorem zDF:T 62=some ⟨.st [(0,60),(0,42)],1,4,.agg [.p (.int .u32 0)],false⟩:=rfl
@[simp] theorem zDE:T 63=some ⟨.st [(0,21),(1,42)],2,8,.agg [.p (.int .i32 0),.p (.int .u32 0)],true⟩:=rfl
@[simp] theorem zDD:T 64=some ⟨.st [(0,21),(1,42)],2,8,.agg [.p (.int .i32 0),.p (.int .u32 0)],true⟩:=rfl
@[simp] theorem zDC:T 65=some ⟨.st [(0,59),(0,64)],2,8,.agg [.p (.int .i32 0),.p (.int .u32 0)],false⟩:=rfl
@[simp] theorem zDB:T 66=some ⟨.st [(0,59),(0,64)],2,8,.agg [.p (.int .i32 0),.p (.int .u32 0)],false⟩:=rfl
@[simp] theorem zDA:T 67=some ⟨.st [(0,59),(0,62),(1,66)],3,12,.agg [.p (.int .u32 0),.p (.int .i32 0),.p (.int .u32 0)],false⟩:=rfl
@[simp] theorem zCZ:T 68=some ⟨.st [(0,59),(0,62),(1,66)],3,12,.agg [.p (.int .u32 0),.p (.int .i32 0),.p (.int .u32 0)],false⟩:=rfl
@[simp] theorem zCY:T 69=some ⟨.sl 78,1,24,.nilsl,true⟩:=rfl
@[simp] theorem zCX:T 70=some ⟨.st [(0,3),(1,68),(4,69)],5,48,.agg [.p (.int .i64 0),.p (.int .u32 0),.p (.int .i32 0),.p (.int .u32 0),.nilsl],true⟩:=rfl
@[simp] theorem zCW:T 71=some ⟨.st [(0,3),(1,68),(4,69)],5,48,.agg [.p (.int .i64 0),.p (.int .u32 0),.p (.int .i32 0),.p (.int .u32 0),.nilsl],true⟩:=rfl
@[simp] theorem zCV:T 73=none:=rfl
@[simp] theorem zCU:T 74=some ⟨.st [(0,60),(0,73),(0,2)],1,8,.agg [.p (.int .i64 0)],false⟩:=rfl
@[simp] theorem zCT:T 75=some ⟨.st [(0,60),(0,73),(0,2)],1,8,.agg [.p (.int .i64 0)],false⟩:=rfl
@[simp] theorem zCS:T 76=some ⟨.st [(0,75),(1,75),(2,75)],3,24,.agg [.p (.int .i64 0),.p (.int .i64 0),.p (.int .i64 0)],true⟩:=rfl
@[simp] theorem zCR:T 77=some ⟨.st [(0,75),(1,75),(2,75)],3,24,.agg [.p (.int .i64 0),.p (.int .i64 0),.p (.int .i64 0)],true⟩:=rfl
@[simp] theorem zCQ:T 78=some ⟨.ptr 77,1,8,.p .nilp,true⟩:=rfl
@[simp] theorem zCP:T 81=none:=rfl
@[simp] theorem zCO:T 83=some ⟨.sl 38,1,24,.nilsl,true⟩:=rfl
@[simp] theorem zCN:T 84=some ⟨.st [(0,83)],1,24,.agg [.nilsl],true⟩:=rfl
@[simp] theorem zCM:T 85=some ⟨.st [(0,83)],1,24,.agg [.nilsl],true⟩:=rfl
@[simp] theorem zCL:T 87=some ⟨.int .u64,1,8,.p (.int .u64 0),true⟩:=rfl
@[simp] theorem zCK:T 88=some ⟨.st [(0,4),(1,9),(2,3)],3,32,.agg [.p (.bool false),.p (.str []),.p (.int .i64 0)],true⟩:=rfl
@[simp] theorem zCJ:T 89=some ⟨.st [(0,4),(1,9),(2,3)],3,32,.agg [.p (.bool false),.p (.str []),.p (.int .i64 0)],true⟩:=rfl
@[simp] theorem zCI:T 90=some ⟨.sl 92,1,24,.nilsl,true⟩:=rfl
@[simp] theorem zCH:T 91=some ⟨.st [(0,3),(1,87),(2,89),(5,9),(6,55),(7,90),(8,24)],9,120,.agg [.p (.int .i64 0),.p (.int .u64 0),.p (.bool false),.p (.str []),.p (.int .i64 0),.p (.str []),.nilsl,.nilsl,.p (.int .i64 0)],true⟩:=rfl
@[simp] theorem zCG:T 92=some ⟨.st [(0,3),(1,87),(2,89),(5,9),(6,55),(7,90),(8,24)],9,120,.agg [.p (.int .i64 0),.p (.int .u64 0),.p (.bool false),.p (.str []),.p (.int .i64 0),.p (.str []),.nilsl,.nilsl,.p (.int .i64 0)],true⟩:=rfl
@[simp] theorem zCF:T 93=none:=rfl
@[simp] theorem zCE:T 97=some ⟨.ptr 9,1,8,.p .nilp,true⟩:=rfl
@[simp] theorem zCD:T 98=none:=rfl
@[simp] theorem zCC:T 99=some ⟨.map 9 97,1,8,.dead,true⟩:=rfl
@[simp] theorem zCB:T 101=some ⟨.ptr 51,1,8,.p .nilp,true⟩:=rfl
@[simp] theorem zCA:T 102=some ⟨.ptr 3,1,8,.p .nilp,true⟩:=rfl
@[simp] theorem zBZ:T 103=none:=rfl
@[simp] theorem zBY:T 104=some ⟨.map 9 102,1,8,.dead,true⟩:=rfl
@[simp] theorem zBX:T 106=none:=rfl
@[simp] theorem zBW:T 108=some ⟨.sl 269,1,24,.nilsl,true⟩:=rfl
@[simp] theorem zBV:T 109=some ⟨.st [(0,55),(1,108),(2,9),(3,3),(4,3)],5,80,.agg [.nilsl,.nilsl,.p (.str []),.p (.int .i64 0),.p (.int .i64 0)],true⟩:=rfl
@[simp] theorem zBU:T 110=some ⟨.st [(0,55),(1,108),(2,9),(3,3),(4,3)],5,80,.agg [.nilsl,.nilsl,.p (.str []),.p (.int .i64 0),.p (.int .i64 0)],true⟩:=rfl
@[simp] theorem zBT:T 111=some ⟨.sl 287,1,24,.nilsl,true⟩:=rfl
@[simp] theorem zBS:T 112=some ⟨.st [(0,110),(5,111),(6,87),(7,90)],8,136,.agg [.nilsl,.nilsl,.p (.str []),.p (.int .i64 0),.p (.int .i64 0),.nilsl,.p (.int .u64 0),.nilsl],true⟩:=rfl
@[simp] theorem zBR:T 113=some ⟨.st [(0,110),(5,111),(6,87),(7,90)],8,136,.agg [.nilsl,.nilsl,.p (.str []),.p (.int .i64 0),.p (.int .i64 0),.nilsl,.p (.int .u64 0),.nilsl],true⟩:=rfl
@[simp] theorem zBQ:T 114=none:=rfl
@[simp] theorem zBP:T 116=some ⟨.ptr 163,1,8,.p .nilp,true⟩:=rfl
@[simp] theorem zBO:T 118=some ⟨.ptr 167,1,8,.p .nilp,true⟩:=rfl
@[simp] theorem zBN:T 121=some ⟨.ptr 28,1,8,.p .nilp,true⟩:=rfl
@[simp] theorem zBM:T 123=some ⟨.ptr 125,1,8,.p .nilp,true⟩:=rfl
@[simp] theorem zBL:T 124=some ⟨.st [(0,123),(1,26)],2,32,.agg [.p .nilp,.nilsl],true⟩:=rfl
@[simp] theorem zBK:T 125=some ⟨.st [(0,123),(1,26)],2,32,.agg [.p .nilp,.nilsl],true⟩:=rfl
@[simp] theorem zBJ:T 126=some ⟨.fn,1,8,.p .nilf,true⟩:=rfl
@[simp] theorem zBI:T 127=none:=rfl
@[simp] theorem zBH:T 128=none:=rfl
@[simp] theorem zBG:T 129=none:=rfl
@[simp] theorem zBF:T 132=some ⟨.int .u64,1,8,.p (.int .u64 0),true⟩:=rfl
@[simp] theorem zBE:T 134=some ⟨.ptr 75,1,8,.p .nilp,true⟩:=rfl
@[simp] theorem zBD:T 136=some ⟨.ptr 2,1,8,.p .nilp,true⟩:=rfl
@[simp] theorem zBC:T 139=some ⟨.ptr 141,1,8,.p .nilp,true⟩:=rfl
@[simp] theorem zBB:T 140=some ⟨.st [(0,9),(1,3),(2,4),(3,4),(4,4)],5,32,.agg [.p (.str []),.p (.int .i64 0),.p (.bool false),.p (.bool false),.p (.bool false)],true⟩:=rfl
@[simp] theorem zBA:T 141=some ⟨.st [(0,9),(1,3),(2,4),(3,4),(4,4)],5,32,.agg [.p (.str []),.p (.int .i64 0),.p (.bool false),.p (.bool false),.p (.bool false)],true⟩:=rfl
@[simp] theorem zAZ:T 143=some ⟨.fn,1,8,.p .nilf,true⟩:=rfl
@[simp] theorem zAY:T 145=some ⟨.ar 256 4,256,256,.agg (pcells (zY 256 (.bool false))),true⟩:=rfl
@[simp] theorem zAX:T 146=some ⟨.ar 256 4,256,256,.agg (pcells (zY 256 (.bool false))),true⟩:=rfl
@[simp] theorem zAW:T 147=none:=rfl
@[simp] theorem zAV:T 150=some ⟨.ptr 146,1,8,.p .nilp,true⟩:=rfl
@[simp] theorem zAU:T 151=some ⟨.fn,1,8,.p .nilf,true⟩:=rfl
@[simp] theorem zAT:T 152=none:=rfl
@[simp] theorem zAS:T 154=none:=rfl
@[simp] theorem zAR:T 156=none:=rfl
@[simp] theorem zAQ:T 158=none:=rfl
@[simp] theorem zAP:T 160=some ⟨.sl 1,1,24,.nilsl,true⟩:=rfl
@[simp] theorem zAO:T 162=some ⟨.st [(0,26),(1,3),(2,3),(3,4)],4,48,.agg [.nilsl,.p (.int .i64 0),.p (.int .i64 0),.p (.bool false)],true⟩:=rfl
@[simp] theorem zAN:T 163=some ⟨.st [(0,26),(1,3),(2,3),(3,4)],4,48,.agg [.nilsl,.p (.int .i64 0),.p (.int .i64 0),.p (.bool false)],true⟩:=rfl
@[simp] theorem zAM:T 164=some ⟨.st [(0,116)],1,8,.agg [.p .nilp],true⟩:=rfl
@[simp] theorem zAL:T 165=some ⟨.st [(0,116)],1,8,.agg [.p .nilp],true⟩:=rfl
@[simp] theorem zAK:T 166=some ⟨.st [(0,165),(1,116),(2,24)],3,24,.agg [.p .nilp,.p .nilp,.p (.int .i64 0)],true⟩:=rfl
@[simp] theorem zAJ:T 167=some ⟨.st [(0,165),(1,116),(2,24)],3,24,.agg [.p .nilp,.p .nilp,.p (.int .i64 0)],true⟩:=rfl
@[simp] theorem zAI:T 168=some ⟨.st [(0,90),(1,24),(2,3)],3,40,.agg [.nilsl,.p (.int .i64 0),.p (.int .i64 0)],true⟩:=rfl
@[simp] theorem zAH:T 169=some ⟨.st [(0,90),(1,24),(2,3)],3,40,.agg [.nilsl,.p (.int .i64 0),.p (.int .i64 0)],true⟩:=rfl
@[simp] theorem zAG:T 171=none:=rfl
@[simp] theorem zAF:T 174=some ⟨.st [(0,3),(1,3),(2,3),(3,55)],4,48,.agg [.p (.int .i64 0),.p (.int .i64 0),.p (.int .i64 0),.nilsl],true⟩:=rfl
@[simp] theorem zAE:T 175=some ⟨.st [(0,3),(1,3),(2,3),(3,55)],4,48,.agg [.p (.int .i64 0),.p (.int .i64 0),.p (.int .i64 0),.nilsl],true⟩:=rfl
@[simp] theorem zAD:T 178=some ⟨.ptr 5,1,8,.p .nilp,true⟩:=rfl
@[simp] theorem zAC:T 179=some ⟨.ptr 68,1,8,.p .nilp,true⟩:=rfl
@[simp] theorem zAB:T 182=some ⟨.fn,1,8,.p .nilf,true⟩:=rfl
@[simp] theorem zAA:T 186=some ⟨.ptr 92,1,8,.p .nilp,true⟩:=rfl
@[simp] theorem qZZ:T 187=some ⟨.fn,1,8,.p .nilf,true⟩:=rfl
@[simp] theorem qZY:T 189=none:=rfl
@[simp] theorem qZX:T 196=some ⟨.ptr 110,1,8,.p .nilp,true⟩:=rfl
@[simp] theorem qZW:T 199=some ⟨.sl 275,1,24,.nilsl,true⟩:=rfl
@[simp] theorem qZV:T 200=none:=rfl
@[simp] theorem qZU:T 202=some ⟨.ptr 204,1,8,.p .nilp,true⟩:=rfl
@[simp] theorem qZT:T 203=some ⟨.st [(0,199),(1,111),(2,3),(3,4)],4,64,.agg [.nilsl,.nilsl,.p (.int .i64 0),.p (.bool false)],true⟩:=rfl
@[simp] theorem qZS:T 204=some ⟨.st [(0,199),(1,111),(2,3),(3,4)],4,64,.agg [.nilsl,.nilsl,.p (.int .i64 0),.p (.bool false)],true⟩:=rfl
@[simp] theorem qZR:T 206=some ⟨.map 9 3,1,8,.dead,true⟩:=rfl
@[simp] theorem qZQ:T 207=none:=rfl
@[simp] theorem qZP:T 209=some ⟨.sl 214,1,24,.nilsl,true⟩:=rfl
@[simp] theorem qZO:T 213=some ⟨.st [(0,3),(1,9),(2,3)],3,32,.agg [.p (.int .i64 0),.p (.str []),.p (.int .i64 0)],true⟩:=rfl
@[simp] theorem qZN:T 214=some ⟨.st [(0,3),(1,9),(2,3)],3,32,.agg [.p (.int .i64 0),.p (.str []),.p (.int .i64 0)],true⟩:=rfl
@[simp] theorem qZM:T 215=some ⟨.ptr 217,1,8,.p .nilp,true⟩:=rfl
@[simp] theorem qZL:T 216=some ⟨.st [(0,111),(1,3),(2,3),(3,3),(4,4),(5,87),(6,24)],7,72,.agg [.nilsl,.p (.int .i64 0),.p (.int .i64 0),.p (.int .i64 0),.p (.bool false),.p (.int .u64 0),.p (.int .i64 0)],true⟩:=rfl
@[simp] theorem qZK:T 217=some ⟨.st [(0,111),(1,3),(2,3),(3,3),(4,4),(5,87),(6,24)],7,72,.agg [.nilsl,.p (.int .i64 0),.p (.int .i64 0),.p (.int .i64 0),.p (.bool false),.p (.int .u64 0),.p (.int .i64 0)],true⟩:=rfl
@[simp] theorem qZJ:T 220=some ⟨.fn,1,8,.p .nilf,true⟩:=rfl
@[simp] theorem qZI:T 221=some ⟨.sl 209,1,24,.nilsl,true⟩:=rfl
@[simp] theorem qZH:T 226=none:=rfl
@[simp] theorem qZG:T 229=none:=rfl
@[simp] theorem qZF:T 231=some ⟨.ar 24 5,24,24,.agg (pcells (zY 24 (.int .u8 0))),true⟩:=rfl
@[simp] theorem qZE:T 234=none:=rfl
@[simp] theorem qZD:T 236=none:=rfl
@[simp] theorem qZC:T 239=some ⟨.ptr 62,1,8,.p .nilp,true⟩:=rfl
@[simp] theorem qZB:T 241=some ⟨.ptr 42,1,8,.p .nilp,true⟩:=rfl
@[simp] theorem qZA:T 243=none:=rfl
@[simp] theorem qYZ:T 247=none:=rfl
@[simp] theorem qYY:T 250=none:=rfl
@[simp] theorem qYX:T 253=some ⟨.int .i64,1,8,.p (.int .i64 0),true⟩:=rfl
@[simp] theorem qYW:T 254=none:=rfl
@[simp] theorem qYV:T 256=some ⟨.ptr 335,1,8,.p .nilp,true⟩:=rfl
@[simp] theorem qYU:T 259=none:=rfl
@[simp] theorem qYT:T 262=none:=rfl
@[simp] theorem qYS:T 266=none:=rfl
@[simp] theorem qYR:T 268=some ⟨.st [(0,209),(1,87)],2,32,.agg [.nilsl,.p (.int .u64 0)],true⟩:=rfl
@[simp] theorem qYQ:T 269=some ⟨.st [(0,209),(1,87)],2,32,.agg [.nilsl,.p (.int .u64 0)],true⟩:=rfl
@[simp] theorem qYP:T 274=some ⟨.st [(0,3),(1,3),(2,9),(3,89)],6,64,.agg [.p (.int .i64 0),.p (.int .i64 0),.p (.str []),.p (.bool false),.p (.str []),.p (.int .i64 0)],true⟩:=rfl
@[simp] theorem qYO:T 275=some ⟨.st [(0,3),(1,3),(2,9),(3,89)],6,64,.agg [.p (.int .i64 0),.p (.int .i64 0),.p (.str []),.p (.bool false),.p (.str []),.p (.int .i64 0)],true⟩:=rfl
@[simp] theorem qYN:T 276=none:=rfl
@[simp] theorem qYM:T 279=some ⟨.fn,1,8,.p .nilf,true⟩:=rfl
@[simp] theorem qYL:T 284=some ⟨.ptr 299,1,8,.p .nilp,true⟩:=rfl
@[simp] theorem qYK:T 285=some ⟨.fn,1,8,.p .nilf,true⟩:=rfl
@[simp] theorem qYJ:T 286=some ⟨.st [(0,3),(1,3),(2,9),(3,89),(6,55),(7,38)],8,112,.agg [.p (.int .i64 0),.p (.int .i64 0),.p (.str []),.p (.bool false),.p (.str []),.p (.int .i64 0),.nilsl,.nilsl],true⟩:=rfl
@[simp] theorem qYI:T 287=some ⟨.st [(0,3),(1,3),(2,9),(3,89),(6,55),(7,38)],8,112,.agg [.p (.int .i64 0),.p (.int .i64 0),.p (.str []),.p (.bool false),.p (.str []),.p (.int .i64 0),.nilsl,.nilsl],true⟩:=rfl
@[simp] theorem qYH:T 289=none:=rfl
@[simp] theorem qYG:T 296=some ⟨.fn,1,8,.p .nilf,true⟩:=rfl
@[simp] theorem qYF:T 298=some ⟨.st [(0,9),(1,92),(10,284)],11,144,.agg [.p (.str []),.p (.int .i64 0),.p (.int .u64 0),.p (.bool false),.p (.str []),.p (.int .i64 0),.p (.str []),.nilsl,.nilsl,.p (.int .i64 0),.p .nilp],true⟩:=rfl
@[simp] theorem qYE:T 299=some ⟨.st [(0,9),(1,92),(10,284)],11,144,.agg [.p (.str []),.p (.int .i64 0),.p (.int .u64 0),.p (.bool false),.p (.str []),.p (.int .i64 0),.p (.str []),.nilsl,.nilsl,.p (.int .i64 0),.p .nilp],true⟩:=rfl
@[simp] theorem qYD:T 303=some ⟨.fn,1,8,.p .nilf,true⟩:=rfl
@[simp] theorem qYC:T 314=some ⟨.ar 20 87,20,160,.agg (pcells (zY 20 (.int .u64 0))),true⟩:=rfl
@[simp] theorem qYB:T 315=some ⟨.ar 65 5,65,65,.agg (pcells (zY 65 (.int .u8 0))),true⟩:=rfl
@[simp] theorem qYA:T 317=some ⟨.ptr 66,1,8,.p .nilp,true⟩:=rfl
@[simp] theorem qXZ:T 320=none:=rfl
@[simp] theorem qXY:T 322=none:=rfl
@[simp] theorem qXX:T 326=some ⟨.ar 256 5,256,256,.agg (pcells (zY 256 (.int .u8 0))),true⟩:=rfl
@[simp] theorem qXW:T 327=some ⟨.st [(0,5),(1,5)],2,2,.agg [.p (.int .u8 0),.p (.int .u8 0)],true⟩:=rfl
@[simp] theorem qXV:T 328=some ⟨.st [(0,5),(1,5)],2,2,.agg [.p (.int .u8 0),.p (.int .u8 0)],true⟩:=rfl
@[simp] theorem qXU:T 329=some ⟨.ar 16 328,32,32,.agg (pcells (zY 32 (.int .u8 0))),true⟩:=rfl
@[simp] theorem qXT:T 331=some ⟨.fn,1,8,.p .nilf,true⟩:=rfl
@[simp] theorem qXS:T 332=none:=rfl
@[simp] theorem qXR:T 334=some ⟨.st [(0,9),(1,9),(2,128)],3,48,.agg [.p (.str []),.p (.str []),.dead],false⟩:=rfl
@[simp] theorem qXQ:T 335=some ⟨.st [(0,9),(1,9),(2,128)],3,48,.agg [.p (.str []),.p (.str []),.dead],false⟩:=rfl
@[simp] theorem qXP:T 337=none:=rfl
@[simp] theorem qXO:T 339=none:=rfl
@[simp] theorem qXN:T 347=some ⟨.sl 350,1,24,.nilsl,true⟩:=rfl
@[simp] theorem qXM:T 349=some ⟨.st [(0,3),(1,4),(2,4),(3,55)],4,40,.agg [.p (.int .i64 0),.p (.bool false),.p (.bool false),.nilsl],true⟩:=rfl
@[simp] theorem qXL:T 350=some ⟨.st [(0,3),(1,4),(2,4),(3,55)],4,40,.agg [.p (.int .i64 0),.p (.bool false),.p (.bool false),.nilsl],true⟩:=rfl
@[simp] theorem qXK:T 351=none:=rfl
@[simp] theorem qXJ:T 354=some ⟨.fn,1,8,.p .nilf,true⟩:=rfl
@[simp] theorem qXI:T 357=some ⟨.sl 4,1,24,.nilsl,true⟩:=rfl
@[simp] theorem qXH:T 358=some ⟨.fn,1,8,.p .nilf,true⟩:=rfl
@[simp] theorem qXG:T 360=none:=rfl
@[simp] theorem qXF:T 364=some ⟨.st [(0,87)],1,8,.agg [.p (.int .u64 0)],true⟩:=rfl
@[simp] theorem qXE:T 365=some ⟨.st [(0,87)],1,8,.agg [.p (.int .u64 0)],true⟩:=rfl
@[simp] theorem qXD:T 367=none:=rfl
@[simp] theorem qXC:T 371=some ⟨.fn,1,8,.p .nilf,true⟩:=rfl
@[simp] theorem qXB:T 376=some ⟨.sl 55,1,24,.nilsl,true⟩:=rfl
@[simp] theorem qXA:T 382=some ⟨.fn,1,8,.p .nilf,true⟩:=rfl
@[simp] theorem qWZ:T 383=none:=rfl
@[simp] theorem qWY:T 390=some ⟨.ptr 64,1,8,.p .nilp,true⟩:=rfl
@[simp] theorem qWX:T 392=some ⟨.ptr 21,1,8,.p .nilp,true⟩:=rfl
@[simp] theorem qWW:T 396=none:=rfl
@[simp] theorem qWV:T 400=some ⟨.ptr 402,1,8,.p .nilp,true⟩:=rfl
@[simp] theorem qWU:T 401=some ⟨.st [(0,9)],1,16,.agg [.p (.str [])],true⟩:=rfl
@[simp] theorem qWT:T 402=some ⟨.st [(0,9)],1,16,.agg [.p (.str [])],true⟩:=rfl
@[simp] theorem qWS:T 409=some ⟨.fn,1,8,.p .nilf,true⟩:=rfl
@[simp] theorem qWR:T 410=some ⟨.fn,1,8,.p .nilf,true⟩:=rfl
@[simp] theorem qWQ:T 412=some ⟨.ar 9 9,9,144,.agg (pcells (zY 9 (.str []))),true⟩:=rfl
@[simp] theorem qWP:T 413=none:=rfl
@[simp] theorem qWO:T 417=some ⟨.fn,1,8,.p .nilf,true⟩:=rfl
@[simp] theorem qWN:T 419=some ⟨.fn,1,8,.p .nilf,true⟩:=rfl
@[simp] theorem qWM:T 422=some ⟨.st [(0,92),(9,92),(18,87),(19,87)],20,256,.agg [.p (.int .i64 0),.p (.int .u64 0),.p (.bool false),.p (.str []),.p (.int .i64 0),.p (.str []),.nilsl,.nilsl,.p (.int .i64 0),.p (.int .i64 0),.p (.int .u64 0),.p (.bool false),.p (.str []),.p (.int .i64 0),.p (.str []),.nilsl,.nilsl,.p (.int .i64 0),.p (.int .u64 0),.p (.int .u64 0)],true⟩:=rfl
@[simp] theorem qWL:T 423=some ⟨.st [(0,92),(9,92),(18,87),(19,87)],20,256,.agg [.p (.int .i64 0),.p (.int .u64 0),.p (.bool false),.p (.str []),.p (.int .i64 0),.p (.str []),.nilsl,.nilsl,.p (.int .i64 0),.p (.int .i64 0),.p (.int .u64 0),.p (.bool false),.p (.str []),.p (.int .i64 0),.p (.str []),.nilsl,.nilsl,.p (.int .i64 0),.p (.int .u64 0),.p (.int .u64 0)],true⟩:=rfl
@[simp] theorem qWK:T 425=some ⟨.fn,1,8,.p .nilf,true⟩:=rfl
@[simp] theorem qWJ:T 427=some ⟨.fn,1,8,.p .nilf,true⟩:=rfl
@[simp] theorem qWI:T 430=some ⟨.ptr 4,1,8,.p .nilp,true⟩:=rfl
@[simp] theorem qWH:T 431=some ⟨.ar 32 5,32,32,.agg (pcells (zY 32 (.int .u8 0))),true⟩:=rfl
@[simp] theorem qWG:T 432=some ⟨.ar 64 5,64,64,.agg (pcells (zY 64 (.int .u8 0))),true⟩:=rfl
@[simp] theorem qWF:T 438=none:=rfl
@[simp] theorem qWE:T 441=none:=rfl
@[simp] theorem qWD:T 449=none:=rfl
@[simp] theorem qWC:T 456=some ⟨.sl 87,1,24,.nilsl,true⟩:=rfl
@[simp] theorem qWB:T 457=some ⟨.sl 87,1,24,.nilsl,true⟩:=rfl
@[simp] theorem qWA:T 460=some ⟨.ptr 466,1,8,.p .nilp,true⟩:=rfl
@[simp] theorem qVZ:T 463=some ⟨.sl 490,1,24,.nilsl,true⟩:=rfl
@[simp] theorem qVY:T 464=some ⟨.sl 490,1,24,.nilsl,true⟩:=rfl
@[simp] theorem qVX:T 465=some ⟨.st [(0,464),(1,464),(2,26)],3,72,.agg [.nilsl,.nilsl,.nilsl],true⟩:=rfl
@[simp] theorem qVW:T 466=some ⟨.st [(0,464),(1,464),(2,26)],3,72,.agg [.nilsl,.nilsl,.nilsl],true⟩:=rfl
@[simp] theorem qVV:T 467=none:=rfl
@[simp] theorem qVU:T 472=some ⟨.ptr 502,1,8,.p .nilp,true⟩:=rfl
@[simp] theorem qVT:T 473=some ⟨.st [(0,3),(1,3)],2,16,.agg [.p (.int .i64 0),.p (.int .i64 0)],true⟩:=rfl
@[simp] theorem qVS:T 474=some ⟨.st [(0,3),(1,3)],2,16,.agg [.p (.int .i64 0),.p (.int .i64 0)],true⟩:=rfl
@[simp] theorem qVR:T 475=none:=rfl
@[simp] theorem qVQ:T 477=some ⟨.sl 21,1,24,.nilsl,true⟩:=rfl
@[simp] theorem qVP:T 482=none:=rfl
@[simp] theorem qVO:T 485=some ⟨.sl 90,1,24,.nilsl,true⟩:=rfl
@[simp] theorem qVN:T 490=some ⟨.int .i8,1,1,.p (.int .i8 0),true⟩:=rfl
@[simp] theorem qVM:T 493=some ⟨.int .i64,1,8,.p (.int .i64 0),true⟩:=rfl
@[simp] theorem qVL:T 494=none:=rfl
@[simp] theorem qVK:T 499=some ⟨.ptr 504,1,8,.p .nilp,true⟩:=rfl
@[simp] theorem qVJ:T 500=some ⟨.sl 509,1,24,.nilsl,true⟩:=rfl
@[simp] theorem qVI:T 501=some ⟨.st [(0,500)],1,24,.agg [.nilsl],true⟩:=rfl
@[simp] theorem qVH:T 502=some ⟨.st [(0,500)],1,24,.agg [.nilsl],true⟩:=rfl
@[simp] theorem qVG:T 503=some ⟨.st [(0,472),(1,477),(2,3),(3,4)],4,48,.agg [.p .nilp,.nilsl,.p (.int .i64 0),.p (.bool false)],true⟩:=rfl
@[simp] theorem qVF:T 504=some ⟨.st [(0,472),(1,477),(2,3),(3,4)],4,48,.agg [.p .nilp,.nilsl,.p (.int .i64 0),.p (.bool false)],true⟩:=rfl
@[simp] theorem qVE:T 507=some ⟨.fn,1,8,.p .nilf,true⟩:=rfl
@[simp] theorem qVD:T 508=some ⟨.st [(0,331),(1,507),(2,38)],3,40,.agg [.p .nilf,.p .nilf,.nilsl],true⟩:=rfl
@[simp] theorem qVC:T 509=some ⟨.st [(0,331),(1,507),(2,38)],3,40,.agg [.p .nilf,.p .nilf,.nilsl],true⟩:=rfl
@[simp] theorem qVB:T 510=some ⟨.fn,1,8,.p .nilf,true⟩:=rfl
@[simp] theorem qVA:T 512=some ⟨.int .u64,1,8,.p (.int .u64 0),true⟩:=rfl
@[simp] theorem qUZ:T 518=some ⟨.ptr 512,1,8,.p .nilp,true⟩:=rfl
@[simp] theorem qUY:T 525=some ⟨.sl 528,1,24,.nilsl,true⟩:=rfl
@[simp] theorem qUX:T 527=some ⟨.st [(0,21),(1,21)],2,8,.agg [.p (.int .i32 0),.p (.int .i32 0)],true⟩:=rfl
@[simp] theorem qUW:T 528=some ⟨.st [(0,21),(1,21)],2,8,.agg [.p (.int .i32 0),.p (.int .i32 0)],true⟩:=rfl
@[simp] theorem qUV:T 531=some ⟨.fn,1,8,.p .nilf,true⟩:=rfl
@[simp] theorem qUU:T 533=none:=rfl
@[simp] theorem qUT:T 534=none:=rfl
@[simp] theorem qUS:T 535=none:=rfl
@[simp] theorem qUR:T 536=none:=rfl
@[simp] theorem qUQ:T 537=none:=rfl
@[simp] theorem qUP:T 538=none:=rfl
@[simp] theorem qUO:T 539=none:=rfl
@[simp] theorem qUN:T 540=some ⟨.fn,1,8,.p .nilf,true⟩:=rfl
@[simp] theorem qUM:T 541=none:=rfl
@[simp] theorem qUL:T 542=none:=rfl
@[simp] theorem qUK:T 543=none:=rfl
@[simp] theorem qUJ:T 544=none:=rfl
theorem qLM:qFP Tryz.prog 0 tbl:=⟨ti1,ti2,ti3,ti4,ti5,ti9,qUH,qUG,qUF,qUE,qUD,qUC,qUB,qUA,qTZ,qTY,qTX,qTW,qTV,qTU,qTT,qTS,qTR,qTQ,qTP,qTO,qTN,qTM,qTL,qTK,qTJ,qTI,qTH,qTG,qTF,qTE,qTD,qTC,qTB,qTA,qSZ,qSY,qSX,qSW,qSV,qSU,qST,qSS,qSR,qSQ,qSP,qSO,qSB,qSA,qRZ,qRY,qRX,qRW,qRV,qRU,qRT,qRS,qRR,qRQ,qRP,qRO,qRN,qRM,qRL,qRK,qRJ,qRI,qRH,qRG,qRF,qRE,qRD,qRC,qRB,qRA,qQZ,qQY,qQX,qQW,qQV,qQU,qQT,qQS,qQR,qQQ,qQP,qQO,qQN,qQM,qQL,qQK,qQJ,qQI,qQH,qQG,qQF,qQE,qQD,qQC,qQB,qQA,qPZ,qPY,qPX,qPW,qPV,qPU,qPT,qPS,qPR,qPQ,qPP,qPO,qPN,qPM,qPL,qPK,qPJ,qPI,qPH,qPG,qPF,qPE,qPD,qPC,qPB,qPA,qOZ,qOY,qOX,qOW,qOV,qOU,qOT,qOS,qOR,qOQ,qOP,qOO,qON,qOM,qOL,qOK,qOJ,qOI,qOH,qOG,qOF,qOE,qOD,qOC,qOB,qOA,qNZ,qNY,qNX,qNW,qNV,qNU,qNT,qNS,qNR,qNQ,qNP,qNO,qNN,qNM,qNL,qNK,qNJ,qNI,qNH,qNG,qNF,qNE,qND,qNC,qNB,qNA,qMZ,qMY,qMX,qMW,qMV,qMU,qMT,qMS,qMR,qMQ,qMP,qMO,trivial⟩
theorem mixed:Tryz.prog.follows .mixedOrders=true:=by kernel_rfl
theorem tok:TOK Tryz.prog T:=by
 intro t ti h
 unfold T at h
 cases hx:tbl[t]? with
 | none=>rw [hx] at h; cases h
 | some o =>
  rw [hx] at h
  simp only [Option.getD_some] at h
  subst h
  have:=vL qLM hx
  simpa using this
open Sy Go
def wW (n:Nat) (F:Nat→Bool):List PD:=(List.range n).map fun i => .bool (F i)
@[simp] theorem qSE (n:Nat) (F:Nat→Bool):(wW n F).length=n:=by simp [wW]
@[simp] theorem qKB {n i:Nat} {F:Nat→Bool} (h:i<(wW n F).length):(wW n F)[i] = .bool (F i):=by simp [wW]
theorem qDW {n i:Nat} {F:Nat→Bool} (h:i<n):(wW n F)[i]?=some (.bool (F i)):=by simp [wW,h]
@[simp] theorem qSD (n i:Nat) (F:Nat→Bool) (b:Bool):(wW n F).set i (.bool b)=wW n fun k=>if k=i then b else F k:=by
 apply List.ext_getElem?
 intro k
 simp only [wW,List.getElem?_set,List.getElem?_map,List.length_map,List.length_range]
 by_cases h:i=k
 ·subst h
  by_cases h2:i<n
  ·simp [h2]
  simp [h2]
 simp only [h,if_false]
 by_cases h2:k<n
 ·simp [h2,Ne.symm h]
 simp [h2]
theorem qEY {n:Nat} {F F':Nat→Bool} (h:∀ i,i<n→F i=F' i):wW n F=wW n F':=by
 simp only [wW]
 exact List.map_congr_left fun i hi=>by rw [h i (by simpa using hi)]
theorem qKC (n:Nat):List.replicate n (PD.bool false)=wW n fun _=>false:=by
 apply List.ext_getElem?
 intro i
 by_cases h:i<n
 ·rw [qDW h]; simp [h]
 rw [List.getElem?_eq_none (by simp; omega),List.getElem?_eq_none (by simp; omega)]
theorem qHW (n:Nat):zY n (PD.bool false)=wW n fun _=>false:=qKC n
@[simp] theorem qMC (n:Nat) (F:Nat→Bool):(wW n F).take n=wW n F:=List.take_of_length_le (by simp)
@[simp] theorem qMD (n:Nat) (F:Nat→Bool):(wW n F).drop n=[]:=List.drop_eq_nil_of_le (by simp)
@[simp] theorem qMF (n:Nat) (d:PD):(zY n d).drop n=[]:=List.drop_eq_nil_of_le (by simp)
end Go.Proofs.YtcfcfblbpnpclaaGreatDoor
