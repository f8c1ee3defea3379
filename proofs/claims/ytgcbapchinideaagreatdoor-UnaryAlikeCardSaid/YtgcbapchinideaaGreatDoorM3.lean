import Derived.Test.YtgcbapchinideaaGreatDoorM2
namespace Go.Proofs.YtgcbapchinideaaGreatDoor.Sy
open Go
section
variable {P:Program} {T:Tab} {G:qR}
theorem zEY {c:Ctx} {M:qW} {μ:Mu} {st:St} {tmps:Array Value} {w:World} (rel:Rel c M μ st tmps w) {H:List (Nat × Box)} (hbox:∀ id bx,(id,bx)∈H->(id,bx)∈st.H)
  {ps news:List Nat} {H':List (Nat × Box)} {x:V} (hps:∀ i,qM i H'=true->i∈H.map (·.1)\/i∈news) (hids:∀ i∈V.ids x++jV H',i∈ps\/i∈news)
  (hnews:∀ i∈news,({ st with H:=zL (H.map (·.1)) st.H }:St).fresh i=true) {M':qW} {μ':Mu} {w':World} {u:Value} {tm:List V} {qs:List Nat} {b':Nat} {tms:Array Value}
  (hpin:∀ i∈ps,(μ' i).at=(μ i).at) (r':Rel ⟨w.heap.size,w,M,μ,wZ μ H⟩ M' μ' ⟨tm,qs,H',b'⟩ tms w') (hu:RV M' μ' u x) :
  ∃ μ'',Rel c M' μ'' { st with H:=H'++zL (H.map (·.1)) st.H } tmps w'/\RV M' μ'' u x:=by
 have hkey:∀ id,qM id H=true->qM id st.H=true:=fun id h=>by
  obtain⟨b,hb⟩:=qH.1 h;exact qH.2 ⟨b,hbox _ _ hb⟩
 have hlent:∀ b,wZ μ H b->c.mine b/\b<w.heap.size:=fun b ⟨id,h1,h2⟩=>by
  have:=rel.own id b (hkey id h1) h2;exact⟨this.1,this.2.1⟩
 generalize hR:({ st with H:=zL (H.map (·.1)) st.H }:St)=R at hnews
 have relR:Rel c M μ R tmps w:=by
  rw[<-hR]
  exact rel.weaken ⟨kG.refl _,rfl,fun p hp=>(yZ hp).2,(List.Sublist.map _ (qAD _ _)).nodup rel.nodup⟩
 have hRkey:∀ i,qM i R.H=true->qM i H=false/\qM i st.H=true:=by
  intro i hi
  rw[<-hR]at hi
  obtain⟨b,hb⟩:=qH.1 hi
  have h1:=yZ hb
  refine⟨?_,qH.2 ⟨b,h1.2⟩⟩
  cases hk:qM i H with
  | false=>rfl
  | true=>exact(h1.1 (wE.1 hk)).elim
 have hRblk:∀ i b,qM i R.H=true->(μ i).has b->b<w.heap.size/\¬ (w.heap.size<=b\/wZ μ H b):=by
  intro i b hi hb
  have h1:=hRkey i hi
  have h2:=(rel.own i b h1.2 hb).2.1
  refine⟨h2,fun h=>h.elim (fun h=>by omega) fun⟨j,hj,hjb⟩ => ?_⟩
  have:=rel.inj i j b h1.2 (hkey j hj) hb hjb
  subst this
  rw[h1.1]at hj;cases hj
 let μ'':Mu:=fun i=>if(news.contains i || qM i H')=true then μ' i else μ i
 have hnn:∀ i,R.fresh i=false->news.contains i=false:=fun i h=>by
  cases hc:news.contains i with
  | false=>rfl
  | true =>
   have:=hnews i (by simpa using hc)
   rw[h]at this;cases this
 have hold:∀ i,R.fresh i=false->(μ'' i).at=(μ i).at:=fun i h=>by
  show(if(news.contains i || qM i H')=true then μ' i else μ i).at=(μ i).at
  rw[hnn i h]
  split
  ·rename_i hk
   rcases hids i (List.mem_append.2 (.inr (qBG (by simpa using hk))))with h1|h1
   ·exact hpin i h1
   have:=hnews i h1
   rw[h]at this;cases this
  rfl
 have hnew:∀ i,(i∈ps\/i∈news)->(μ'' i).at=(μ' i).at:=by
  intro i h
  show(if(news.contains i || qM i H')=true then μ' i else μ i).at=(μ' i).at
  split
  ·rfl
  rename_i hf
  exact(hpin i (h.resolve_right fun e=>hf (by simp[e]))).symm
 have hnew2:∀ i,i∈V.ids x++jV H'->(μ'' i).at=(μ' i).at:=fun i h=>hnew i (hids i h)
 have fr1:∀ i,V.noRefL i R.tmps=false->R.fresh i=false:=fun i h=>by simp only[St.fresh,h,Bool.false_and]
 have fr2:∀ i,kK i R.H=false->R.fresh i=false:=fun i h=>by simp only[St.fresh,h,Bool.false_and,Bool.and_false]
 have fr3:∀ i,qM i R.H=true->R.fresh i=false:=fun i h=>by simp only[St.fresh,h,Bool.not_true,Bool.and_false]
 have fr4:∀ i,i∈R.pins->R.fresh i=false:=fun i h=>by simp[St.fresh,h]
 have hkH':∀ i,qM i H'=true->μ'' i=μ' i:=fun i h=>if_pos (by rw[h];simp)
 have hdis:∀ i,qM i H'=true->qM i R.H=true->False:=by
  intro i h1 h2
  rcases hps i h1 with h|h
  ·have:=wE.2 h
   rw[(hRkey i h2).1]at this;cases this
  have:=hnews i h
  rw[fr3 i h2]at this;cases this
 have hkR:∀ i,qM i R.H=true->μ'' i=μ i:=fun i h=>if_neg (by
  rw[hnn i (fr3 i h)]
  cases hk:qM i H' with
  | false=>simp
  | true=>exact(hdis i hk h).elim)
 have hH'blk:∀ i b,qM i H'=true->(μ' i).has b->(w.heap.size<=b\/wZ μ H b):=fun i b hi hb=>(r'.own i b hi hb).1
 have hkeyApp:∀ i,qM i (H'++R.H)=true->qM i H'=true\/qM i R.H=true:=by
  intro i h
  obtain⟨b,hb⟩:=qH.1 h
  rcases List.mem_append.1 hb with h|h
  ·exact .inl (qH.2 ⟨b,h⟩)
  exact .inr (qH.2 ⟨b,h⟩)
 have hrr:RV M' μ'' u x:=hu.mono (fun _ _ _ h=>h) fun i hi=>hnew2 i (List.mem_append.2 (.inl (V.ids_of x hi)))
 have hfin:Rel c M' μ'' { R with H:=H'++R.H } tmps w':=by
  refine⟨r'.mem,fun b o v hv=>r'.ext b o v (rel.ext b o v hv),fun b o hb => ?_, ?_,fun i hi => ?_,fun i bx hi => ?_, ?_,fun i j b hi hj hib hjb => ?_,fun i b hi hib => ?_,Nat.le_trans rel.size r'.size, ?_⟩
  ·have h1:¬ (w.heap.size<=b\/wZ μ H b):=fun h=>h.elim (fun h=>hb (.inl (Nat.le_trans rel.size h))) fun h=>hb (hlent b h).1
   exact(r'.old b o h1).trans (rel.old b o hb)
  ·exact relR.slots.mono r'.ext fun i hi=>hold i (fr1 i hi)
  ·exact(hold i (fr4 i hi)).trans (relR.pins i hi)
  ·rcases List.mem_append.1 hi with h|h
   ·exact(r'.box i bx h).mono (fun _ _ _ h=>h) (hkH' i (qH.2 ⟨bx,h⟩)) (fun j hj=>hnew2 j (List.mem_append.2 (.inr (qKC h j (Box.ids_of hj))))) fun _ _=>rfl
   have hk:=qH.2 ⟨bx,h⟩
   refine(relR.box i bx h).mono r'.ext (hkR i hk) (fun j hj=>hold j (fr2 j ?_)) fun b hb => ?_
   ·cases hn:kK j R.H with
    | false=>rfl
    | true=>rw[xR hn h]at hj;cases hj
   exact r'.below.block b (hRblk i b hk hb).2
  ·rw[List.map_append,List.nodup_append]
   refine⟨r'.nodup,relR.nodup,fun i h1 j h2 => ?_⟩
   rintro rfl
   exact hdis _ (wE.2 h1) (wE.2 h2)
  ·rcases hkeyApp i hi with h1|h1 <;> rcases hkeyApp j hj with h2|h2
   ·rw[hkH' i h1]at hib;rw[hkH' j h2]at hjb;exact r'.inj i j b h1 h2 hib hjb
   ·rw[hkH' i h1]at hib;rw[hkR j h2]at hjb;exact((hRblk j b h2 hjb).2 (hH'blk i b h1 hib)).elim
   ·rw[hkR i h1]at hib;rw[hkH' j h2]at hjb;exact((hRblk i b h1 hib).2 (hH'blk j b h2 hjb)).elim
   rw[hkR i h1]at hib;rw[hkR j h2]at hjb;exact relR.inj i j b h1 h2 hib hjb
  ·rcases hkeyApp i hi with h1|h1
   ·rw[hkH' i h1]at hib
    obtain⟨h2,h3,h4⟩:=r'.own i b h1 hib
    exact⟨h2.elim (fun h => .inl (Nat.le_trans rel.size h)) fun h=>(hlent b h).1,h3,h4⟩
   rw[hkR i h1]at hib
   obtain⟨h2,h3,h4⟩:=relR.own i b h1 hib
   exact⟨h2,Nat.lt_of_lt_of_le h3 r'.below.size,fun o=>(r'.old b o (hRblk i b h1 hib).2).trans (h4 o)⟩
  refine rel.below.trans ⟨r'.below.os,r'.below.tape,r'.below.output,r'.below.size,fun k hk=>r'.below.block k ?_⟩
  exact fun h=>h.elim (fun h=>hk (.inl (Nat.le_trans rel.size h))) fun h=>hk (hlent k h).1
 rw[<-hR]at hfin
 exact⟨μ'',hfin,hrr⟩
def unp:PD->V
 | .agg ds => .agg (pcells ds)
 | d => .p d
theorem zSG (d:PD):V.ids (unp d)=[]:=by
 cases d <;> simp only[unp,V.ids,qQA]
def qXQ (C:Know) (G:qR) (st:St) (o:Oper) (orc:List PD):Option (Prop × V × St × List PD) :=
 match o.op,orc,st.H with
 | .call { callee := .value x,args:=args,argTypes:=_ },.ref ds::r::orc',[(k,.vars e cs)] =>
  match qGJ (st.arg G x).2 (args.toList.map fun y=>(st.arg G y).2)with
  | some (f,xs)=>some ((st.arg G x).1/\qGQ (args.toList.map fun y=>(st.arg G y).1)/\C.bx f xs [(k,.vars e cs)] (unp r) [k] [(k,.vars e (pcells ds))],unp r,{ st with H:=[(k,.vars e (pcells ds))] },orc')
  | none=>none
 | _,_,_=>none
theorem kG.refl':∀ l,kG l l
 | []=>trivial
 | x::l=>⟨.refl x,kG.refl' l⟩
theorem qXP {st s':St} {o:Oper} {orc orc':List PD} {v:Prop} {x:V} (h:qXQ (kn P G) G st o orc=some (v,x,s',orc')) (hv:v):Yields P G o st x s':=by
 unfold qXQ at h
 split at h
 ·rename_i op' orc0 H0 y args tys ds r orc1 k e cs ho hH
  split at h
  ·rename_i f xs hcal
   simp only[Option.some.injEq,Prod.mk.injEq]at h
   obtain⟨rfl,rfl,rfl,rfl⟩:=h
   obtain⟨h1,h2,h3⟩:=hv
   have hy:=zF (P:=P) (G:=G) (o:=o) (st:=st) (x:=y) (args:=args) (tys:=tys) ho h3 ⟨h1,h2,by rw[hcal];exact⟨rfl,kG.refl' _⟩,by simp[qGQ,hH,zQ],by simp,fun i hi=>by simpa using hi,fun i hi=>by
    left
    simpa[zSG,jV,Box.ids]using hi⟩
   have e1:({ st.rest [(k,.vars e cs)] [k]with H:=[(k,.vars e (pcells ds))]++(st.rest [(k,.vars e cs)] [k]).H }:St)={ st with H:=[(k,.vars e (pcells ds))] }:=by
    simp[St.rest,St.killAll,hH,zL]
   rw[e1]at hy
   exact hy
  cases h
 cases h
def qWN (C:Know) (T:Tab) (G:qR) (st:St) (o:Oper) (orc:List PD):Option (Prop × V × St × List PD) :=
 match qBU G st o.op with
 | none=>none
 | some s=>match qBR C T G s o.op orc with
  | some (v,x,orc')=>some (v,x,s,orc')
  | none=>match qNL C T G s o orc with
   | some (v,x,s',orc')=>match x with
    | .ms i=>if i=qED s o.dst then some (v,x,s',orc') else some (v/\s'.fresh (qED s o.dst)=true,.ms (qED s o.dst),s'.ren i (qED s o.dst),orc')
    | _=>some (v,x,s',orc')
   | none=>none
theorem qWM (hT:TOK P T) {st s':St} {o:Oper} {orc orc':List PD} {v:Prop} {x:V} (h:qWN (kn P G) T G st o orc=some (v,x,s',orc')) (hv:v):Yields P G o st x s':=by
 unfold qWN at h
 split at h
 ·cases h
 rename_i s hpre
 have pre:∀ {y:V} {t:St},Yields P G o s y t->Yields P G o st y t:=fun k c M μ tmps w hg r=>by
  obtain⟨M1,r1⟩:=qHS r hpre
  exact k c M1 μ tmps w hg r1
 split at h
 ·rename_i hs
  simp only[Option.some.injEq,Prod.mk.injEq]at h
  obtain⟨rfl,rfl,rfl,rfl⟩:=h
  exact pre (xG hT hs hv)
 split at h
 ·rename_i v0 x0 s0 orc0 hs
  split at h
  ·rename_i i
   split at h
   ·simp only[Option.some.injEq,Prod.mk.injEq]at h
    obtain⟨rfl,rfl,rfl,rfl⟩:=h
    exact pre (jR hT hs hv)
   rename_i hij
   simp only[Option.some.injEq,Prod.mk.injEq]at h
   obtain⟨rfl,rfl,rfl,rfl⟩:=h
   refine pre fun c M μ tmps w hg r => ?_
   have:=jR hT hs hv.1 c M μ tmps w hg r
   generalize (execOp (Act.eval ⟨tmps,[]⟩) o).run P w=res at this
   have key:∀ u w',(∃ M' μ',Rel c M' μ' s0 tmps w'/\RV M' μ' u (.ms i))->∃ M' μ',Rel c M' μ' (s0.ren i (qED s o.dst)) tmps w'/\RV M' μ' u (.ms (qED s o.dst)):=by
    rintro u w' ⟨M',μ',r',hu⟩
    refine⟨M',_,r'.ren hv.2, ?_⟩
    have:=hu.ren (i:=i) (j:=qED s o.dst) (by simpa[V.noRef]using hij)
    simpa[V.ren]using this
   cases res with
   | halt _ _=>exact this.elim
   | ok nx w' =>
    cases nx <;> simp only[zGF]at this ⊢
    case value u=>exact key _ _ this
    case skip=>exact key _ _ this
    case enter f args=>exact this.mono fun e w'' ⟨u,he,hk⟩=>⟨u,he,key _ _ hk⟩
  simp only[Option.some.injEq,Prod.mk.injEq]at h
  obtain⟨rfl,rfl,rfl,rfl⟩:=h
  exact pre (jR hT hs hv)
 cases h
def zHC (C:Know) (T:Tab) (G:qR) (st:St) (o:Oper) (orc:List PD):Option (Prop × V × St × List PD) :=
 match qXQ C G st o orc with
 | some r=>some r
 | none=>qWN C T G st o orc
theorem zAD (hT:TOK P T) {st s':St} {o:Oper} {orc orc':List PD} {v:Prop} {x:V} (h:zHC (kn P G) T G st o orc=some (v,x,s',orc')) (hv:v):Yields P G o st x s':=by
 unfold zHC at h
 split at h
 ·rename_i r hs
  cases h
  exact qXP hs hv
 exact qWM hT h hv
def jP (ks:List Nat):List (Nat × Box)->List (Nat × Box)
 | []=>[]
 | (i,b)::r=>if ks.contains i then(i,b)::jP ks r else jP ks r
theorem kU (ks:List Nat):∀ H:List (Nat × Box),(jP ks H).Sublist H
 | [] => .slnil
 | (k,c)::r=>by
  simp only[jP];split
  ·exact(kU ks r).cons_cons _
  exact(kU ks r).cons _
theorem qJP {ks:List Nat} {H:List (Nat × Box)} {p:Nat × Box} (h:p∈jP ks H):p∈H:=(kU ks H).mem h
theorem kW {ks:List Nat}:∀ {H:List (Nat × Box)} {p:Nat × Box},p∈zL ks H↔p∈H/\p.1 ∉ ks
 | [],p=>by simp[zL]
 | (k,c)::r,p=>by
  simp only[zL]
  split
  ·rename_i hk
   rw[kW,List.mem_cons]
   constructor
   ·rintro⟨h1,h2⟩;exact⟨.inr h1,h2⟩
   rintro⟨h1|h1,h2⟩
   ·subst h1;exact(h2 (by simpa using hk)).elim
   exact⟨h1,h2⟩
  rename_i hk
  rw[List.mem_cons,List.mem_cons,kW]
  constructor
  ·rintro(h|⟨h1,h2⟩)
   ·subst h;exact⟨.inl rfl,by simpa using hk⟩
   exact⟨.inr h1,h2⟩
  rintro⟨h1|h1,h2⟩
  ·exact .inl h1
  exact .inr ⟨h1,h2⟩
structure Sm where
 x:V
 H:List (Nat × Box)
 H':List (Nat × Box)
 ps:List Nat
 new:List Nat
 q:Bool
def Sm.foot (s:Sm):List Nat:=s.H.map (·.1)++s.H'.map (·.1)
def Sm.tch (s:Sm):List Nat:=if s.q then[] else s.foot
def Sm.refs (s:Sm):List Nat:=V.ids s.x++jV s.H'++s.H.map (·.1)
def Sm.sum (s:Sm):List Nat × List Nat × List Nat × List Nat:=(s.foot,s.tch,s.new,s.refs)
def Sm.good (s:Sm):Prop:=qGQ ((V.ids s.x++jV s.H').map fun i=>i∈s.ps\/i∈s.new)
def qAY (C:Know) (T:Tab) (G:qR) (st:St) (op:Op) (orc:List PD):Option (Prop × V × List PD) :=
 match qPX T G st op orc with
 | some r=>some r
 | none=>match qDG T G st op orc with
  | some r=>some r
  | none=>match st.H with
   | []=>qMG C T G st op orc
   | _::_=>none
theorem qPW (hT:TOK P T) {st:St} {o:Oper} {orc orc':List PD} {v:Prop} {x:V} (h:qAY (kn P G) T G st o.op orc=some (v,x,orc')) (hv:v):Yields P G o st x st:=by
 unfold qAY at h
 split at h
 ·rename_i hr;cases h;exact qJM hT hr hv
 split at h
 ·rename_i hr;cases h;exact qRP hT hr hv
 split at h
 ·exact qKP h hv
 cases h
def St.small (st:St) (ts:List Nat):St :=
 let H:=jP (ts.flatMap fun t=>V.ids (st.tmps.getD t .dead)) st.H
 ⟨wM st.tmps ts,H.map (·.1)++jV H,H,st.base⟩
def St.cutS (G:qR) (st:St) (o:Oper):St :=
 match st.H with
 | [_]=>st
 | _=>match o.op with
  | .store _ a _=>match (st.arg G a).2 with
   | .ptr bid _=>{ st with H:=jP [bid] st.H }
   | _=>st
  | _=>st
theorem St.cutS_spec (G:qR) (st:St) (o:Oper):∃ H,st.cutS G o={ st with H:=H }/\H.Sublist st.H:=by
 unfold St.cutS
 split
 ·exact⟨_,rfl,List.Sublist.refl _⟩
 split
 ·split
  ·exact⟨_,rfl,kU _ _⟩
  exact⟨_,rfl,List.Sublist.refl _⟩
 exact⟨_,rfl,List.Sublist.refl _⟩
attribute [simp] St.cutS
def zOS (H H':List (Nat × Box)) (n:Nat):Prop:=qGQ (H'.map fun p=>p.1∈H.map (·.1)\/p.1=n)
def qEH (C:Know) (T:Tab) (G:qR) (st0 small:St) (o:Oper) (orc:List PD):Option (Prop × Sm × List PD) :=
 match qAY C T G small o.op orc with
 | some (v,x,orc') =>
  let s:Sm:=⟨x,small.H,small.H,small.pins,[],true⟩
  some (v/\s.good,s,orc')
 | none=>match zHC C T G (small.cutS G o) o orc with
  | some (v,x,s',orc') =>
   let s:Sm:=⟨x,(small.cutS G o).H,s'.H,s'.pins,[qED small o.dst],false⟩
   some (v/\s.good/\zOS (small.cutS G o).H s'.H (qED small o.dst)/\st0.fresh (qED small o.dst)=true,s,orc')
  | none=>none
def St.after (st:St) (dst:Option Nat) (s:Sm):St:={ st.put dst s.x with H:=s.H'++zL (s.H.map (·.1)) st.H }
def yB (C:Know) (T:Tab) (G:qR) (ops:List Oper) (st0:St):List Oper->List (List Nat)->St->List PD->Option (Prop × List Sm × St)
 | [],_,st,_=>some ((st.H.map (·.1)).Nodup,[],st)
 | _::_,[],_,_=>none
 | o::rest,ts::tss,st,orc=>match o.guard with
  | none=>match qEH C T G st0 (st.small ts) o orc with
   | some (v,s,orc')=>match yB C T G ops st0 rest tss (st.after o.dst s) orc' with
    | some (vs,l,st2)=>some ((st.H.map (·.1)).Nodup/\v/\vs,s::l,st2)
    | none=>none
   | none=>none
  | some (j,pol)=>match (ops[j]?).bind (·.dst)with
   | none=>none
   | some d=>match V.guards pol (st.tmps.getD d .dead)with
    | none=>none
    | some b=>match qAY C T G (st.small ts) o.op orc with
     | some (v,x,orc') =>
      let s:Sm:=⟨.when b x,(st.small ts).H,(st.small ts).H,(st.small ts).pins,[],true⟩
      match yB C T G ops st0 rest tss (st.after o.dst s) orc' with
      | some (vs,l,st2)=>some ((st.H.map (·.1)).Nodup/\d<st.tmps.length/\(b=true->v)/\s.good/\vs,s::l,st2)
      | none=>none
     | none=>match b with
      | true=>match qEH C T G st0 (st.small ts) o orc with
       | some (v,s,orc')=>match yB C T G ops st0 rest tss (st.after o.dst { s with x := .when true s.x }) orc' with
        | some (vs,l,st2)=>some ((st.H.map (·.1)).Nodup/\d<st.tmps.length/\v/\vs,{ s with x := .when true s.x }::l,st2)
        | none=>none
       | none=>none
      | false =>
       let s:Sm:=⟨.when false (.p (.bool false)),[],[],[],[],true⟩
       match yB C T G ops st0 rest tss (st.after o.dst s) orc with
       | some (vs,l,st2)=>some ((st.H.map (·.1)).Nodup/\d<st.tmps.length/\vs,s::l,st2)
       | none=>none
theorem qQN:∀ {H:List (Nat × Box)},(H.map (·.1)).Nodup->∀ {a b:Nat × Box},a∈H->b∈H->a.1=b.1->a=b
 | [],_,a,b,ha,_,_=>by cases ha
 | e::r,hn,a,b,ha,hb,hab=>by
  simp only[List.map_cons,List.nodup_cons]at hn
  rcases List.mem_cons.1 ha with h1|h1 <;> rcases List.mem_cons.1 hb with h2|h2
  ·rw[h1,h2]
  ·exact(hn.1 (List.mem_map.2 ⟨b,h2,by rw[<-hab,h1]⟩)).elim
  ·exact(hn.1 (List.mem_map.2 ⟨a,h1,by rw[hab,h2]⟩)).elim
  exact qQN hn.2 h1 h2 hab
def zIR (P:Program) (G:qR) (l:List Oper) (i:Nat) (o:Oper) (tm:List V) (s:Sm):Prop :=
 ∀ (c:Ctx) (M:qW) (μ:Mu) (st:St) (tmps:Array Value) (w:World) (R:Exit->Act->World->Prop) (K:Act->World->Prop),xY G c->Rel c M μ st tmps w->kG st.tmps tm->(∀ id bx,(id,bx)∈s.H->(id,bx)∈st.H) ->
  (∀ n∈s.new,({ st with H:=zL (s.H.map (·.1)) st.H }:St).fresh n=true) ->
  (∀ u w' M' μ' H2,Rel c M' μ' { st with H:=H2 } tmps w'->RV M' μ' u s.x->(∀ p,p∈H2↔p∈s.H'\/(p∈st.H/\p.1 ∉ s.H.map (·.1)))->K (Act.put ⟨tmps,[]⟩ o.dst u) w')->wpOp P l.toArray R i K ⟨tmps,[]⟩ w
theorem uD {o:Oper} {small s':St} {x:V} {s:Sm} (hsx:s.H=small.H) (hsn:(small.H.map (·.1)).Nodup) (h2:s.H'=s'.H) (hps:∀ i∈s.ps,i∈s'.pins) (hky:∀ i,qM i s.H'=true->i∈s.H.map (·.1)\/i∈s.new)
  (hgood:∀ i∈V.ids x++jV s.H',i∈s.ps\/i∈s.new) (y:Yields P G o small x s') (c:Ctx) (M:qW) (μ:Mu) (st:St) (tmps:Array Value) (w:World) (R:Exit->Act->World->Prop) (K:Act->World->Prop) (hg:xY G c) (rel:Rel c M μ st tmps w)
  (hle:kG st.tmps small.tmps) (hbox:∀ id bx,(id,bx)∈s.H->(id,bx)∈st.H) (hnew:∀ n∈s.new,({ st with H:=zL (s.H.map (·.1)) st.H }:St).fresh n=true)
  (k:∀ u w' M' μ' H2,Rel c M' μ' { st with H:=H2 } tmps w'->RV M' μ' u x->(∀ p,p∈H2↔p∈s.H'\/(p∈st.H/\p.1 ∉ s.H.map (·.1)))->K (Act.put ⟨tmps,[]⟩ o.dst u) w'):o.wp P ⟨tmps,[]⟩ w K R:=by
 have hkey:∀ id,qM id small.H=true->qM id st.H=true:=fun id h=>by
  obtain⟨b,hb⟩:=qH.1 h;exact qH.2 ⟨b,hbox _ _ (hsx ▸ hb)⟩
 have hin:Rel ⟨w.heap.size,w,M,μ,wZ μ small.H⟩ M μ small tmps w :=
  ⟨rel.mem,fun _ _ _ h=>h,fun _ _ _=>rfl,rel.slots.weaken hle,fun _ _=>rfl,fun id bx h=>rel.box id bx (hbox id bx (hsx ▸ h)),hsn,fun i j b hi hj=>rel.inj i j b (hkey i hi) (hkey j hj),
   fun id b h hb=>⟨.inr ⟨id,h,hb⟩,(rel.own id b (hkey id h) hb).2⟩,Nat.le_refl _,Kept.refl _ _⟩
 refine jN (y _ M μ tmps w ((hg.go rel).ctxL μ (wZ μ small.H) (fun b hb o=>by obtain⟨id,h1,h2⟩:=hb;exact(hin.own id b h1 h2).2.2 o)) hin) ?_
 rintro u w' ⟨M',μ',r',hu⟩
 obtain⟨μ'',r'',hu''⟩:=zEY rel (H:=s.H) hbox (ps:=s.ps) (news:=s.new) (H':=s.H') (x:=x) hky hgood hnew (fun i hi=>r'.pins i (hps i hi)) (by rw[h2,hsx];exact(show Rel _ M' μ' ⟨s'.tmps,s'.pins,s'.H,s'.base⟩ tmps w' from r')) hu
 exact k u w' M' μ'' _ r'' hu'' fun p=>by rw[List.mem_append,kW]
theorem qNJ {l:List Oper} {i:Nat} {o:Oper} {tm:List V} {s:Sm} (ho:l[i]?=some o) (hgd:o.guard=none)
  (h:∀ c M μ st tmps w R K,xY G c->Rel c M μ st tmps w->kG st.tmps tm->(∀ id bx,(id,bx)∈s.H->(id,bx)∈st.H)->(∀ n∈s.new,({ st with H:=zL (s.H.map (·.1)) st.H }:St).fresh n=true) ->
   (∀ u w' M' μ' H2,Rel c M' μ' { st with H:=H2 } tmps w'->RV M' μ' u s.x->(∀ p,p∈H2↔p∈s.H'\/(p∈st.H/\p.1 ∉ s.H.map (·.1)))->K (Act.put ⟨tmps,[]⟩ o.dst u) w')->o.wp P ⟨tmps,[]⟩ w K R):zIR P G l i o tm s:=by
 intro c M μ st tmps w R K hg rel hle hbox hnew k
 unfold wpOp
 rw[show l.toArray[i]?=some o by simpa using ho]
 show if Region.wanted o (yielded l.toArray tmps)=true then _ else _
 rw[if_pos (by simp[Region.wanted,hgd])]
 exact .inl (h c M μ st tmps w R K hg rel hle hbox hnew k)
theorem qFY {l:List Oper} {i j d:Nat} {pol b:Bool} {o:Oper} {tm:List V} {s:Sm} {y:V} (ho:l[i]?=some o) (hgd:o.guard=some (j,pol)) (hd:yQ l j=some d) (hlt:d<tm.length)
  (hb:V.guards pol (tm.getD d .dead)=some b) (hx:s.x = .when b y) (hno:b=false->(s.H'=s.H))
  (h:b=true->∀ c M μ st tmps w R K,xY G c->Rel c M μ st tmps w->kG st.tmps tm->(∀ id bx,(id,bx)∈s.H->(id,bx)∈st.H)->(∀ n∈s.new,({ st with H:=zL (s.H.map (·.1)) st.H }:St).fresh n=true) ->
   (∀ u w' M' μ' H2,Rel c M' μ' { st with H:=H2 } tmps w'->RV M' μ' u y->(∀ p,p∈H2↔p∈s.H'\/(p∈st.H/\p.1 ∉ s.H.map (·.1)))->K (Act.put ⟨tmps,[]⟩ o.dst u) w')->o.wp P ⟨tmps,[]⟩ w K R):zIR P G l i o tm s:=by
 intro c M μ st tmps w R K hg rel hle hbox hnew k
 unfold wpOp
 rw[show l.toArray[i]?=some o by simpa using ho]
 show if Region.wanted o (yielded l.toArray tmps)=true then _ else _
 have hlt':d<st.tmps.length:=by rw[hle.len];exact hlt
 have hget:∃ u,tmps[d]?=some u:=by
  have:=rel.slots.1
  exact⟨tmps[d]'(by omega),by simp[show d<tmps.size by omega]⟩
 obtain⟨u0,hu0⟩:=hget
 have hx0:tm[d]?=some (tm.getD d .dead):=by simp[List.getD,hlt]
 obtain⟨hb1,hb2⟩:=V.guards_sound ((rel.slots.weaken hle).2 d u0 _ hu0 hx0) hb
 have hy:yielded l.toArray tmps j=xX u0:=by
  have e1:∀ o:Option Value,o=some u0->(match o with|some (.bool b)=>some b|_=>none)=xX u0:=by
   rintro _ rfl
   cases u0 <;> rfl
  unfold yielded
  rw[show(l.toArray[j]?).bind (·.dst)=some d by simpa[yQ]using hd]
  exact e1 _ hu0
 cases hbv:b with
 | true =>
  have hu:=hb1 hbv
  subst hu
  rw[if_pos (by simp[Region.wanted,hgd,hy,xX])]
  refine .inl (h hbv c M μ st tmps w R K hg rel hle hbox hnew fun u w' M' μ' H2 r' hv hm=>k u w' M' μ' H2 r' ?_ hm)
  rw[hx]
  exact .when (fun _=>hv) (fun e=>by rw[hbv]at e;cases e)
 | false =>
  have hu:=hb2 hbv
  rw[if_neg (by
   simp only[Region.wanted,hgd,hy]
   cases u0 with
   | bool t=>simp only[xX,beq_iff_eq,Option.some.injEq];rintro rfl;exact hu rfl
   | _=>simp[xX])]
  refine k undef w M μ st.H rel ?_ fun p => ?_
  ·rw[hx];exact .when (fun e=>by rw[hbv]at e;cases e) fun _=>rfl
  rw[hno hbv]
  constructor
  ·intro hp
   by_cases hk:p.1∈s.H.map (·.1)
   ·obtain⟨q,hq,hqe⟩:=List.mem_map.1 hk
    have h1:=hbox q.1 q.2 hq
    have:q=p:=by
     have hn:=rel.nodup
     exact qQN hn h1 hp hqe
    exact .inl (this ▸ hq)
   exact .inr ⟨hp,hk⟩
  rintro(hp|⟨hp,_⟩)
  ·exact hbox p.1 p.2 hp
  exact hp
end
def zLY (l:List Oper):Nat->Nat->Nat->Bool
 | 0,_,_=>false
 | f+1,i,k=>match l[i]? with
  | none=>false
  | some o=>jL o k || (List.range i).any fun j=>jL o j && zLY l f j k
inductive Anc (l:List Oper):Nat->Nat->Prop
 | edge {i k o}:l[i]?=some o->jL o k=true->Anc l i k
 | step {i j k o}:l[i]?=some o->jL o j=true->Anc l j k->Anc l i k
theorem qEQ {l:List Oper}:∀ {f i k:Nat},zLY l f i k=true->Anc l i k
 | 0,_,_,h=>by cases h
 | f+1,i,k,h=>by
  simp only[zLY]at h
  split at h
  ·cases h
  rename_i o ho
  simp only[Bool.or_eq_true,List.any_eq_true,Bool.and_eq_true]at h
  rcases h with h|⟨j,_,h1,h2⟩
  ·exact .edge ho h
  exact .step ho h1 (qEQ h2)
abbrev uU:=List (List Nat × List Nat × List Nat × List Nat)
def uG (l:List Oper) (m:Nat) (ss:uU):Bool :=
 (List.range m).all fun i=>(List.range m).all fun k=>k == i || match ss[i]?,ss[k]? with
  | some a,some b=>(a.1.all fun id => !b.2.1.contains id || (decide (k<i) && zLY l m i k) || (decide (i<k) && zLY l m k i)) && (a.2.2.1.all fun n => !b.2.2.2.contains n || zLY l m k i)
  | _,_=>false
section
variable {P:Program} {T:Tab} {G:qR} {Q:Exit->St->Prop} {l:List Oper} {m:Nat} {tss:List (List Nat)} {sms:List Sm}
theorem qMC (h:uG l m (sms.map Sm.sum)=true) {i k:Nat} {a b:Sm} (hi:i<m) (hk:k<m) (hik:k≠i) (ha:sms[i]?=some a) (hb:sms[k]?=some b) {id:Nat} (h1:id∈a.foot) (h2:id∈b.tch) :
  (k<i/\Anc l i k)\/(i<k/\Anc l k i):=by
 simp only[uG,List.all_eq_true,List.mem_range]at h
 have:=h i hi k hk
 simp only[List.getElem?_map,ha,hb,Option.map_some,Bool.or_eq_true,beq_iff_eq,Bool.and_eq_true,List.all_eq_true]at this
 have:=(this.resolve_left hik).1 id h1
 simp only[Sm.sum,Bool.not_eq_true',List.contains_eq_mem,decide_eq_false_iff_not,decide_eq_true_eq]at this
 rcases this with(h|h)|h
 ·exact(h h2).elim
 ·exact .inl ⟨h.1,qEQ h.2⟩
 exact .inr ⟨h.1,qEQ h.2⟩
theorem zBW (h:uG l m (sms.map Sm.sum)=true) {i k:Nat} {a b:Sm} (hi:i<m) (hk:k<m) (hik:k≠i) (ha:sms[i]?=some a) (hb:sms[k]?=some b) {n:Nat} (h1:n∈a.new) (h2:n∈b.refs):Anc l k i:=by
 simp only[uG,List.all_eq_true,List.mem_range]at h
 have:=h i hi k hk
 simp only[List.getElem?_map,ha,hb,Option.map_some,Bool.or_eq_true,beq_iff_eq,Bool.and_eq_true,List.all_eq_true]at this
 have:=(this.resolve_left hik).2 n h1
 simp only[Sm.sum,Bool.not_eq_true',List.contains_eq_mem,decide_eq_false_iff_not]at this
 exact qEQ (this.resolve_left (fun h=>h h2))
def inH (m:Nat) (sms:List Sm) (H0:List (Nat × Box)) (L:Nat->Bool) (p:Nat × Box):Prop :=
 (∃ j s,j<m/\L j=true/\sms[j]?=some s/\s.q=false/\p∈s.H'/\∀ k s',k<m->L k=true->j<k->sms[k]?=some s'->p.1 ∉ s'.tch) \/
 (p∈H0/\∀ k s',k<m->L k=true->sms[k]?=some s'->p.1 ∉ s'.tch)
structure DoneD (l:List Oper) (m:Nat) (sms:List Sm) (st0:St) (L:Nat->Bool) (ys:List V) (H:List (Nat × Box)):Prop where
 slots:Done l m (sms.map Sm.x) st0.tmps L ys
 box:∀ p,p∈H↔inH m sms st0.H L p
theorem zEK {s:Sm} {p:Nat × Box} (h:p∈s.H):p.1∈s.foot:=List.mem_append.2 (.inl (List.mem_map.2 ⟨p,h,rfl⟩))
theorem qFQ {s:Sm} {p:Nat × Box} (h:p∈s.H'):p.1∈s.foot:=List.mem_append.2 (.inr (List.mem_map.2 ⟨p,h,rfl⟩))
theorem DoneD.next (hchk:wI l m tss=true) {st0:St} {L L':Nat->Bool} {ys:List V} {H H2:List (Nat × Box)} (D:DoneD l m sms st0 L ys H) {i:Nat} {dq:Option Nat} {s:Sm} (hi:i<m) (hd:yQ l i=dq) (hs:sms[i]?=some s)
  (hq:s.q=true->s.H'=s.H) (hLi:L i=false) (hL:∀ j,L' j=(L j || j == i)) (hsub:∀ p∈s.H,p∈H) (hnd:(H.map (·.1)).Nodup)
  (hord:∀ k s',k<m->L k=true->sms[k]?=some s'->i<k->∀ id∈s.foot,id ∉ s'.tch)
  (hord2:∀ k s',k<m->L k=true->sms[k]?=some s'->i<k->∀ id∈s.tch,id ∉ s'.foot) (hfresh:∀ p∈s.H',p.1∈s.H.map (·.1)\/∀ q∈H,q.1 ∉ s.H.map (·.1)->q.1≠p.1)
  (hH2:∀ p,p∈H2↔p∈s.H'\/(p∈H/\p.1 ∉ s.H.map (·.1))):DoneD l m sms st0 L' (qSB ys dq s.x) H2:=by
 refine⟨D.slots.put hchk hi hd (by simp[hs]) hL,fun p => ?_⟩
 have hLk:∀ k,L' k=true->k=i\/L k=true:=fun k hk=>by
  rw[hL]at hk;simp only[Bool.or_eq_true,beq_iff_eq]at hk;exact hk.symm
 rw[hH2]
 by_cases hsq:s.q=true
 ·have hHH:=hq hsq
  have htch:s.tch=[]:=by simp[Sm.tch,hsq]
  have e1:(p∈s.H'\/(p∈H/\p.1 ∉ s.H.map (·.1)))↔p∈H:=by
   rw[hHH]
   constructor
   ·rintro(h|h)
    ·exact hsub p h
    exact h.1
   intro h
   by_cases hk:p.1∈s.H.map (·.1)
   ·obtain⟨q,hq',hqe⟩:=List.mem_map.1 hk
    have:=qQN hnd (hsub q hq') h hqe
    exact .inl (this ▸ hq')
   exact .inr ⟨h,hk⟩
  rw[e1,D.box]
  constructor
  ·rintro(⟨j,t,h1,h2,h3,h4,h5,h6⟩|⟨h1,h2⟩)
   ·refine .inl ⟨j,t,h1,by rw[hL,h2];rfl,h3,h4,h5,fun k s' hk hLk' hjk hs' => ?_⟩
    rcases hLk k hLk' with rfl|h
    ·rw[hs]at hs';cases hs';rw[htch];simp
    exact h6 k s' hk h hjk hs'
   refine .inr ⟨h1,fun k s' hk hLk' hs' => ?_⟩
   rcases hLk k hLk' with rfl|h
   ·rw[hs]at hs';cases hs';rw[htch];simp
   exact h2 k s' hk h hs'
  rintro(⟨j,t,h1,h2,h3,h4,h5,h6⟩|⟨h1,h2⟩)
  ·rcases hLk j h2 with rfl|h
   ·rw[hs]at h3;cases h3;rw[hsq]at h4;cases h4
   exact .inl ⟨j,t,h1,h,h3,h4,h5,fun k s' hk hLk' hjk hs'=>h6 k s' hk (by rw[hL,hLk'];rfl) hjk hs'⟩
  exact .inr ⟨h1,fun k s' hk hLk' hs'=>h2 k s' hk (by rw[hL,hLk'];rfl) hs'⟩
 have hsq':s.q=false:=by simpa using hsq
 have htch:s.tch=s.foot:=by simp[Sm.tch,hsq']
 constructor
 ·rintro(h|⟨h,hk⟩)
  ·refine .inl ⟨i,s,hi,by rw[hL];simp,hs,hsq',h,fun k s' hk hLk' hik hs' => ?_⟩
   rcases hLk k hLk' with rfl|h'
   ·omega
   exact hord k s' hk h' hs' hik _ (qFQ h)
  have hnt:p.1 ∉ s.tch:=by
   rw[htch]
   intro hf
   rcases List.mem_append.1 hf with hf|hf
   ·exact hk hf
   obtain⟨q,hq',hqe⟩:=List.mem_map.1 hf
   rcases hfresh q hq' with h1|h1
   ·rw[hqe]at h1;exact hk h1
   exact h1 p h hk hqe.symm
  rcases(D.box p).1 h with⟨j,t,h1,h2,h3,h4,h5,h6⟩|⟨h1,h2⟩
  ·refine .inl ⟨j,t,h1,by rw[hL,h2];rfl,h3,h4,h5,fun k s' hk' hLk' hjk hs' => ?_⟩
   rcases hLk k hLk' with rfl|h'
   ·rw[hs]at hs';cases hs';exact hnt
   exact h6 k s' hk' h' hjk hs'
  refine .inr ⟨h1,fun k s' hk' hLk' hs' => ?_⟩
  rcases hLk k hLk' with rfl|h'
  ·rw[hs]at hs';cases hs';exact hnt
  exact h2 k s' hk' h' hs'
 rintro(⟨j,t,h1,h2,h3,h4,h5,h6⟩|⟨h1,h2⟩)
 ·rcases hLk j h2 with rfl|h
  ·rw[hs]at h3;cases h3;exact .inl h5
  have hji:j≠i:=by rintro rfl;rw[hLi]at h;cases h
  have hnt:p.1 ∉ s.tch:=by
   rcases Nat.lt_or_gt_of_ne hji with hlt|hgt
   ·exact h6 i s hi (by rw[hL];simp) hlt hs
   exact fun hf=>hord2 j t h1 h h3 hgt _ hf (qFQ h5)
  refine .inr ⟨(D.box p).2 (.inl ⟨j,t,h1,h,h3,h4,h5,fun k s' hk hLk' hjk hs'=>h6 k s' hk (by rw[hL,hLk'];rfl) hjk hs'⟩),fun hk=>hnt ?_⟩
  rw[htch];exact List.mem_append.2 (.inl hk)
 have hnt:=h2 i s hi (by rw[hL];simp) hs
 refine .inr ⟨(D.box p).2 (.inr ⟨h1,fun k s' hk hLk' hs'=>h2 k s' hk (by rw[hL,hLk'];rfl) hs'⟩),fun hk=>hnt ?_⟩
 rw[htch];exact List.mem_append.2 (.inl hk)
theorem qGU (st:St) (ts:List Nat):∀ p∈(st.small ts).H,p∈st.H:=fun _ hp=>qJP hp
theorem qFX {s:Sm} (h:s.good):∀ i∈V.ids s.x++jV s.H',i∈s.ps\/i∈s.new:=fun i hi=>uK h _ (List.mem_map.2 ⟨i,hi,rfl⟩)
structure SmOK (P:Program) (G:qR) (st0 st:St) (ts:List Nat) (o:Oper) (s:Sm):Prop where
 H:∀ p∈s.H,p∈(st.small ts).H
 q:s.q=true->s.H'=s.H
 good:∀ i∈V.ids s.x++jV s.H',i∈s.ps\/i∈s.new
 ps:∀ i,qM i s.H'=true->i∈s.H.map (·.1)\/i∈s.new
 new:∀ n∈s.new,st0.fresh n=true
 goes:∀ c M μ st' tmps w R K,xY G c->Rel c M μ st' tmps w->kG st'.tmps (wM st.tmps ts)->(∀ id bx,(id,bx)∈s.H->(id,bx)∈st'.H)->(∀ n∈s.new,({ st' with H:=zL (s.H.map (·.1)) st'.H }:St).fresh n=true) ->
   (∀ u w' M' μ' H2,Rel c M' μ' { st' with H:=H2 } tmps w'->RV M' μ' u s.x->(∀ p,p∈H2↔p∈s.H'\/(p∈st'.H/\p.1 ∉ s.H.map (·.1)))->K (Act.put ⟨tmps,[]⟩ o.dst u) w')->o.wp P ⟨tmps,[]⟩ w K R
theorem qPV (hT:TOK P T) {st0 st:St} {ts:List Nat} {o:Oper} {orc orc':List PD} {v:Prop} {x:V} (hnd:(st.H.map (·.1)).Nodup) (h:qAY (kn P G) T G (st.small ts) o.op orc=some (v,x,orc')) (hv:v)
  (hg:(Sm.mk x (st.small ts).H (st.small ts).H (st.small ts).pins [] true).good):SmOK P G st0 st ts o ⟨x,(st.small ts).H,(st.small ts).H,(st.small ts).pins,[],true⟩:=by
 have hsn:((st.small ts).H.map (·.1)).Nodup:=(List.Sublist.map _ (kU _ _)).nodup hnd
 have y:=qPW hT h hv
 have hky:∀ i,qM i (st.small ts).H=true->i∈(st.small ts).H.map (·.1)\/i∈([]:List Nat):=fun i hi => .inl (wE.1 hi)
 refine⟨fun _ h=>h,fun _=>rfl,qFX hg,hky,fun n hn=>(by cases hn),fun c M μ st' tmps w R K hG rel hle hbox hnew k => ?_⟩
 exact uD (s:=⟨x,(st.small ts).H,(st.small ts).H,(st.small ts).pins,[],true⟩) rfl hsn rfl (fun i hi=>hi) hky (qFX hg) y c M μ st' tmps w R K hG rel hle hbox hnew k
theorem qEG (hT:TOK P T) {st0 st:St} {ts:List Nat} {o:Oper} {orc orc':List PD} {v:Prop} {s:Sm} (hnd:(st.H.map (·.1)).Nodup) (h:qEH (kn P G) T G st0 (st.small ts) o orc=some (v,s,orc')) (hv:v):SmOK P G st0 st ts o s:=by
 have hsn:((st.small ts).H.map (·.1)).Nodup:=(List.Sublist.map _ (kU _ _)).nodup hnd
 unfold qEH at h
 split at h
 ·rename_i v0 x orc0 hq
  simp only[Option.some.injEq,Prod.mk.injEq]at h
  obtain⟨rfl,rfl,rfl⟩:=h
  exact qPV hT hnd hq hv.1 hv.2
 split at h
 ·rename_i v0 x s' orc0 hs
  simp only[Option.some.injEq,Prod.mk.injEq]at h
  obtain⟨rfl,rfl,rfl⟩:=h
  have y:=zAD hT hs hv.1
  obtain⟨Hc,hc1,hc2⟩:=St.cutS_spec G (st.small ts) o
  have hcn:(((st.small ts).cutS G o).H.map (·.1)).Nodup:=by rw[hc1];exact(List.Sublist.map _ hc2).nodup hsn
  have hky:∀ i,qM i s'.H=true->i∈((st.small ts).cutS G o).H.map (·.1)\/i∈[qED (st.small ts) o.dst]:=fun i hi=>by
   obtain⟨b,hb⟩:=qH.1 hi
   have:=uK hv.2.2.1 _ (List.mem_map.2 ⟨_,hb,rfl⟩)
   exact this.imp id fun h=>List.mem_singleton.2 h
  refine⟨fun p hp=>by rw[hc1]at hp;exact hc2.mem hp,(by intro h;cases h),qFX hv.2.1,hky,fun n hn => ?_,fun c M μ st' tmps w R K hG rel hle hbox hnew k => ?_⟩
  ·rw[List.mem_singleton.1 hn];exact hv.2.2.2
  have hle':kG st'.tmps ((st.small ts).cutS G o).tmps:=by rw[hc1];exact hle
  exact uD (s:=⟨x,((st.small ts).cutS G o).H,s'.H,s'.pins,[qED (st.small ts) o.dst],false⟩) rfl hcn rfl (fun i hi=>hi) hky (qFX hv.2.1) y c M μ st' tmps w R K hG rel hle' hbox hnew k
 cases h
def DC (l:List Oper) (m:Nat) (L:Nat->Bool):Prop:=∀ j o,j<m->L j=true->l[j]?=some o->∀ k,jL o k=true->L k=true
theorem zGA (hchk:wI l m tss=true) {i k:Nat} (h:Anc l i k):k<i:=by
 have e1:∀ {i k o},l[i]?=some o->jL o k=true->k<i:=fun ho he=>by
  obtain⟨e,h1,h2,h3⟩:=qAC he
  have:=(uJ hchk ho).2 e h1 h2
  omega
 induction h with
 | edge ho he=>exact e1 ho he
 | step ho he _ ih=>have:=e1 ho he;omega
theorem DC.anc (hchk:wI l m tss=true) {L:Nat->Bool} (d:DC l m L) {i k:Nat} (h:Anc l i k):i<m->L i=true->L k=true:=by
 induction h with
 | edge ho he=>exact fun hi hL=>d _ _ hi hL ho _ he
 | @step i j k o ho he h ih =>
  intro hi hL
  have:=zGA hchk (.edge ho he)
  exact ih (by omega) (d _ _ hi hL ho _ he)
theorem DC.below (hchk:wI l m tss=true) (k:Nat):DC l m fun j=>decide (j<k):=by
 intro j o hj hL ho n he
 have:=zGA hchk (.edge ho he)
 simp only[decide_eq_true_eq]at hL ⊢
 omega
structure Facts (st0:St) (s:Sm):Prop where
 q:s.q=true->s.H'=s.H
 good:∀ i∈V.ids s.x++jV s.H',i∈s.ps\/i∈s.new
 ps:∀ i,qM i s.H'=true->i∈s.H.map (·.1)\/i∈s.new
 new:∀ n∈s.new,st0.fresh n=true
theorem qUR {st0:St} (hchk:wI l m tss=true) (hconf:uG l m (sms.map Sm.sum)=true) {L:Nat->Bool} (dc:DC l m L) {ys:List V} {H:List (Nat × Box)} (D:DoneD l m sms st0 L ys H) {i:Nat} {s:Sm} (hi:i<m) (hs:sms[i]?=some s) (hLi:L i=false)
  (F:Facts st0 s):∀ n∈s.new, ∀ q∈H,q.1≠n:=by
 rintro n hn q hq rfl
 rcases(D.box q).1 hq with⟨j,t,h1,h2,h3,_,h5,_⟩|⟨h1,_⟩
 ·have hji:j≠i:=by rintro rfl;rw[hLi]at h2;cases h2
  have:=zBW hconf hi h1 hji hs h3 hn (List.mem_append.2 (.inl (List.mem_append.2 (.inr (qBG (qH.2 ⟨q.2,h5⟩))))))
  have:=dc.anc hchk this h1 h2
  rw[hLi]at this;cases this
 have:=(St.fresh_spec (F.new _ hn)).2.2.2
 rw[qH.2 ⟨q.2,h1⟩]at this;cases this
theorem DoneD.go {st0:St} (hchk:wI l m tss=true) (hconf:uG l m (sms.map Sm.sum)=true) {L L':Nat->Bool} (dc:DC l m L) {ys:List V} {H H2:List (Nat × Box)} (D:DoneD l m sms st0 L ys H) {i:Nat} {dq:Option Nat} {s:Sm} (hi:i<m) (hd:yQ l i=dq)
  (hs:sms[i]?=some s) (hLi:L i=false) (F:Facts st0 s) (hL:∀ j,L' j=(L j || j == i)) (hsub:∀ p∈s.H,p∈H) (hnd:(H.map (·.1)).Nodup) (hH2:∀ p,p∈H2↔p∈s.H'\/(p∈H/\p.1 ∉ s.H.map (·.1))):DoneD l m sms st0 L' (qSB ys dq s.x) H2:=by
 have no:∀ k,k<m->L k=true->¬ Anc l k i:=fun k hk hLk ha=>by
  have:=dc.anc hchk ha hk hLk
  rw[hLi]at this;cases this
 refine D.next hchk hi hd hs F.q hLi hL hsub hnd (fun k s' hk hLk hs' hik id h1 h2 => ?_) (fun k s' hk hLk hs' hik id h1 h2 => ?_) (fun p hp => ?_) hH2
 ·rcases qMC hconf hi hk (by omega) hs hs' h1 h2 with⟨h,_⟩|⟨_,h⟩
  ·omega
  exact no k hk hLk h
 ·rcases qMC hconf hk hi (by omega) hs' hs h2 h1 with⟨_,h⟩|⟨h,_⟩
  ·exact no k hk hLk h
  omega
 rcases F.ps p.1 (qH.2 ⟨p.2,hp⟩)with h|h
 ·exact .inl h
 exact .inr fun q hq _=>qUR hchk hconf dc D hi hs hLi F _ h q hq
structure Told (P:Program) (G:qR) (l:List Oper) (m:Nat) (sms:List Sm) (st0:St) (i:Nat):Prop where
 ex:∃ o s ys H,l[i]?=some o/\sms[i]?=some s/\DoneD l m sms st0 (fun j=>decide (j<i)) ys H/\Facts st0 s/\(∀ p∈s.H,p∈H)/\zIR P G l i o (wM ys (o.looksAt l.toArray)) s
theorem qXL (hT:TOK P T) (hchk:wI l m tss=true) (hconf:uG l m (sms.map Sm.sum)=true) (st0:St):∀ (k:Nat) (rest:List Oper) (ts:List (List Nat)) (st st2:St) (orc:List PD) (v:Prop) (zs:List Sm),
  rest=(l.take m).drop k->ts=tss.drop k->zs=sms.drop k->k<=m->sms.length=m->st.pins=st0.pins->st.base=st0.base->DoneD l m sms st0 (fun j=>decide (j<k)) st.tmps st.H ->
  yB (kn P G) T G l st0 rest ts st orc=some (v,zs,st2)->v ->
  (∀ i,k<=i->i<m->Told P G l m sms st0 i)/\st2.pins=st0.pins/\st2.base=st0.base/\DoneD l m sms st0 (fun j=>decide (j<m)) st2.tmps st2.H/\(st2.H.map (·.1)).Nodup:=by
 intro k rest
 induction rest generalizing k with
 | nil =>
  intro ts st st2 orc v zs hr _ hz hk hxl hp hb D h hv
  simp only[yB,Option.some.injEq,Prod.mk.injEq]at h
  obtain⟨rfl,h2,rfl⟩:=h
  have hkm:k=m:=by
   have h3:(List.drop k (List.take m l)).length=0:=by rw[<-hr];rfl
   have:=qDH hchk
   simp at h3
   omega
  subst hkm
  exact⟨fun i h1 h2=>by omega,hp,hb,D,hv⟩
 | cons o rest ih =>
  intro ts st st2 orc v zs hr hts hz hk hxl hp hb D h hv
  have hkm:k<m:=by
   have h3:(List.drop k (List.take m l)).length=rest.length+1:=by rw[<-hr];rfl
   simp at h3
   omega
  obtain⟨o',ho',htk,hsep⟩:=vO hchk hkm
  have hoo:o=o':=by
   have h3:(List.drop k (List.take m l))[0]?=some o:=by rw[<-hr];rfl
   rw[List.getElem?_drop,List.getElem?_take,Nat.add_zero,if_pos hkm,ho']at h3
   cases h3;rfl
  subst hoo
  have hrest:rest=(l.take m).drop (k+1):=by
   have:=congrArg (List.drop 1) hr
   simpa[List.drop_drop,Nat.add_comm]using this
  obtain⟨t1,tss1,hts'⟩:∃ t1 tss1,ts=t1::tss1:=by
   cases ts with
   | nil=>have:=congrArg List.length hts;simp at this;have:=(List.getElem?_eq_some_iff.1 htk).1;omega
   | cons a b=>exact⟨a,b,rfl⟩
  subst hts'
  have ht1:t1=o.looksAt l.toArray:=by
   have h3:(List.drop k tss)[0]?=some t1:=by rw[<-hts];rfl
   rw[List.getElem?_drop,Nat.add_zero,htk]at h3
   cases h3;rfl
  have hts1:tss1=tss.drop (k+1):=by
   have:=congrArg (List.drop 1) hts
   simpa[List.drop_drop,Nat.add_comm]using this
  have hdk:yQ l k=o.dst:=by simp[yQ,ho']
  have next:∀ (s:Sm) (zs':List Sm) (vs:Prop) (orc':List PD),zs=s::zs'->yB (kn P G) T G l st0 rest tss1 (st.after o.dst s) orc'=some (vs,zs',st2)->vs->(st.H.map (·.1)).Nodup->Facts st0 s->(∀ p∈s.H,p∈st.H) ->
    zIR P G l k o (wM st.tmps (o.looksAt l.toArray)) s ->
    (∀ i,k<=i->i<m->Told P G l m sms st0 i)/\st2.pins=st0.pins/\st2.base=st0.base/\DoneD l m sms st0 (fun j=>decide (j<m)) st2.tmps st2.H/\(st2.H.map (·.1)).Nodup:=by
   intro s zs' vs orc' hzz hrun hvs hnd F hsub hgo
   have hxk:sms[k]?=some s:=by
    have h3:(List.drop k sms)[0]?=some s:=by rw[<-hz,hzz];rfl
    rw[List.getElem?_drop,Nat.add_zero]at h3;exact h3
   have hz':zs'=sms.drop (k+1):=by
    have:=congrArg (List.drop 1) hz
    rw[hzz]at this
    simpa[List.drop_drop,Nat.add_comm]using this
   have D':DoneD l m sms st0 (fun j=>decide (j<k+1)) (st.after o.dst s).tmps (st.after o.dst s).H:=by
    have:=D.go hchk hconf (DC.below hchk k) (L':=fun j=>decide (j<k+1)) hkm hdk hxk (by simp) F (fun j=>by
     by_cases h1:j<k
     ·simp[h1,show j<k+1 by omega]
     by_cases h2:j=k
     ·simp[h2]
     simp[h1,h2,show ¬ j<k+1 by omega]) hsub hnd (H2:=s.H'++zL (s.H.map (·.1)) st.H) (fun p=>by rw[List.mem_append,kW])
    have e1:(st.after o.dst s).tmps=qSB st.tmps o.dst s.x:=by cases hq:o.dst <;> rfl
    rw[e1];exact this
   have e2:(st.after o.dst s).pins=st.pins:=by cases hq:o.dst <;> rfl
   have e3:(st.after o.dst s).base=st.base:=by cases hq:o.dst <;> rfl
   obtain⟨h1,h2,h3⟩:=ih (k+1) tss1 _ st2 orc' vs zs' hrest hts1 hz' hkm hxl (e2.trans hp) (e3.trans hb) D' hrun hvs
   refine⟨fun i hi1 hi2 => ?_,h2,h3⟩
   rcases Nat.eq_or_lt_of_le hi1 with e|e
   ·subst e
    exact⟨o,s,st.tmps,st.H,ho',hxk,D,F,hsub,hgo⟩
   exact h1 i e hi2
  subst ht1
  simp only[yB]at h
  split at h
  ·rename_i hgd
   split at h
   ·rename_i v1 s orc1 hs
    split at h
    ·rename_i vs xs1 st3 hrun
     simp only[Option.some.injEq,Prod.mk.injEq]at h
     obtain⟨rfl,h5,rfl⟩:=h
     have K:=qEG hT hv.1 hs hv.2.1
     exact next s xs1 vs orc1 h5.symm hrun hv.2.2 hv.1 ⟨K.q,K.good,K.ps,K.new⟩ (fun p hp=>qGU st _ p (K.H p hp)) (qNJ ho' hgd K.goes)
    cases h
   cases h
  rename_i j pol hgd
  split at h
  ·cases h
  rename_i e he
  have hmem:(o.looksAt l.toArray).contains e=true:=by
   simp only[Oper.looksAt,hgd,List.contains_eq_mem,decide_eq_true_eq,List.mem_append]
   right
   have:(l.toArray[j]?).bind (·.dst)=some e:=by simpa using he
   rw[this];simp
  have hde:yQ l j=some e:=by simpa[yQ]using he
  have hmask:(wM st.tmps (o.looksAt l.toArray)).getD e .dead=st.tmps.getD e .dead:=by rw[qDZ,if_pos hmem]
  split at h
  ·cases h
  rename_i b hbg
  rw[<-hmask]at hbg
  split at h
  ·rename_i v1 x orc1 hs
   split at h
   ·rename_i vs xs1 st3 hrun
    simp only[Option.some.injEq,Prod.mk.injEq]at h
    obtain⟨rfl,h5,rfl⟩:=h
    obtain⟨hnd,hlt,hv1,hgood,hvs⟩:=hv
    have hgood':(Sm.mk x (st.small (o.looksAt l.toArray)).H (st.small (o.looksAt l.toArray)).H (st.small (o.looksAt l.toArray)).pins [] true).good:=by
     have:V.ids (.when b x)=V.ids x:=by simp only[V.ids]
     simp only[Sm.good,this]at hgood ⊢; exact hgood
    refine next _ xs1 vs orc1 h5.symm hrun hvs hnd ⟨fun _=>rfl,qFX hgood,fun i hi => .inl (wE.1 hi),fun n hn=>(by cases hn)⟩ (fun p hp=>qGU st _ p hp) ?_
    refine qFY ho' hgd hde (by rw[qCV];exact hlt) hbg rfl (fun _=>rfl) fun hbt => ?_
    have K:=qPV (st0:=st0) hT hnd hs (hv1 hbt) hgood'
    exact K.goes
   cases h
  split at h
  ·split at h
   ·rename_i v1 s orc1 hs
    split at h
    ·rename_i vs xs1 st3 hrun
     simp only[Option.some.injEq,Prod.mk.injEq]at h
     obtain⟨rfl,h5,rfl⟩:=h
     obtain⟨hnd,hlt,hv1,hvs⟩:=hv
     have K:=qEG hT hnd hs hv1
     have hids:V.ids (.when true s.x)=V.ids s.x:=by simp only[V.ids]
     refine next _ xs1 vs orc1 h5.symm hrun hvs hnd ⟨K.q,by rw[show({ s with x:=V.when true s.x }:Sm).x = .when true s.x from rfl,hids];exact K.good,K.ps,K.new⟩ (fun p hp=>qGU st _ p (K.H p hp)) ?_
     exact qFY ho' hgd hde (by rw[qCV];exact hlt) hbg rfl (fun h=>by cases h) fun _=>K.goes
    cases h
   cases h
  split at h
  ·rename_i vs xs1 st3 hrun
   simp only[Option.some.injEq,Prod.mk.injEq]at h
   obtain⟨rfl,h5,rfl⟩:=h
   obtain⟨hnd,hlt,hvs⟩:=hv
   refine next _ xs1 vs orc h5.symm hrun hvs hnd ⟨fun _=>rfl,fun i hi=>(by simp[V.ids,jV]at hi),fun i hi => .inl (wE.1 hi),fun n hn=>(by cases hn)⟩ (fun p hp=>(by cases hp)) ?_
   exact qFY ho' hgd hde (by rw[qCV];exact hlt) hbg rfl (fun _=>rfl) fun h=>by cases h
  cases h
theorem DoneD.put0 (st0:St):DoneD l m sms st0 (fun j=>decide (j<0)) st0.tmps st0.H:=by
 refine⟨⟨rfl,fun j d _ _ h=>by simp at h,fun t _=>rfl⟩,fun p => ?_⟩
 constructor
 ·exact fun h => .inr ⟨h,fun k s' _ hL=>by simp at hL⟩
 rintro(⟨j,s,_,h,_⟩|⟨h,_⟩)
 ·simp at h
 exact h
theorem Rel.nodupH {c:Ctx} {M:qW} {μ:Mu} {st:St} {tmps:Array Value} {w:World} (r:Rel c M μ st tmps w):(st.H.map (·.1)).Nodup:=r.nodup
theorem qRB (hchk:wI l m tss=true) (hconf:uG l m (sms.map Sm.sum)=true) (st0:St) (hgo:∀ i,i<m->Told P G l m sms st0 i)
  (st2:St) (hp2:st2.pins=st0.pins) (D2:DoneD l m sms st0 (fun j=>decide (j<m)) st2.tmps st2.H) (hnd2:(st2.H.map (·.1)).Nodup) (late:zE P G l.toArray Q (l.drop m) st2) {c:Ctx} (hg:xY G c) :
  ∀ (n:Nat) (fuel:Nat) (listed:Array Bool) (M:qW) (μ:Mu) (ys:List V) (H:List (Nat × Box)) (tmps:Array Value) (w:World),n=((List.range l.length).filter fun j => !listed.getD j false).length->n<=fuel->listed.size=l.length ->
   (∀ j,m<=j->j<l.length->listed.getD j false=false)->DC l m (fun j=>listed.getD j false)->DoneD l m sms st0 (fun j=>listed.getD j false) ys H->Rel c M μ { st0 with tmps:=ys,H:=H } tmps w ->
   wpAny P .any l.toArray (zRK c Q) fuel listed ⟨tmps,[]⟩ w:=by
 intro n
 induction n using Nat.strongRecOn with
 | _ n ih =>
 intro fuel listed M μ ys H tmps w hn hf hsz hlate dc D r
 by_cases hall:∀ j,j<m->listed.getD j false=true
 ·have hys:ys=st2.tmps:=by
   refine List.ext_getElem? fun t => ?_
   by_cases hex:∃ j d,j<m/\yQ l j=some d/\d=t
   ·obtain⟨j,d,hj,hd,rfl⟩:=hex
    by_cases hlt:d<ys.length
    ·rw[D.slots.done j d hj hd (hall j hj) hlt,D2.slots.done j d hj hd (by simp[hj]) (by rw[D2.slots.len,<-D.slots.len];exact hlt)]
    rw[List.getElem?_eq_none (by omega),List.getElem?_eq_none (by rw[D2.slots.len,<-D.slots.len];omega)]
   have hno:∀ j,j<m->yQ l j=some t->False:=fun j hj hd=>hex ⟨j,t,hj,hd,rfl⟩
   rw[D.slots.else' t fun j hj hd=>(hno j hj hd).elim,D2.slots.else' t fun j hj hd=>(hno j hj hd).elim]
  have hHH:∀ p,p∈st2.H->p∈H:=fun p hp=>by
   rw[D.box]
   rcases(D2.box p).1 hp with⟨j,s,h1,_,h3,h4,h5,h6⟩|⟨h1,h2⟩
   ·exact .inl ⟨j,s,h1,hall j h1,h3,h4,h5,fun k s' hk _ hjk hs'=>h6 k s' hk (by simp[hk]) hjk hs'⟩
   exact .inr ⟨h1,fun k s' hk _ hs'=>h2 k s' hk (by simp[hk]) hs'⟩
  have hl:∀ j,j<l.length->listed.getD j false=decide (j<m):=fun j hj=>by
   by_cases h:j<m
   ·rw[hall j h];simp[h]
   rw[hlate j (by omega) hj];simp[h]
  have hcount:l.length-m<=fuel:=by
   have h1:∀ (p:Nat->Bool) k,(∀ j,j<k->p j=decide (m<=j))->((List.range k).filter p).length=k-m:=by
    intro p k hp
    induction k with
    | zero=>simp
    | succ k ihk =>
     rw[List.range_succ,List.filter_append,List.length_append,ihk fun j hj=>hp j (by omega)]
     simp only[List.filter_cons,List.filter_nil,hp k (by omega)]
     by_cases h:m<=k
     ·simp[h];omega
     simp[h];omega
   have h2:=h1 (fun j => !listed.getD j false) l.length fun j hj=>by
    show(!listed.getD j false)=_
    rw[hl j hj]
    by_cases h:j<m
    ·simp[h]
    simp[h,show m<=j by omega]
   omega
  refine zQU hchk (l.length-m) m fuel listed _ w rfl (Nat.le_refl _) (qDH hchk) hsz hl hcount ?_
  refine late c M μ tmps w hg ?_
  refine r.weaken ⟨?_,hp2,fun p hp=>hHH p hp,hnd2⟩
  rw[<-hys];exact kG.refl _
 obtain⟨j0,hj0,hmin⟩:∃ j0,(j0<m/\listed.getD j0 false=false)/\∀ j,j<j0->listed.getD j false=true:=by
  have hex:∃ j,j<m/\listed.getD j false=false:=by
   refine Classical.byContradiction fun h=>hall fun j hj => ?_
   cases hv:listed.getD j false with
   | true=>rfl
   | false=>exact(h ⟨j,hj,hv⟩).elim
  obtain⟨j,hj⟩:=hex
  induction j using Nat.strongRecOn with
  | _ j ihj =>
   by_cases h:∃ k,k<j/\listed.getD k false=false
   ·obtain⟨k,hk,hkv⟩:=h
    exact ihj k hk ⟨by omega,hkv⟩
   refine⟨j,hj,fun k hk => ?_⟩
   cases hv:listed.getD k false with
   | true=>rfl
   | false=>exact(h ⟨k,hk,hv⟩).elim
 have hml:=qDH hchk
 obtain⟨o0,ho0⟩:∃ o,l[j0]?=some o:=⟨l[j0]'(by omega),by simp[show j0<l.length by omega]⟩
 have hr0:j0∈Region.ready .any l.toArray listed:=by
  refine mem_ready.2 ⟨?_,o0,by simpa using ho0,fun e he hb=>hmin _ ((uJ hchk ho0).2 e he hb)⟩
  have e1:j0<listed.size:=by omega
  have:=hj0.2
  simp[e1]at this ⊢
  exact this
 cases fuel with
 | zero =>
  have hmem:j0∈(List.range l.length).filter fun j => !listed.getD j false:=by
   refine List.mem_filter.2 ⟨by simp;omega, ?_⟩
   show(!listed.getD j0 false)=true
   rw[hj0.2];rfl
  have:=List.length_pos_of_mem hmem
  omega
 | succ fuel =>
  refine⟨fun hr=>(by rw[hr]at hr0;cases hr0),fun i hi => ?_⟩
  obtain⟨h0,o,ho,hdeps⟩:=mem_ready.1 hi
  have ho':l[i]?=some o:=by simpa using ho
  have hil:i<l.length:=(List.getElem?_eq_some_iff.1 ho').1
  have hui:listed.getD i false=false:=by
   have e1:i<listed.size:=by omega
   simp[e1]at h0 ⊢
   exact h0
  have him:i<m:=by
   rcases Nat.lt_or_ge i m with h|h
   ·exact h
   obtain⟨e,he,hb,hj⟩:=qAC ((uJ hchk ho').1 h j0 (by omega))
   have:=hdeps e he hb
   rw[hj,hj0.2]at this;cases this
  obtain⟨o1,s,zs,Hs,ho1,hs,Di,F,hsub,hg1⟩:=(hgo i him).ex
  rw[ho']at ho1;cases ho1
  obtain⟨o2,ho2,htk,hsep⟩:=vO hchk him
  rw[ho']at ho2;cases ho2
  have hdi:yQ l i=o.dst:=by simp[yQ,ho']
  have hready:∀ k,jL o k=true->listed.getD k false=true:=fun k hk=>by
   obtain⟨e,he,hb,hon⟩:=qAC hk
   have:=hdeps e he hb
   rw[hon]at this;exact this
  have hanc:∀ k,Anc l i k->listed.getD k false=true:=fun k hk=>by
   cases hk with
   | edge h1 h2=>rw[ho']at h1;cases h1;exact hready k h2
   | @step _ j _ _ h1 h2 h3 =>
    rw[ho']at h1;cases h1
    have hji:=zGA hchk (.edge ho' h2)
    exact dc.anc hchk h3 (by omega) (hready j h2)
  have no:∀ k,k<m->listed.getD k false=true->¬ Anc l k i:=fun k hk hLk ha=>by
   have:listed.getD i false=true:=dc.anc hchk ha hk hLk
   rw[hui]at this;cases this
  have hsub':∀ p∈s.H,p∈H:=fun p hp=>by
   have ht:∀ k s',k<m->sms[k]?=some s'->p.1∈s'.tch->k≠i->(listed.getD k false=true↔k<i):=fun k s' hk hs' h1 hki=>by
    rcases qMC hconf him hk hki hs hs' (zEK hp) h1 with⟨h2,h3⟩|⟨h2,h3⟩
    ·exact⟨fun _=>h2,fun _=>hanc k h3⟩
    exact⟨fun h=>(no k hk h h3).elim,fun h=>by omega⟩
   rw[D.box]
   rcases(Di.box p).1 (hsub p hp)with⟨j,t,h1,h2,h3,h4,h5,h6⟩|⟨h1,h2⟩
   ·have hji:j<i:=by simpa using h2
    have htj:p.1∈t.tch:=by
     have:t.tch=t.foot:=by simp[Sm.tch,h4]
     rw[this];exact qFQ h5
    refine .inl ⟨j,t,h1,(ht j t h1 h3 htj (by omega)).2 hji,h3,h4,h5,fun k s' hk hLk hjk hs' hin => ?_⟩
    have hki:k≠i:=by
     rintro rfl
     have h9:listed.getD k false=true:=hLk
     rw[hui]at h9;cases h9
    exact h6 k s' hk (by simpa using(ht k s' hk hs' hin hki).1 hLk) hjk hs' hin
   refine .inr ⟨h1,fun k s' hk hLk hs' hin => ?_⟩
   have hki:k≠i:=by
    rintro rfl
    have h9:listed.getD k false=true:=hLk
    rw[hui]at h9;cases h9
   exact h2 k s' hk (by simpa using(ht k s' hk hs' hin hki).1 hLk) hs' hin
  have hle:kG ys (wM zs (o.looksAt l.toArray)):=by
   have key:∀ (as bs:List V),as.length=bs.length->(∀ t,VLe (as.getD t .dead) (bs.getD t .dead))->kG as bs:=by
    intro as
    induction as with
    | nil=>intro bs h _;cases bs with
     | nil=>trivial
     | cons=>simp at h
    | cons a as iha=>intro bs h h';cases bs with
     | nil=>simp at h
     | cons b bs =>
      refine⟨by simpa using h' 0,iha bs (by simpa using h) fun t => ?_⟩
      have:=h' (t+1)
      simpa using this
   refine key _ _ (by rw[qCV,D.slots.len,Di.slots.len]) fun t => ?_
   rw[qDZ]
   split
   ·rename_i hmem
    have hmem':t∈o.looksAt l.toArray:=by simpa using hmem
    have heq:ys[t]?=zs[t]?:=by
     by_cases hex:∃ j,j<m/\yQ l j=some t
     ·obtain⟨j,hj,hdt⟩:=hex
      rcases(hsep j hj).2 t hdt hmem' with⟨hji,hedge⟩|⟨hij,oj,hoj,hedge⟩
      ·have hlj:=hready j hedge
       by_cases hlt:t<ys.length
       ·rw[D.slots.done j t hj hdt hlj hlt,Di.slots.done j t hj hdt (by simp[hji]) (by rw[Di.slots.len,<-D.slots.len];exact hlt)]
       rw[List.getElem?_eq_none (by omega),List.getElem?_eq_none (by rw[Di.slots.len,<-D.slots.len];omega)]
      have huniq:∀ k,k<m->yQ l k=some t->k=j:=fun k hk hkt=>by
       apply Classical.byContradiction
       intro hne
       obtain⟨oj2,hoj2,_,hsep2⟩:=vO hchk hj
       rw[hoj]at hoj2;cases hoj2
       exact(hsep2 k hk).1 hne t (by simpa only[yQ,hoj,Option.bind_some]using hdt) hkt
      have hnj:listed.getD j false=false:=by
       rw[<-Bool.not_eq_true];intro hl
       have:listed.getD i false=true:=dc.anc hchk (.edge hoj hedge) hj hl
       rw[hui]at this;cases this
      rw[D.slots.else' t fun k hk hkt=>by rw[huniq k hk hkt];exact hnj,Di.slots.else' t fun k hk hkt=>by rw[huniq k hk hkt];simp;omega]
     have hno:∀ j,j<m->yQ l j=some t->False:=fun j hj hd=>hex ⟨j,hj,hd⟩
     rw[D.slots.else' t fun j hj hd=>(hno j hj hd).elim,Di.slots.else' t fun j hj hd=>(hno j hj hd).elim]
    rw[List.getD_eq_getElem?_getD,List.getD_eq_getElem?_getD,heq]
    exact VLe.refl _
   exact VLe.dead _
  have hfresh:∀ n∈s.new,({ st0 with tmps:=ys,H:=zL (s.H.map (·.1)) H }:St).fresh n=true:=fun n hn=>by
   obtain⟨f1,f2,f3,f4⟩:=St.fresh_spec (F.new n hn)
   have hkeys:=qUR hchk hconf dc D him hs hui F n hn
   have href:∀ j t,j<m->listed.getD j false=true->sms[j]?=some t->n ∉ t.refs:=fun j t hj hL ht hin=>by
    have hji:j≠i:=by
     rintro rfl
     have h9:listed.getD j false=true:=hL
     rw[hui]at h9;cases h9
    exact no j hj hL (zBW hconf him hj hji hs ht hn hin)
   have a1:V.noRefL n ys=true:=by
    have key:∀ (as:List V),(∀ (t:Nat) x,as[t]?=some x->V.noRef n x=true)->V.noRefL n as=true:=by
     intro as
     induction as with
     | nil=>intro _;simp only[V.noRefL]
     | cons a as iha =>
      intro h
      simp only[V.noRefL,Bool.and_eq_true]
      exact⟨h 0 a rfl,iha fun t x hx=>h (t+1) x (by simpa using hx)⟩
    refine key ys fun t x hx => ?_
    by_cases hex:∃ j,j<m/\yQ l j=some t/\listed.getD j false=true
    ·obtain⟨j,hj,hdt,hL⟩:=hex
     have hlt:t<ys.length:=(List.getElem?_eq_some_iff.1 hx).1
     have:=D.slots.done j t hj hdt hL hlt
     rw[hx,List.getElem?_map]at this
     obtain⟨sj,hsj,hxj⟩:=Option.map_eq_some_iff.1 this.symm
     cases hr:V.noRef n x with
     | true=>rfl
     | false=>exact(href j sj hj hL hsj (List.mem_append.2 (.inl (List.mem_append.2 (.inl (hxj ▸ V.ids_of x hr)))))).elim
    have:ys[t]?=st0.tmps[t]?:=D.slots.else' t fun j hj hd=>by
     cases hL:listed.getD j false with
     | false=>rfl
     | true=>exact(hex ⟨j,hj,hd,hL⟩).elim
    rw[this]at hx
    exact V.noRefL_get f1 hx
   have a3:kK n (zL (s.H.map (·.1)) H)=true:=by
    have key:∀ (as:List (Nat × Box)),(∀ p∈as,p.2.noRef n=true)->kK n as=true:=by
     intro as
     induction as with
     | nil=>intro _;rfl
     | cons a as iha =>
      intro h
      simp only[kK,Bool.and_eq_true]
      exact⟨h a (by simp),iha fun p hp=>h p (by simp[hp])⟩
    refine key _ fun p hp => ?_
    rcases(D.box p).1 (kW.1 hp).1 with⟨j,t,h1,h2,h3,_,h5,_⟩|⟨h1,_⟩
    ·cases hr:p.2.noRef n with
     | true=>rfl
     | false=>exact(href j t h1 h2 h3 (List.mem_append.2 (.inl (List.mem_append.2 (.inr (qKC (i:=p.1) (b:=p.2) h5 n (Box.ids_of hr))))))).elim
    exact xR f3 h1
   have a4:qM n (zL (s.H.map (·.1)) H)=false:=by
    cases hk:qM n (zL (s.H.map (·.1)) H)with
    | false=>rfl
    | true =>
     obtain⟨b,hb⟩:=qH.1 hk
     exact(hkeys (n,b) (kW.1 hb).1 rfl).elim
   simp only[St.fresh,a1,a3,a4,Bool.and_true,Bool.not_false,Bool.true_and]
   simpa using f2
  refine hg1 c M μ { st0 with tmps:=ys,H:=H } tmps w _ _ hg r hle (fun id bx h=>hsub' _ h) hfresh ?_
  intro u w' M' μ' H2 r' hv hm
  rw[Act.put_tmps]
  have r2:=r'.put hv o.dst
  rw[St.put_putT]at r2
  have hLL:∀ j,(listed.setIfInBounds i true).getD j false=(listed.getD j false || j == i):=fun j=>by
   by_cases hij:i=j
   ·subst hij
    have:i<listed.size:=by omega
    simp[this]
   rw[getD_set_ne false hij];simp[Ne.symm hij]
  have D':=D.go hchk hconf dc (L':=fun j=>(listed.setIfInBounds i true).getD j false) him hdi hs hui F hLL hsub' r.nodupH hm
  have dc':DC l m (fun j=>(listed.setIfInBounds i true).getD j false):=fun j oj hj hLj hoj k hk=>by
   simp only[hLL]at hLj ⊢
   by_cases hji:j=i
   ·subst hji
    rw[ho']at hoj;cases hoj
    rw[hready k hk];rfl
   have:listed.getD j false=true:=by simpa[hji]using hLj
   have:=dc j oj hj this hoj k hk
   simp only[]at this
   rw[this];rfl
  have hcnt:((List.range l.length).filter fun j => !(listed.setIfInBounds i true).getD j false).length<((List.range l.length).filter fun j => !listed.getD j false).length:=by
   refine qUS (fun j hj => ?_) ?_ ?_ (List.mem_range.2 hil)
   ·by_cases hij:i=j
    ·subst hij;rw[hui];rfl
    rw[getD_set_ne false hij]at hj;exact hj
   ·rw[hui];rfl
   have e1:i<listed.size:=by omega
   simp[e1]
  refine ih _ ?_ fuel (listed.setIfInBounds i true) M' μ' (qSB ys o.dst s.x) H2 _ w' rfl ?_ (by simp[hsz]) (fun j hj hjl => ?_) dc' D' r2
  ·omega
  ·omega
  rw[getD_set_ne false (by omega)];exact hlate j hj hjl
theorem AW.runDraw0 (hT:TOK P T) (hmix:P.follows .mixedOrders=true) (m:Nat) (tss:List (List Nat)) (orc1:List PD) {id:Nat} {st st1:St} {sms:List Sm} {v1:Prop} (hchk:wI l m tss=true)
  (h1:yB (kn P G) T G l st (l.take m) tss st orc1=some (v1,sms,st1)) (hv1:v1) (hconf:uG l m (sms.map Sm.sum)=true) (hlate:zE P G l.toArray Q (l.drop m) st1) :
  AW P G (.region id l.toArray true) Q st:=by
 intro c M μ tmps w hg r
 refine wp_region_any hmix ?_
 have hml:=qDH hchk
 have hxl:sms.length=m:=by
  have key:∀ (rest:List Oper) (ts:List (List Nat)) (s s2:St) (orc:List PD) (v:Prop) (zs:List Sm),yB (kn P G) T G l st rest ts s orc=some (v,zs,s2)->zs.length=rest.length:=by
   intro rest
   induction rest with
   | nil=>intro ts s s2 orc v zs h;simp only[yB,Option.some.injEq,Prod.mk.injEq]at h;rw[<-h.2.1];rfl
   | cons o rest ih =>
    intro ts s s2 orc v zs h
    cases ts with
    | nil=>simp[yB]at h
    | cons t ts =>
     simp only[yB]at h
     repeat' split at h
     all_goals first
      | cases h;done
      | (rename_i hr;simp only[Option.some.injEq,Prod.mk.injEq]at h;rw[<-h.2.1];simp[ih _ _ _ _ _ _ hr])
  have:=key _ _ _ _ _ _ _ h1
  rw[this];simp;omega
 obtain⟨hgo,hp2,_,D2,hnd2⟩:=qXL hT hchk hconf st 0 (l.take m) tss st st1 orc1 _ sms (by simp) (by simp) (by simp) (Nat.zero_le _) hxl rfl rfl (DoneD.put0 st) h1 hv1
 have hsize:l.toArray.size=l.length:=by simp
 refine qRB hchk hconf st (fun i hi=>hgo i (Nat.zero_le _) hi) st1 hp2 D2 hnd2 hlate hg _ _ _ M μ st.tmps st.H tmps _ rfl ?_ (by simp) (fun j _ hj=>by simp[Array.getD]) (fun j o _ h=>by simp[Array.getD]at h) ?_ (r.same ⟨rfl,rfl,rfl,Nat.le_refl _,fun _ _=>rfl⟩)
 ·rw[hsize]
  exact Nat.le_trans (List.length_filter_le _ _) (by simp)
 have:(fun j=>(Array.replicate l.toArray.size false).getD j false)=fun j=>decide (j<0):=by
  funext j;simp[Array.getD]
 rw[this];exact DoneD.put0 st
attribute [simp] yB qEH qAY zHC qWN qXQ unp St.small jP St.after Sm.good zOS qED
end
def yD (i:Nat):List (Nat × V)->V
 | [] => .dead
 | (j,x)::r=>if j=i then x else yD i r
def zEU (i:Nat) (v:V):List (Nat × V)->List (Nat × V)
 | []=>[(i,v)]
 | (j,x)::r=>if j=i then(j,v)::r else(j,x)::zEU i v r
def qSC (f:V->V):List (Nat × V)->List (Nat × V)
 | []=>[]
 | (j,x)::r=>(j,f x)::qSC f r
def qNH (ks:List Nat):List (Nat × V)->List (Nat × V)
 | []=>[]
 | (j,x)::r=>if ks.contains j then(j,x)::qNH ks r else qNH ks r
def qQC (id:Nat):List (Nat × V)->Bool
 | []=>true
 | (_,x)::r=>V.noRef id x && qQC id r
def leA (as:List (Nat × V)):List (Nat × V)->Prop
 | []=>True
 | (j,x)::r=>VLe (yD j as) x/\leA as r
def zA (n:Nat) (as:List (Nat × V)):List V:=(List.range n).map fun i=>yD i as
@[simp] theorem qYT (n:Nat) (as:List (Nat × V)):(zA n as).length=n:=by simp[zA]
@[simp] theorem qCK (n:Nat) (as:List (Nat × V)) (i:Nat):(zA n as)[i]?=if i<n then some (yD i as) else none:=by
 simp only[zA,List.getElem?_map]
 by_cases h:i<n <;> simp[h]
theorem qLC (n:Nat) (as:List (Nat × V)) (i:Nat):(zA n as).getD i .dead=if i<n then yD i as else .dead:=by
 rw[List.getD_eq_getElem?_getD,qCK]
 split <;> rfl
@[simp] theorem zSF {n i:Nat} {as:List (Nat × V)} (h:i<(zA n as).length):(zA n as)[i]=yD i as:=by simp[zA]
theorem qUC (i j:Nat) (v:V):∀ as,yD j (zEU i v as)=if i=j then v else yD j as
 | []=>by simp[zEU,yD]
 | (k,x)::r=>by
  simp only[zEU]
  split
  ·rename_i h
   subst h
   simp only[yD]
   by_cases h2:k=j <;> simp[h2]
  rename_i h
  simp only[yD,qUC i j v r]
  by_cases h2:k=j
  ·subst h2;simp[Ne.symm h]
  simp[h2]
@[simp] theorem zMS (n:Nat) (as:List (Nat × V)) (i:Nat) (v:V):(zA n as).set i v=zA n (zEU i v as):=by
 apply List.ext_getElem?
 intro k
 rw[List.getElem?_set,qCK,qCK,qYT,qUC]
 by_cases h:i=k
 ·subst h;simp
 simp[h]
theorem qUB {f:V->V} (hf:f .dead = .dead) (i:Nat):∀ as,yD i (qSC f as)=f (yD i as)
 | []=>by simp[qSC,yD,hf]
 | (k,x)::r=>by
  simp only[qSC,yD,qUB hf i r]
  split <;> rfl
theorem qJC {f:V->V} (hf:f .dead = .dead) (n:Nat) (as:List (Nat × V)):(zA n as).map f=zA n (qSC f as):=by
 simp only[zA,List.map_map]
 exact List.map_congr_left fun i _=>(qUB hf i as).symm
def zHP (id:Nat) (x:V):V:=match V.noRef id x with
 | true=>x
 | false => .dead
theorem qUH (id:Nat):∀ l,qCX id l=l.map (zHP id)
 | []=>rfl
 | x::xs=>by
  simp only[qCX,List.map_cons,qUH id xs]
  congr 1
@[simp] theorem zYP (id n:Nat) (as:List (Nat × V)):qCX id (zA n as)=zA n (qSC (zHP id) as):=by
 rw[qUH,qJC (by simp[zHP,V.noRef])]
@[simp] theorem zZK (id:Nat) (d:PD) (n:Nat) (as:List (Nat × V)):V.frzL id d (zA n as)=zA n (qSC (V.frz id d) as):=by
 rw[V.frzL_eq,qJC (by simp only[V.frz])]
@[simp] theorem zZJ (i j n:Nat) (as:List (Nat × V)):V.renL i j (zA n as)=zA n (qSC (V.ren i j) as):=by
 rw[V.renL_eq,qJC (by simp only[V.ren])]
theorem qNC {id:Nat} (i:Nat):∀ {as:List (Nat × V)},qQC id as=true->V.noRef id (yD i as)=true
 | [],_=>by simp[yD,V.noRef]
 | (k,x)::r,h=>by
  simp only[qQC,Bool.and_eq_true]at h
  simp only[yD]
  split
  ·exact h.1
  exact qNC i h.2
@[simp] theorem zDL {id n:Nat} {as:List (Nat × V)} (h:qQC id as=true):V.noRefL id (zA n as)=true:=by
 have key:∀ (as:List V),(∀ x∈as,V.noRef id x=true)->V.noRefL id as=true:=by
  intro as
  induction as with
  | nil=>intro _;simp only[V.noRefL]
  | cons a as ih =>
   intro h
   simp only[V.noRefL,Bool.and_eq_true]
   exact⟨h a (by simp),ih fun x hx=>h x (by simp[hx])⟩
 refine key _ fun x hx => ?_
 obtain⟨i,_,rfl⟩:=List.mem_map.1 hx
 exact qNC i h
@[simp] theorem zMT {id n:Nat}:V.noRefL id (zA n [])=true:=zDL rfl
theorem qIQ (ks:List Nat) (i:Nat):∀ as,yD i (qNH ks as)=if ks.contains i then yD i as else .dead
 | []=>by simp[qNH,yD]
 | (k,x)::r=>by
  simp only[qNH]
  split
  ·rename_i h
   simp only[yD,qIQ ks i r]
   by_cases h2:k=i
   ·subst h2;rw[if_pos rfl,if_pos rfl,if_pos h]
   rw[if_neg h2,if_neg h2]
  rename_i h
  rw[qIQ ks i r]
  simp only[yD]
  by_cases h2:k=i
  ·subst h2;rw[if_neg h,if_neg h]
  rw[if_neg h2]
@[simp] theorem zJA (n:Nat) (as:List (Nat × V)) (ks:List Nat):wM (zA n as) ks=zA n (qNH ks as):=by
 apply List.ext_getElem?
 intro i
 rw[qTY,qCK,qYT,qIQ,qLC]
 by_cases h:i<n <;> simp[h]
theorem qXZ:∀ {as bs:List V},as.length=bs.length->(∀ t,VLe (as.getD t .dead) (bs.getD t .dead))->kG as bs
 | [],[],_,_=>trivial
 | [],_::_,h,_=>by simp at h
 | _::_,[],h,_=>by simp at h
 | a::as,b::bs,h,h'=>⟨by simpa using h' 0,qXZ (by simpa using h) fun t=>by have:=h' (t+1);simpa using this⟩
theorem zBD {as:List (Nat × V)} (i:Nat):∀ {bs:List (Nat × V)},leA as bs->VLe (yD i as) (yD i bs)
 | [],_=>by simp only[yD];exact .dead _
 | (k,x)::r,h=>by
  simp only[yD]
  split
  ·rename_i e;subst e;exact h.1
  exact zBD i h.2
theorem qE {n:Nat} {as bs:List (Nat × V)} (h:leA as bs):kG (zA n as) (zA n bs):=by
 refine qXZ (by simp) fun t => ?_
 rw[qLC,qLC]
 split
 ·exact zBD t h
 exact VLe.refl _
def zHW (k1:List Nat) (H:List (Nat × Box)):List (Nat × Box):=jP (k1++jV (jP (k1++jV (jP k1 H)) H)) H
def St.keep (ks:List Nat) (st:St):St:=⟨wM st.tmps ks,st.pins,zHW ((ks.flatMap fun t=>V.ids (st.tmps.getD t .dead))++st.pins) st.H,st.base⟩
theorem zHK (l:List V) (ks:List Nat):kG l (wM l ks):=by
 refine qXZ (by rw[qCV]) fun t => ?_
 rw[qDZ]
 split
 ·exact VLe.refl _
 exact VLe.dead _
theorem Rel.keep {c:Ctx} {M:qW} {μ:Mu} {st:St} {tmps:Array Value} {w:World} (r:Rel c M μ st tmps w) (ks:List Nat):Rel c M μ (st.keep ks) tmps w :=
 r.weaken ⟨zHK _ _,rfl,fun _ hp=>qJP hp,(List.Sublist.map _ (kU _ _)).nodup r.nodup⟩
def zBF (ks:List Nat):Option (Prop × St)->Option (Prop × St)
 | some (v,st)=>some (v,st.keep ks)
 | none=>none
section
variable {P:Program} {T:Tab} {G:qR} {Q:Exit->St->Prop} {st st1 st2 st':St}
theorem AW.keep {c:Code} (ks:List Nat) (k:AW P G c Q (st.keep ks)):AW P G c Q st:=fun x M μ tmps w hg r=>k x M μ tmps w hg (r.keep ks)
theorem zE.keep {ops:Array Oper} {l:List Oper} (ks:List Nat) (k:zE P G ops Q l (st.keep ks)):zE P G ops Q l st:=fun x M μ tmps w hg r=>k x M μ tmps w hg (r.keep ks)
theorem zER {ks:List Nat} {o:Option (Prop × St)} {v:Prop} (h:zBF ks o=some (v,st')):∃ s,o=some (v,s)/\st'=s.keep ks:=by
 unfold zBF at h
 split at h
 ·rename_i v0 s
  simp only[Option.some.injEq,Prod.mk.injEq]at h
  obtain⟨rfl,rfl⟩:=h
  exact⟨s,rfl,rfl⟩
 cases h
def qIJ (C:Know) (T:Tab) (G:qR) (f:St->St) (o:Oper) (st:St) (orc:List PD):Option (Prop × St × List PD) :=
 match qBU G st o.op with
 | none=>none
 | some st=>match qBR C T G st o.op orc with
  | some (v,x,orc')=>some (v,f (st.put o.dst x),orc')
  | none=>match qNL C T G st o orc with
   | some (v,x,st',orc')=>some (v,f (st'.put o.dst x),orc')
   | none=>none
def qII (C:Know) (T:Tab) (G:qR) (f:St->St) (o:Oper) (d:Nat) (pol:Bool) (st:St) (orc:List PD):Option (Prop × St × List PD) :=
 match qBU G st o.op with
 | none=>none
 | some st=>match V.guards pol (st.tmps.getD d .dead)with
  | none=>none
  | some b=>match qBR C T G st o.op orc with
   | some (v,x,orc')=>some (d<st.tmps.length/\(b=true->v),f (st.put o.dst (.when b x)),orc')
   | none=>match b with
    | true=>match qNL C T G st o orc with
     | some (v,x,st',orc')=>some (d<st.tmps.length/\v,f (st'.put o.dst (.when true x)),orc')
     | none=>none
    | false=>some (d<st.tmps.length,f (st.put o.dst (.when false (.p (.bool false)))),orc)
theorem zE.oneF (hT:TOK P T) {f:St->St} {ops:Array Oper} {o:Oper} {rest:List Oper} {v:Know->Prop} {orc orc':List PD} (hf:∀ {l s},zE P G ops Q l (f s)->zE P G ops Q l s) (h:∀ C,qIJ C T G f o st orc=some (v C,st',orc')) (hv:v (kn P G)) (hgd:o.guard=none)
  (k:zE P G ops Q rest st'):zE P G ops Q (o::rest) st:=by
 have h:=h (kn P G)
 unfold qIJ at h
 split at h
 ·cases h
 rename_i st0 hpre
 refine zE.pre hpre ?_
 split at h
 ·rename_i hs
  simp only[Option.some.injEq,Prod.mk.injEq]at h
  obtain⟨rfl,rfl,rfl⟩:=h
  exact zE.step hgd (xG hT hs hv) (hf k)
 split at h
 ·rename_i hs
  simp only[Option.some.injEq,Prod.mk.injEq]at h
  obtain⟨rfl,rfl,rfl⟩:=h
  exact zE.step hgd (jR hT hs hv) (hf k)
 cases h
theorem zE.oneIfF (hT:TOK P T) {f:St->St} (d:Nat) {ops:Array Oper} {o:Oper} {rest:List Oper} {j:Nat} {pol:Bool} {v:Know->Prop} {orc orc':List PD} (hf:∀ {l s},zE P G ops Q l (f s)->zE P G ops Q l s) (h:∀ C,qII C T G f o d pol st orc=some (v C,st',orc')) (hv:v (kn P G))
  (hgd:o.guard=some (j,pol)) (hd:(ops[j]?).bind (·.dst)=some d) (k:zE P G ops Q rest st'):zE P G ops Q (o::rest) st:=by
 have h:=h (kn P G)
 unfold qII at h
 split at h
 ·cases h
 rename_i st0 hpre
 refine zE.pre hpre ?_
 split at h
 ·cases h
 rename_i b hb
 split at h
 ·rename_i hs
  simp only[Option.some.injEq,Prod.mk.injEq]at h
  obtain⟨h1,rfl,rfl⟩:=h
  have hv':=h1.symm ▸ hv
  exact zE.stepIf hgd hd hv'.1 hb (fun hbt=>xG hT hs (hv'.2 hbt)) (hf k)
 split at h
 ·split at h
  ·rename_i hs
   simp only[Option.some.injEq,Prod.mk.injEq]at h
   obtain⟨h1,rfl,rfl⟩:=h
   have hv':=h1.symm ▸ hv
   exact zE.stepIfT hgd hd hv'.1 hb (jR hT hs hv'.2) (hf k)
  cases h
 simp only[Option.some.injEq,Prod.mk.injEq]at h
 obtain⟨h1,rfl,rfl⟩:=h
 have hv':=h1.symm ▸ hv
 exact zE.stepIfF hgd hd hv' hb (hf k)
def zGU (C:Know) (T:Tab) (G:qR) (ks:List Nat) (o:Oper) (st:St) (orc:List PD):Option (Prop × St × List PD):=qIJ C T G (St.keep ks) o st orc
def zGT (C:Know) (T:Tab) (G:qR) (ks:List Nat) (o:Oper) (d:Nat) (pol:Bool) (st:St) (orc:List PD):Option (Prop × St × List PD):=qII C T G (St.keep ks) o d pol st orc
def keepIf (ks:List Nat) (st:St):St:=match ks with
 | []=>st
 | _::_=>st.keep ks
theorem zE.keepIf {ops:Array Oper} {l:List Oper} (ks:List Nat) (k:zE P G ops Q l (keepIf ks st)):zE P G ops Q l st:=by
 cases ks with
 | nil=>exact k
 | cons a r=>exact zE.keep _ k
theorem zE.one (hT:TOK P T) (ks:List Nat) (orc:List PD) {ops:Array Oper} {o:Oper} {rest:List Oper} {v:Know->Prop} {orc':List PD} (h:∀ C,zGU C T G ks o st orc=some (v C,st',orc')) (hv:v (kn P G)) (hgd:o.guard=none)
  (k:zE P G ops Q rest st'):zE P G ops Q (o::rest) st:=zE.oneF hT (zE.keep ks) h hv hgd k
theorem zE.oneIf (hT:TOK P T) (ks:List Nat) (orc:List PD) (d:Nat) {ops:Array Oper} {o:Oper} {rest:List Oper} {j:Nat} {pol:Bool} {v:Know->Prop} {orc':List PD} (h:∀ C,zGT C T G ks o d pol st orc=some (v C,st',orc')) (hv:v (kn P G))
  (hgd:o.guard=some (j,pol)) (hd:(ops[j]?).bind (·.dst)=some d) (k:zE P G ops Q rest st'):zE P G ops Q (o::rest) st:=zE.oneIfF hT d (zE.keep ks) h hv hgd hd k
theorem zE.stepK (ks:List Nat) {ops:Array Oper} {o:Oper} {rest:List Oper} {x:V} (hgd:o.guard=none) (h:Yields P G o st x st1) (hk:(st1.put o.dst x).keep ks=st') (k:zE P G ops Q rest st'):zE P G ops Q (o::rest) st :=
 zE.step hgd h (zE.keep ks (hk ▸ k))
theorem zE.keepEnd {ops:Array Oper} (ks:List Nat) (k:Q .normal (st.keep ks)):zE P G ops Q [] st:=zE.keep ks (zE.nil k)
def qB (P:Program) (G:qR) (ops:Array Oper) (Q:Exit->St->Prop) (l:List Oper) (st:St) (_:List PD):Prop:=zE P G ops Q l st
theorem qB.nil {ops:Array Oper} {orc:List PD} (h:Q .normal st):qB P G ops Q [] st orc:=zE.nil h
theorem qB.one (hT:TOK P T) (ks:List Nat) {orc:List PD} {ops:Array Oper} {o:Oper} {rest:List Oper} {v:Know->Prop} {orc':List PD} (h:∀ C,zGU C T G ks o st orc=some (v C,st',orc')) (hv:v (kn P G)) (hgd:o.guard=none)
  (k:qB P G ops Q rest st' orc'):qB P G ops Q (o::rest) st orc:=zE.one hT ks orc h hv hgd k
theorem qB.oneIf (hT:TOK P T) (ks:List Nat) {orc:List PD} (d:Nat) {ops:Array Oper} {o:Oper} {rest:List Oper} {j:Nat} {pol:Bool} {v:Know->Prop} {orc':List PD} (h:∀ C,zGT C T G ks o d pol st orc=some (v C,st',orc')) (hv:v (kn P G))
  (hgd:o.guard=some (j,pol)) (hd:(ops[j]?).bind (·.dst)=some d) (k:qB P G ops Q rest st' orc'):qB P G ops Q (o::rest) st orc:=zE.oneIf hT ks orc d h hv hgd hd k
theorem s1 (hT:TOK P T) (ks:List Nat) {orc:List PD} {ops:Array Oper} {o:Oper} {rest:List Oper} {v:Know->Prop} {orc':List PD} (k:qB P G ops Q rest st' orc')
  (h:∀ C,zGU C T G ks o st orc=some (v C,st',orc'):=by intro C;conv=>lhs;simp) (hv:v (kn P G):=by first|exact True.intro|omega|simp|(simp +contextual;omega)) (hgd:o.guard=none:=by rfl):qB P G ops Q (o::rest) st orc:=zE.one hT ks orc h hv hgd k
theorem s2 (hT:TOK P T) (ks:List Nat) (d:Nat) {orc:List PD} {ops:Array Oper} {o:Oper} {rest:List Oper} {j:Nat} {pol:Bool} {v:Know->Prop} {orc':List PD} (hgd:o.guard=some (j,pol)) (hd:(ops[j]?).bind (·.dst)=some d) (k:qB P G ops Q rest st' orc')
  (h:∀ C,zGT C T G ks o d pol st orc=some (v C,st',orc'):=by intro C;conv=>lhs;simp) (hv:v (kn P G):=by first|exact True.intro|omega|simp|(simp +contextual;omega)):qB P G ops Q (o::rest) st orc:=zE.oneIf hT ks orc d h hv hgd hd k
def uM (P:Program) (G:qR) (ops:Array Oper) (Q:Exit->St->Prop) (l:List Oper) (st:St) (_:List PD) (_:List (List Nat)):Prop:=zE P G ops Q l st
theorem qB.run (kss:List (List Nat)) {orc:List PD} {ops:Array Oper} {l:List Oper} (h:uM P G ops Q l st orc kss):qB P G ops Q l st orc:=h
theorem qJ {kss:List (List Nat)} {orc:List PD} {ops:Array Oper} {l:List Oper} (h:qB P G ops Q l st orc):uM P G ops Q l st orc kss:=h
theorem qA {kss:List (List Nat)} {ops:Array Oper} {orc:List PD} (h:Q .normal st):uM P G ops Q [] st orc kss:=zE.nil h
theorem rgz (orc:List PD) (kss:List (List Nat)) {id:Nat} {l:List Oper} (h:uM P G l.toArray Q l st orc kss):AW P G (.region id l.toArray false) Q st:=AW.region h
theorem rgn (orc:List PD) (kss:List (List Nat)) {id:Nat} {l:List Oper} {b:Code} (h:uM P G l.toArray (andThen (AW P G b Q) Q) l st orc kss):AW P G (.seq (.region id l.toArray false) b) Q st:=AW.seq (AW.region h)
theorem op1 (hT:TOK P T) {ks:List Nat} {kss:List (List Nat)} {orc:List PD} {ops:Array Oper} {o:Oper} {rest:List Oper} {v:Know->Prop} {orc':List PD} (k:uM P G ops Q rest st' orc' kss) (hgd:o.guard=none:=by rfl)
  (h:∀ C,qIJ C T G (keepIf ks) o st orc=some (v C,st',orc'):=by intro C;conv=>lhs;simp) (hv:v (kn P G):=by first|exact True.intro|omega|simp|(simp +contextual;omega)) :
  uM P G ops Q (o::rest) st orc (ks::kss):=zE.oneF hT (zE.keepIf ks) h hv hgd k
theorem op2 (hT:TOK P T) {ks:List Nat} {kss:List (List Nat)} {d:Nat} {orc:List PD} {ops:Array Oper} {o:Oper} {rest:List Oper} {j:Nat} {pol:Bool} {v:Know->Prop} {orc':List PD} (k:uM P G ops Q rest st' orc' kss) (hgd:o.guard=some (j,pol):=by rfl) (hd:(ops[j]?).bind (·.dst)=some d:=by rfl)
  (h:∀ C,qII C T G (keepIf ks) o d pol st orc=some (v C,st',orc'):=by intro C;conv=>lhs;simp) (hv:v (kn P G):=by first|exact True.intro|omega|simp|(simp +contextual;omega)):uM P G ops Q (o::rest) st orc (ks::kss):=zE.oneIfF hT d (zE.keepIf ks) h hv hgd hd k
theorem op3 {ks:List Nat} {kss:List (List Nat)} {orc:List PD} {ops:Array Oper} {o:Oper} {rest:List Oper} {v:Know->Prop} {orc':List PD} (k:uM P G ops Q rest st' orc' kss) (hT:TOK P T:=by exact tok) (hgd:o.guard=none:=by rfl)
  (h:∀ C,qIJ C T G (keepIf ks) o st orc=some (v C,st',orc'):=by intro C;conv=>lhs;simp) (hv:v (kn P G):=by first|exact True.intro|omega|simp|(simp +contextual;omega)) :
  uM P G ops Q (o::rest) st orc (ks::kss):=zE.oneF hT (zE.keepIf ks) h hv hgd k
theorem op4 {ks:List Nat} {kss:List (List Nat)} {d:Nat} {orc:List PD} {ops:Array Oper} {o:Oper} {rest:List Oper} {j:Nat} {pol:Bool} {v:Know->Prop} {orc':List PD} (k:uM P G ops Q rest st' orc' kss) (hT:TOK P T:=by exact tok) (hgd:o.guard=some (j,pol):=by rfl) (hd:(ops[j]?).bind (·.dst)=some d:=by rfl)
  (h:∀ C,qII C T G (keepIf ks) o d pol st orc=some (v C,st',orc'):=by intro C;conv=>lhs;simp) (hv:v (kn P G):=by first|exact True.intro|omega|simp|(simp +contextual;omega)):uM P G ops Q (o::rest) st orc (ks::kss):=zE.oneIfF hT d (zE.keepIf ks) h hv hgd hd k
theorem ai {a b:Prop} (x:a) (y:b):a/\b:=⟨x,y⟩
theorem oq1 (hT:TOK P T) {ks:List Nat} {kss:List (List Nat)} {orc:List PD} {ops:Array Oper} {o:Oper} {rest:List Oper} {v:Know->Prop} {orc':List PD} {A:Prop} (hA:A) (k:uM P G ops Q rest st' orc' kss) (hgd:o.guard=none:=by rfl)
    (h:∀ C,qIJ C T G (keepIf ks) o st orc=some (v C,st',orc'):=by intro C;conv=>lhs;simp) (hv:A->v (kn P G):=by intro hA;first|with_reducible exact True.intro|exact hA|exact hA.1|exact hA.2|exact hA.2.1|exact hA.2.2|(simpa using hA;done)|omega|simp|(simp +contextual;omega)) :
    uM P G ops Q (o::rest) st orc (ks::kss):=zE.oneF hT (zE.keepIf ks) h (hv hA) hgd k
theorem oq2 (hT:TOK P T) {ks:List Nat} {kss:List (List Nat)} {d:Nat} {orc:List PD} {ops:Array Oper} {o:Oper} {rest:List Oper} {j:Nat} {pol:Bool} {v:Know->Prop} {orc':List PD} {A:Prop} (hA:A) (k:uM P G ops Q rest st' orc' kss) (hgd:o.guard=some (j,pol):=by rfl) (hd:(ops[j]?).bind (·.dst)=some d:=by rfl)
    (h:∀ C,qII C T G (keepIf ks) o d pol st orc=some (v C,st',orc'):=by intro C;conv=>lhs;simp) (hv:A->v (kn P G):=by intro hA;first|with_reducible exact True.intro|exact hA|exact hA.1|exact hA.2|exact hA.2.1|exact hA.2.2|(simpa using hA;done)|omega|simp|(simp +contextual;omega)):uM P G ops Q (o::rest) st orc (ks::kss):=zE.oneIfF hT d (zE.keepIf ks) h (hv hA) hgd hd k
theorem cnd {c:Operand} {x y:Code} {p:Prop} {b:Bool} (h1:b=true->AW P G x Q st) (h2:b=false->AW P G y Q st) (hc:st.arg G c=(p,.p (.bool b)):=by conv=>lhs;simp) (hp:p:=by exact trivial):AW P G (.cond c x y) Q st:=AW.cond hc hp h1 h2
theorem qB.stepK (ks:List Nat) {orc:List PD} {ops:Array Oper} {o:Oper} {rest:List Oper} {x:V} (h:Yields P G o st x st1) (hk:(st1.put o.dst x).keep ks=st') (hgd:o.guard=none) (k:qB P G ops Q rest st' orc):qB P G ops Q (o::rest) st orc :=
 zE.stepK ks hgd h hk k
theorem AW.regionO (orc:List PD) {id:Nat} {l:List Oper} (h:qB P G l.toArray Q l st orc):AW P G (.region id l.toArray false) Q st:=AW.region h
theorem AW.seqRegionO (orc:List PD) {id:Nat} {l:List Oper} {b:Code} (h:qB P G l.toArray (andThen (AW P G b Q) Q) l st orc):AW P G (.seq (.region id l.toArray false) b) Q st:=AW.seq (AW.region h)
theorem AW.runDrawK (hT:TOK P T) (hmix:P.follows .mixedOrders=true) (ks:List Nat) (m:Nat) (tss:List (List Nat)) (orc1 orc2:List PD) {id:Nat} {l:List Oper} {sms:List Sm} {v1 v2:Know->Prop} (hchk:wI l m tss=true)
  (h1:∀ C,yB C T G l st (l.take m) tss st orc1=some (v1 C,sms,st1)) (hv1:v1 (kn P G)) (hconf:uG l m (sms.map Sm.sum)=true) (h2:∀ C,zBF ks (jD C T G l (l.drop m) st1 orc2)=some (v2 C,st')) (hv2:v2 (kn P G)) (k:Q .normal st') :
  AW P G (.region id l.toArray true) Q st:=by
 obtain⟨s,hs,rfl⟩:=zER (h2 (kn P G))
 have hlate:=yA (Q:=Q) hT l (l.drop m) [] _ orc2 _ s hs hv2 (zE.keepEnd ks k)
 rw[List.append_nil]at hlate
 exact AW.runDraw0 hT hmix m tss orc1 hchk (h1 (kn P G)) hv1 hconf hlate
theorem AW.seqRunDrawK (hT:TOK P T) (hmix:P.follows .mixedOrders=true) (ks:List Nat) (m:Nat) (tss:List (List Nat)) (orc1 orc2:List PD) {id:Nat} {l:List Oper} {b:Code} {sms:List Sm} {v1 v2:Know->Prop} (hchk:wI l m tss=true)
  (h1:∀ C,yB C T G l st (l.take m) tss st orc1=some (v1 C,sms,st1)) (hv1:v1 (kn P G)) (hconf:uG l m (sms.map Sm.sum)=true) (h2:∀ C,zBF ks (jD C T G l (l.drop m) st1 orc2)=some (v2 C,st')) (hv2:v2 (kn P G)) (k:AW P G b Q st') :
  AW P G (.seq (.region id l.toArray true) b) Q st:=AW.seq (AW.runDrawK hT hmix ks m tss orc1 orc2 hchk h1 hv1 hconf h2 hv2 k)
def qG (i:Nat):List V->List (Nat × V)
 | []=>[]
 | x::xs=>(i,x)::qG (i+1) xs
theorem qQG:∀ (xs:List V) (i j:Nat),yD j (qG i xs)=if i<=j then xs.getD (j-i) .dead else .dead
 | [],i,j=>by simp[qG,yD]
 | x::xs,i,j=>by
  simp only[qG,yD,qQG xs]
  by_cases h:i=j
  ·subst h;simp
  rw[if_neg h]
  by_cases h2:i+1<=j
  ·rw[if_pos h2,if_pos (by omega),show j-i=(j-(i+1))+1 by omega];simp
  rw[if_neg h2,if_neg (by omega)]
theorem qPF (xs:List V) (n:Nat) (h:xs.length<=n):xs++List.replicate (n-xs.length) .dead=zA n (qG 0 xs):=by
 apply List.ext_getElem?
 intro i
 rw[qCK,qQG,List.getElem?_append]
 simp only[Nat.zero_le,if_true,Nat.sub_zero]
 by_cases h1:i<xs.length
 ·rw[if_pos h1,if_pos (by omega)];simp[h1]
 rw[if_neg h1]
 by_cases h2:i<n
 ·rw[if_pos h2];simp[show i-xs.length<n-xs.length by omega,List.getD_eq_getElem?_getD,List.getElem?_eq_none (show xs.length<=i by omega)]
 rw[if_neg h2];simp[show ¬ i-xs.length<n-xs.length by omega]
theorem AFn.introU (hT : TOK P T) {f : FuncId} {fn : Func} {c : Code} {args : List PD} {r : PD} (hf : P.funcs[f]? = some fn) (hn : (fn.name == "runtime.NumGoroutine") = false) (hb : fn.body = some c) (hl : args.length.ble fn.ntmps = true)
  (h:AW P G c (Fin T fn.results.toList r) ⟨zA fn.ntmps (qG 0 (args.map .p)),[],[],0⟩):AFn P G f args r:=by
 refine AFn.intro hT hf hn hb ?_
 have:=qPF (args.map V.p) fn.ntmps (by simpa using Nat.le_of_ble_eq_true hl)
 simp only[List.length_map]at this
 rw[St.start,this];exact h
theorem AX.introU (hT:TOK P T) {f:FuncId} {fn:Func} {c:Code} {xs:List V} {H:List (Nat × Box)} {r:V} {ps:List Nat} {H':List (Nat × Box)} (base:Nat) (hf:P.funcs[f]?=some fn)
  (hn : (fn.name == "runtime.NumGoroutine") = false) (hb : fn.body = some c) (hl : xs.length.ble fn.ntmps = true) (h : AW P G c (zVG T fn.results.toList r ps H') ⟨zA fn.ntmps (qG 0 xs), H.map (·.1), H, base⟩) : AX P G f xs H r ps H' := by
 refine AX.intro hT base hf hn hb ?_
 rw[St.startX,qPF xs fn.ntmps (Nat.le_of_ble_eq_true hl)];exact h
theorem qVQ {n i:Nat} {as:List (Nat × V)} {x:V} (h:yD i as=x) (hi:i<n):(zA n as)[i]?=some x:=by rw[qCK,if_pos hi,h]
theorem AW.slFactU {c:Code} {n i sz b:Nat} {es:List PD} {as:List (Nat × V)} {p:List Nat} {H:List (Nat × Box)} (h:yD i as = .p (.sl sz es)) (hi:i<n) (k:es.length<=9223372036854775807->AW P G c Q ⟨zA n as,p,H,b⟩):AW P G c Q ⟨zA n as,p,H,b⟩ :=
 AW.slFact (i:=i) (qVQ h hi) k
theorem AW.strFactU {c:Code} {n i b:Nat} {s:List UInt8} {as:List (Nat × V)} {p:List Nat} {H:List (Nat × Box)} (h:yD i as = .p (.str s)) (hi:i<n) (k:s.length<=9223372036854775807->AW P G c Q ⟨zA n as,p,H,b⟩):AW P G c Q ⟨zA n as,p,H,b⟩ :=
 AW.strFact (i:=i) (qVQ h hi) k
theorem AW.intFactU {c:Code} {n i b:Nat} {kd:IntKind} {z:Int} {as:List (Nat × V)} {p:List Nat} {H:List (Nat × Box)} (h:yD i as = .p (.int kd z)) (hi:i<n) (k:kD kd<=z/\z<=kE kd->AW P G c Q ⟨zA n as,p,H,b⟩):AW P G c Q ⟨zA n as,p,H,b⟩ :=
 AW.intFact (i:=i) (qVQ h hi) k
attribute [simp] zHW zGU zGT qIJ qII keepIf yD zEU qSC qNH qQC leA zHP St.keep zBF qG
end
theorem qI {T:Tab} {rs:List ResultVar} {r:PD} {st:St} {l:List V} (h:qLN T st rs=some (True,l):=by(conv=>lhs;simp)) (k:V.fits st.H (qVR l) r:=by simp):Fin T rs r .ret st:=⟨.inr rfl,_,_,h,trivial,k⟩
theorem qZ {T:Tab} {rs:List ResultVar} {r:V} {ps:List Nat} {H':List (Nat × Box)} {st:St} {l:List V} (h:qLN T st rs=some (True,l):=by(conv=>lhs;simp)) (k:VLe (qVR l) r:=by simp) (a:∀ i∈ps,i∈st.pins:=by simp) (b:∀ x∈H',x∈st.H:=by simp)
  (c:(H'.map (·.1)).Nodup:=by simp):zVG T rs r ps H' .ret st:=⟨.inr rfl,_,_,h,trivial,k,a,b,c⟩
theorem qBY {T:Tab} {rs:List ResultVar} {r:V} {ps:List Nat} {H':List (Nat × Box)} {st:St} {l:List V} (h:qLN T st rs=some (True,l):=by(conv=>lhs;simp)) (k:VLe (qVR l) r:=by simp) (a:∀ i∈ps,i∈st.pins:=by simp) (b:∀ x∈H',x∈st.H:=by simp)
  (c:(H'.map (·.1)).Nodup:=by simp):zVG T rs r ps H' .normal st:=⟨.inl rfl,_,_,h,trivial,k,a,b,c⟩
section
variable {P:Program} {T:Tab} {G:qR} {Q:Exit->St->Prop} {st st':St}
theorem qB.freeze {ops:Array Oper} {l:List Oper} {orc:List PD} (i:Nat) (h:st.freeze i=st') (k:qB P G ops Q l st' orc):qB P G ops Q l st orc:=fun x M μ tmps w hg r=>by
 subst h
 obtain⟨M',r'⟩:=r.freeze i
 exact k x M' μ tmps w hg r'
theorem qB.take {ops:Array Oper} {l:List Oper} {orc:List PD} (i j:Nat) (h:(st.kill j).ren i j=st') (k:qB P G ops Q l st' orc):qB P G ops Q l st orc :=
 fun x M _ tmps w hg r=>(h ▸ k) x M _ tmps w hg ((r.kill j).ren (qBH st j))
def vL:List (Option Nat)->List V->List V
 | some sz::l,.nilsl::xs => .p (.sl sz [])::vL l xs
 | _::l,x::xs=>x::vL l xs
 | [],xs=>xs
 | _,[]=>[]
theorem qLY:∀ (l:List (Option Nat)) (xs:List V),(vL l xs).length=xs.length
 | [],xs=>by simp[vL]
 | none::l,[]=>by simp[vL]
 | some sz::l,[]=>by simp[vL]
 | none::l,x::xs=>by simp[vL,qLY l xs]
 | some sz::l,x::xs=>by cases x <;> simp[vL,qLY l xs]
theorem zKM {M:qW} {μ:Mu} {u:Value} (sz:Nat) (h:RV M μ u .nilsl):RV M μ u (.p (.sl sz [])):=by
 cases h
 exact .p (.sl 0 0 rfl (Nat.le_refl _) (by simp[maxLen]) (fun h=>(h rfl).elim) (fun i e h=>by simp at h) (fun i e j h=>by simp at h) (fun i e j d u h=>by simp at h))
theorem qLZ {M:qW} {μ:Mu}:∀ (l:List (Option Nat)) (xs:List V) (i:Nat) (y:V),(vL l xs)[i]?=some y->∃ x,xs[i]?=some x/\∀ u,RV M μ u x->RV M μ u y
 | [],xs,i,y,h=>⟨y,by simpa[vL]using h,fun _ h=>h⟩
 | none::l,[],i,y,h=>by simp[vL]at h
 | some sz::l,[],i,y,h=>by simp[vL]at h
 | none::l,x::xs,i,y,h=>by
  cases i with
  | zero=>simp[vL]at h;subst h;exact⟨x,by simp,fun _ h=>h⟩
  | succ i=>simp[vL]at h;obtain⟨x',h1,h2⟩:=qLZ (M:=M) (μ:=μ) l xs i y h;exact⟨x',by simpa using h1,h2⟩
 | some sz::l,x::xs,i,y,h=>by
  cases i with
  | zero =>
   refine⟨x,by simp, ?_⟩
   cases x <;> simp[vL]at h <;> subst h <;> first|exact fun _ h=>zKM sz h|exact fun _ h=>h
  | succ i =>
   have h':(vL l xs)[i]?=some y:=by cases x <;> simpa[vL]using h
   obtain⟨x',h1,h2⟩:=qLZ (M:=M) (μ:=μ) l xs i y h'
   exact⟨x',by simpa using h1,h2⟩
def St.fill (st:St) (id:Nat) (l:List (Option Nat)):St :=
 match zQ id st.H with
 | some (.vars e cs)=>{ st with H:=zM id (.vars e (vL l cs)) st.H }
 | _=>st
theorem Rel.fill {c:Ctx} {M:qW} {μ:Mu} {tmps:Array Value} {w:World} (r:Rel c M μ st tmps w) (id:Nat) (l:List (Option Nat)):Rel c M μ (st.fill id l) tmps w:=by
 unfold St.fill
 split
 ·rename_i e cs hb
  have hm:=zB hb
  have hk:qM id st.H=true:=qH.2 ⟨_,hm⟩
  have hbx:=r.box id _ hm
  cases hbx with
  | @vars _ _ b arr h0 h1 h2 h3 h4 =>
   refine r.write hk h0 ⟨rfl,rfl,rfl,rfl,fun _ _=>rfl⟩ (.vars h0 h1 (by rw[qLY];exact h2) h3 fun i u y hu hy => ?_)
   obtain⟨x,hx,hxy⟩:=qLZ (M:=M) (μ:=μ) l cs i y hy
   exact hxy u (h4 i u x hu hx)
 exact r
theorem qB.fill {ops:Array Oper} {l:List Oper} {orc:List PD} (id:Nat) (ns:List (Option Nat)) (h:st.fill id ns=st') (k:qB P G ops Q l st' orc):qB P G ops Q l st orc :=
 fun x M μ tmps w hg r=>(h ▸ k) x M μ tmps w hg (r.fill id ns)
attribute [simp] St.fill vL
end
mutual
def V.frv (id:Nat) (ds:List PD):V->V
 | .ms i=>if i=id then .dead else .ms i
 | .agg cs => .agg (V.frvL id ds cs)
 | .when b x => .when b (V.frv id ds x)
 | .func f a b => .func f (V.frvL id ds a) (V.frvL id ds b)
 | .tuple cs => .tuple (V.frvL id ds cs)
 | .ptr i o=>if i=id then .cptr (ds.drop o) else .ptr i o
 | .rptr i n s o=>if i=id then .dead else .rptr i n s o
 | .tl i n s=>if i=id then .dead else .tl i n s
 | .it i=>if i=id then .dead else .it i
 | .p d => .p d
 | .dead => .dead
 | .nilsl => .nilsl
 | .cptr cs => .cptr cs
def V.frvL (id:Nat) (ds:List PD):List V->List V
 | []=>[]
 | x::xs=>V.frv id ds x::V.frvL id ds xs
end
theorem V.frvL_eq (id:Nat) (ds:List PD):∀ l,V.frvL id ds l=l.map (V.frv id ds)
 | []=>by simp only[V.frvL,List.map_nil]
 | x::xs=>by simp only[V.frvL,List.map_cons,V.frvL_eq id ds xs]
theorem RV.frv {M M':qW} {μ:Mu} {id:Nat} {ds:List PD} (hM:∀ b o v,M b o=some v->M' b o=some v) (hd:∀ b,(μ id).blk=some b->(∀ (j:Nat) d,ds[j]?=some d->∃ u,M' b j=some u/\u.oneCell'=true)/\(∀ (j:Nat) d u,ds[j]?=some d->M' b j=some u->Rd M' u d))
  {u:Value} {x:V} (r:RV M μ u x):RV M' μ u (x.frv id ds):=by
 induction r with
 | p r=>simp only[V.frv];exact .p (r.mono hM)
 | dead=>simp only[V.frv];exact .dead
 | nilsl=>simp only[V.frv];exact .nilsl
 | @ptr i off b h1 =>
  simp only[V.frv];split
  ·rename_i e;subst e
   obtain⟨h2,h3⟩:=hd b h1
   exact .cptr (fun j d hj=>h2 _ d (by rw[List.getElem?_drop]at hj;exact hj)) (fun j d u hj hu=>h3 _ d u (by rw[List.getElem?_drop]at hj;exact hj) hu)
  exact .ptr h1
 | rptr h1 =>
  simp only[V.frv];split
  ·exact .dead
  exact .rptr h1
 | tl h1 h2 h3 =>
  simp only[V.frv];split
  ·exact .dead
  exact .tl h1 h2 h3
 | cptr h1 h2 =>
  simp only[V.frv]
  refine .cptr (fun j d hd => ?_) (fun j d u hd hu => ?_)
  ·obtain⟨u,hu,hc⟩:=h1 j d hd;exact⟨u,hM _ _ _ hu,hc⟩
  obtain⟨u',hu',_⟩:=h1 j d hd
  have:=hM _ _ _ hu'
  rw[this]at hu;cases hu
  exact(h2 j d _ hd hu').mono hM
 | ms h1 h2 =>
  simp only[V.frv];split
  ·exact .dead
  exact .ms h1 h2
 | it h1 =>
  simp only[V.frv];split
  ·exact .dead
  exact .it h1
 | func h1 h2 _ _ ih1 ih2 =>
  simp only[V.frv,V.frvL_eq]
  refine .func (by simpa using h1) (by simpa using h2) (fun i u x hu hx => ?_) (fun i u x hu hx => ?_)
  ·rw[List.getElem?_map]at hx
   obtain⟨y,hy,rfl⟩:=Option.map_eq_some_iff.1 hx
   exact ih1 i u y hu hy
  rw[List.getElem?_map]at hx
  obtain⟨y,hy,rfl⟩:=Option.map_eq_some_iff.1 hx
  exact ih2 i u y hu hy
 | agg h1 h2 _ ih =>
  simp only[V.frv,V.frvL_eq]
  refine .agg (by simpa using h1) h2 (fun i u x hu hx => ?_)
  rw[List.getElem?_map]at hx
  obtain⟨y,hy,rfl⟩:=Option.map_eq_some_iff.1 hx
  exact ih i u y hu hy
 | tuple h1 _ ih =>
  simp only[V.frv,V.frvL_eq]
  refine .tuple (by simpa using h1) (fun i u x hu hx => ?_)
  rw[List.getElem?_map]at hx
  obtain⟨y,hy,rfl⟩:=Option.map_eq_some_iff.1 hx
  exact ih i u y hu hy
 | when _ h2 ih=>simp only[V.frv];exact .when (fun hb=>ih hb) h2
def Box.frv (id:Nat) (ds:List PD):Box->Box
 | .vars e cs => .vars e (V.frvL id ds cs)
 | .row e sz es => .row e sz es
 | .iter s pos => .iter s pos
 | .mp ks vs => .mp ks (V.frvL id ds vs)
 | .mpx ks vs => .mpx ks (V.frvL id ds vs)
 | .obj b v o rs => .obj b v o rs
 | .brow e bs => .brow e bs
 | .mach es en ss => .mach es en ss
 | .prow e ps => .prow e (V.frvL id ds ps)
theorem RBox.frv {M M':qW} {μ:Mu} {w:World} {id i:Nat} {ds:List PD} (hM:∀ b o v,M b o=some v->M' b o=some v) (hd:∀ b,(μ id).blk=some b->(∀ (j:Nat) d,ds[j]?=some d->∃ u,M' b j=some u/\u.oneCell'=true)/\(∀ (j:Nat) d u,ds[j]?=some d->M' b j=some u->Rd M' u d))
  {bx:Box} (r:RBox M μ w i bx):RBox M' μ w i (bx.frv id ds):=by
 cases r with
 | mach h0 hv h1 h2 h3 h4 h5 hn h6=>exact .mach h0 hv h1 h2 h3 h4 h5 hn (h6.mono hM fun _ _=>rfl)
 | machN h0 hv h1=>exact .machN h0 hv h1
 | vars h0 h1 h2 h3 h4 =>
  simp only[Box.frv,V.frvL_eq]
  refine .vars h0 h1 (by simpa using h2) h3 fun i u x hu hx => ?_
  rw[List.getElem?_map]at hx
  obtain⟨y,hy,rfl⟩:=Option.map_eq_some_iff.1 hx
  exact(h4 i u y hu hy).frv hM hd
 | row h0 hv h1 h2 h3 h4 h5 h6 h7=>exact .row h0 hv h1 h2 h3 h4 h5 h6 fun i e' j d u he hd hu=>(h7 i e' j d u he hd hu).mono hM
 | rowN h0 hv=>exact .rowN h0 hv
 | iter h0 h1 h2 h3=>exact .iter h0 h1 h2 h3
 | obj h0 hv h1=>exact .obj h0 hv h1
 | brow h0 hv h1 h2 h3 h4 h5 h6=>exact .brow h0 hv h1 h2 h3 h4 h5 h6
 | prow h0 hv h1 h2 h3 h4 h5 h6 =>
  simp only[Box.frv,V.frvL_eq]
  refine .prow h0 (by simpa using hv) h1 h2 (by simpa using h3) h4 h5 fun i u x hu hx => ?_
  rw[List.getElem?_map]at hx
  obtain⟨y,hy,rfl⟩:=Option.map_eq_some_iff.1 hx
  exact(h6 i u y hu hy).frv hM hd
 | mpx h0 hv h1 hB hl h2 h3 =>
  simp only[Box.frv,V.frvL_eq]
  refine .mpx h0 hv h1 hB (by simpa using hl) (fun e he => ?_) h3
  obtain⟨i,ba,g1,g2,g3,g4⟩:=h2 e he
  refine⟨i,ba,g1,g2,g3,fun x hx => ?_⟩
  rw[List.getElem?_map]at hx
  obtain⟨y,hy,rfl⟩:=Option.map_eq_some_iff.1 hx
  exact(g4 y hy).frv hM hd
 | mp h0 hv h1 hB h2 h3 h4 h5 =>
  simp only[Box.frv,V.frvL_eq]
  refine .mp h0 hv h1 hB h2 (by simpa using h3) h4 fun i e x he hx => ?_
  rw[List.getElem?_map]at hx
  obtain⟨y,hy,rfl⟩:=Option.map_eq_some_iff.1 hx
  exact(h5 i e y he hy).frv hM hd
def qSF (id:Nat) (ds:List PD):List (Nat × Box)->List (Nat × Box)
 | []=>[]
 | (i,b)::r=>if i=id then qSF id ds r else(i,b.frv id ds)::qSF id ds r
theorem qKD {id:Nat} {ds:List PD}:∀ {H:List (Nat × Box)} {i:Nat} {b:Box},(i,b)∈qSF id ds H->i≠id/\∃ b',(i,b')∈H/\b=b'.frv id ds
 | (j,c)::r,i,b,h=>by
  simp only[qSF]at h
  split at h
  ·obtain⟨h1,b',h2,h3⟩:=qKD h;exact⟨h1,b',List.mem_cons.2 (.inr h2),h3⟩
  rename_i hj
  rcases List.mem_cons.1 h with e|e
  ·cases e;exact⟨hj,c,by simp,rfl⟩
  obtain⟨h1,b',h2,h3⟩:=qKD e;exact⟨h1,b',List.mem_cons.2 (.inr h2),h3⟩
theorem qLW (id:Nat) (ds:List PD):∀ H:List (Nat × Box),(qSF id ds H).map (·.1)=(H.map (·.1)).filter (· ≠ id)
 | []=>rfl
 | (j,c)::r=>by
  simp only[qSF]
  split
  ·rename_i h;simp[h,qLW id ds r]
  rename_i h;simp[h,qLW id ds r]
theorem qIV {id i:Nat} {ds:List PD} {H:List (Nat × Box)} (h:qM i (qSF id ds H)=true):i≠id/\qM i H=true:=by
 obtain⟨b,hb⟩:=qH.1 h
 obtain⟨h1,b',h2,_⟩:=qKD hb
 exact⟨h1,qH.2 ⟨b',h2⟩⟩
def St.freezeV (st:St) (id:Nat):St :=
 match zQ id st.H with
 | some (.vars _ cs)=>match qBI cs with
  | some ds=>{ st with tmps:=V.frvL id ds st.tmps,pins:=st.pins.filter (· != id),H:=qSF id ds st.H }
  | none=>st
 | _=>st
theorem Rel.freezeV {c:Ctx} {M:qW} {μ:Mu} {st:St} {tmps:Array Value} {w:World} (r:Rel c M μ st tmps w) (id:Nat):∃ M',Rel c M' μ (st.freezeV id) tmps w:=by
 unfold St.freezeV
 split
 ·rename_i e cs hb
  split
  ·rename_i ds hds
   have hm:=zB hb
   have hk:qM id st.H=true:=qH.2 ⟨_,hm⟩
   let M2:qW:=fun b o=>if(μ id).blk=some b then w.cell? ⟨b,o,none⟩ else M b o
   have e1:∀ b o,(μ id).blk=some b->M2 b o=w.cell? ⟨b,o,none⟩:=fun b o h=>if_pos h
   have e2:∀ b o,(μ id).blk≠some b->M2 b o=M b o:=fun b o h=>if_neg h
   have hM:∀ b o v,M b o=some v->M2 b o=some v:=by
    intro b o v hv
    by_cases h:(μ id).blk=some b
    ·rw[e1 b o h];exact r.mem b o v hv
    rw[e2 b o h];exact hv
   have hfit:=uH (H:=[]) hds
   have hd:∀ b,(μ id).blk=some b->(∀ (j:Nat) d,ds[j]?=some d->∃ u,M2 b j=some u/\u.oneCell'=true)/\(∀ (j:Nat) d u,ds[j]?=some d->M2 b j=some u->Rd M2 u d):=by
    intro b hbk
    have hbx:=r.box id _ hm
    cases hbx with
    | @vars _ _ b' arr h0 h1 h2 h3 h4 =>
     rw[hbk]at h0
     cases h0
     have hl:=V.fitsL_len hfit
     have hcell:∀ j,w.cell? ⟨b,j,none⟩=arr[j]?:=fun j=>zP h1
     refine⟨fun j d hj => ?_,fun j d u hj hu => ?_⟩
     ·have hlt:j<arr.size:=by rw[h2,hl];exact(List.getElem?_eq_some_iff.1 hj).1
      exact⟨arr[j],by rw[e1 b j hbk,hcell];simp[hlt],h3 j _ (by simp[hlt])⟩
     rw[e1 b j hbk,hcell]at hu
     have hlt:j<cs.length:=by rw[hl];exact(List.getElem?_eq_some_iff.1 hj).1
     have hx:cs[j]?=some cs[j]:=by simp[hlt]
     exact(kM (h4 j u _ hu hx) (V.fitsL_get hfit hx hj)).mono hM
   refine⟨M2, ?_,fun b o v hv=>hM _ _ _ (r.ext b o v hv),fun b o hb => ?_,⟨by simp[V.frvL_eq,r.slots.1],fun i u x hu hx => ?_⟩,fun i hi=>r.pins i (List.mem_filter.1 hi).1,fun i b hi => ?_, ?_,fun i j b hi hj => ?_,fun i b hi hib => ?_,r.size,r.below⟩
   ·intro b o v hv
    by_cases h:(μ id).blk=some b
    ·rw[e1 b o h]at hv;exact hv
    rw[e2 b o h]at hv;exact r.mem b o v hv
   ·rw[e2 b o fun h=>hb (r.own id b hk (.inl h)).1];exact r.old b o hb
   ·simp only[V.frvL_eq]at hx
    rw[List.getElem?_map]at hx
    obtain⟨y,hy,rfl⟩:=Option.map_eq_some_iff.1 hx
    exact(r.slots.2 i u y hu hy).frv hM hd
   ·obtain⟨_,b',h2,rfl⟩:=qKD hi
    exact(r.box i b' h2).frv hM hd
   ·show((qSF id ds st.H).map (·.1)).Nodup
    rw[qLW];exact r.nodup.filter _
   ·exact r.inj i j b (qIV hi).2 (qIV hj).2
   obtain⟨h1,h2⟩:=qIV hi
   have h3:=r.own i b h2 hib
   exact⟨h3.1,h3.2.1,fun o=>by rw[e2 b o fun h=>h1 (r.inj i id b h2 hk hib (.inl h))];exact h3.2.2 o⟩
  exact⟨M,r⟩
 exact⟨M,r⟩
section
variable {P:Program} {T:Tab} {G:qR} {Q:Exit->St->Prop} {st st':St}
theorem qB.freezeV {ops:Array Oper} {l:List Oper} {orc:List PD} (i:Nat) (h:st.freezeV i=st') (k:qB P G ops Q l st' orc):qB P G ops Q l st orc:=fun x M μ tmps w hg r=>by
 subst h
 obtain⟨M',r'⟩:=r.freezeV i
 exact k x M' μ tmps w hg r'
theorem AW.freezeV {c:Code} (i:Nat) (h:st.freezeV i=st') (k:AW P G c Q st'):AW P G c Q st:=fun x M μ tmps w hg r=>by
 subst h
 obtain⟨M',r'⟩:=r.freezeV i
 exact k x M' μ tmps w hg r'
theorem AW.beginE {c:Code} (d id:Nat) (e:TypeId) (sz:Nat) (hd:st.tmps[d]?=some .nilsl) (hf:st.fresh id=true) (h:({ st with tmps:=st.tmps.set d (.ms id),H:=(id,.row e sz [])::st.H }:St)=st')
  (k:AW P G c Q st'):AW P G c Q st:=AW.begin (d:=d) (id:=id) e sz hd hf (h ▸ k)
theorem AW.renE {c:Code} (i j:Nat) (hf:st.fresh j=true) (h:st.ren i j=st') (k:AW P G c Q st'):AW P G c Q st:=AW.ren i j hf (h ▸ k)
theorem AW.freezeE {c:Code} (i:Nat) (h:st.freeze i=st') (k:AW P G c Q st'):AW P G c Q st:=fun x M μ tmps w hg r=>by
 subst h
 obtain⟨M',r'⟩:=r.freeze i
 exact k x M' μ tmps w hg r'
@[simp] theorem zZL (id:Nat) (ds:List PD) (n:Nat) (as:List (Nat × V)):V.frvL id ds (zA n as)=zA n (qSC (V.frv id ds) as):=by
 rw[V.frvL_eq,qJC (by simp only[V.frv])]
attribute [simp] V.frv V.frvL Box.frv qSF St.freezeV
end
section
variable {P:Program} {T:Tab} {G:qR} {Q:Exit->St->Prop} {st st':St}
theorem Rel.plain {M:qW} {w:World} {args:List PD} {vs:Array Value} (μ:Mu) (hmem:∀ b o v,M b o=some v->w.cell? ⟨b,o,none⟩=some v) (hsz:vs.size=args.length) (hrd:∀ (i:Nat) u d,vs[i]?=some u->args[i]?=some d->Rd M u d) :
  Rel ⟨w.heap.size,w,M,μ,wZ μ []⟩ M μ ⟨args.map .p,[],[],0⟩ vs w:=by
 refine⟨hmem,fun _ _ _ h=>h,fun _ _ _=>rfl,⟨by simpa using hsz,fun i u x hu hx => ?_⟩,(fun _ h=>by cases h),(fun _ _ h=>by cases h),List.nodup_nil,(fun _ _ _ h=>by simp[qM]at h),(fun _ _ h=>by simp[qM]at h),Nat.le_refl _,Kept.refl _ _⟩
 rw[List.getElem?_map]at hx
 obtain⟨d,hd,rfl⟩:=Option.map_eq_some_iff.1 hx
 exact .p (hrd i u d hu hd)
theorem AR.of_AX {f:FuncId} {args:List PD} {k e sz:Nat} {es:List PD} (h:AX P G f (args.map .p) [] (.ms k) [] [(k,.row e sz es)]):AR P G f args e sz es:=by
 refine⟨h.1,fun M w vs hg hmem hsz hrd=>(h.2 M (fun _=>default) w vs hg (Rel.plain _ hmem hsz hrd)).mono ?_⟩
 rintro e' w' ⟨v,M',μ',rfl,r'⟩
 have hno:∀ b, ¬ wZ (fun _=>(default:Loc)) [] b:=fun b ⟨i,hi,_⟩=>by simp[qM]at hi
 have hk:qM k [(k,Box.row e sz es)]=true:=by simp[qM]
 have hv:=r'.slots.2 0 v (.ms k) (by simp) (by simp)
 cases hv with
 | ms hval hone =>
 have hbx:=r'.box k (.row e sz es) (List.mem_singleton.2 rfl)
 refine⟨v,M',rfl,r'.mem,r'.ext,fun b o hb=>r'.old b o fun hm=>hm.elim (fun h=>by simp at h;omega) (hno b),⟨r'.below.os,r'.below.tape,r'.below.output,r'.below.size,fun j hj=>r'.below.block j fun hm=>hm.elim (fun h=>by simp at h;omega) (hno j)⟩,
  μ' k,hval.symm,hone, ?_,fun b hb => ?_⟩
 ·cases hbx with
  | row h0 hv h1 h2 h3 h4 h5 h6 h7=>exact .row h0 hv h1 h2 h3 h4 h5 h6 h7
  | rowN h0 hv=>exact .rowN h0 hv
 obtain⟨h1,h2,h3⟩:=r'.own k b hk (.inl hb)
 exact⟨h1.elim (fun h=>h) fun h=>(hno b h).elim,h2,h3⟩
theorem qXH (k:Nat) {t e:TypeId} (hd:P.underlying t=some (.slice e)) (a:Option Addr) (n c:Nat) (w:World):(Op.equalIn (k+1) t (.slice a n c) (.slice none 0 0)).run P w = .ok a.isNone w:=by
 cases a <;> simp[Op.equalIn,run_underlying hd]
theorem qB.nilEq {ops:Array Oper} {o:Oper} {rest:List Oper} {orc:List PD} (hT:TOK P T) (ks:List Nat) {t ty e sz:Nat} {x:Operand} {p:Prop} {es:List PD} (ho:o.op = .binOp .eql t x (.const (.slice none 0 0)) ty) (ht:wA T t=some (.sl e))
  (ha:st.arg G x=(p,.p (.sl sz es))) (hp:p) (hgd:o.guard=none) (k:∀ b:Bool,(es≠[]->b=false)->qB P G ops Q rest ((st.put o.dst (.p (.bool b))).keep ks) orc):qB P G ops Q (o::rest) st orc:=by
 intro c M μ tmps w hg r
 have h1:=(qF hg r ha hp).p_inv
 have hd:=hT.sl ht
 generalize hu:Act.eval ⟨tmps,[]⟩ x=u at h1
 cases h1 with
 | @sl a n cc _ _ b o' hn hnc hcm hab h5 h6 h7 =>
 have he:(Op.equal t (.slice a n cc) (.slice none 0 0)).run P w = .ok a.isNone w:=by
  exact qXH 9999 hd a n cc w
 have e1:(execOp (Act.eval ⟨tmps,[]⟩) o).run P w = .ok (.value (.bool a.isNone)) w:=by
  have hg:(eqGuard .eql t x (.const (.slice none 0 0)) (.slice a n cc) (.slice none 0 0)).run P w = .ok () w:=by simp only[eqGuard];rfl
  have hb2:(binOp .eql t (.slice a n cc) (.slice none 0 0)).run P w = .ok (.bool a.isNone) w:=by
   show(do pure (.bool (<-Op.equal t (.slice a n cc) (.slice none 0 0))):Sem Value).run P w=_
   simp only[Sem.run_bind,he,Result.andThen];rfl
  simp[execOp,ho,hu,hg,hb2,show Act.eval ⟨tmps,[]⟩ (.const (.slice none 0 0)) = .slice none 0 0 from rfl]
 have hb:es≠[]->a.isNone=false:=fun he=>by
  have:n≠0:=by rw[hn];exact fun h=>he (List.eq_nil_of_length_eq_zero h)
  rw[hab this];rfl
 refine wpList_plain hgd fun K hK=>jN (next:=fun v w'=>v = .bool a.isNone/\w'=w) (by rw[e1];exact⟨rfl,rfl⟩) ?_
 rintro u w' ⟨rfl,rfl⟩
 apply hK
 rw[Act.put_tmps]
 exact zE.keep ks (k _ hb) c M μ _ w' hg (r.put (.p (.bool _)) o.dst)
theorem qB.same {ops:Array Oper} {l:List Oper} {orc:List PD} (h:st=st') (k:qB P G ops Q l st' orc):qB P G ops Q l st orc:=h ▸ k
end
abbrev zVA:=List Nat × List Nat × List Nat × List Nat
def ndB:List (Nat × Box)->Bool
 | []=>true
 | (i,_)::r => !qM i r && ndB r
theorem wR:∀ {H:List (Nat × Box)},ndB H=true->(H.map (·.1)).Nodup
 | [],_=>List.nodup_nil
 | (i,b)::r,h=>by
  simp only[ndB,Bool.and_eq_true,Bool.not_eq_true']at h
  simp only[List.map_cons,List.nodup_cons]
  exact⟨fun hm=>by rw[wE.2 hm]at h;exact absurd h.1 (by simp),wR h.2⟩
section
variable {P:Program} {T:Tab} {G:qR} {Q:Exit->St->Prop} {st st' st0:St} {ops rest:List Oper} {tss:List (List Nat)} {ts:List Nat} {orc orc':List PD} {acc:uU} {o:Oper} {sm:zVA} {v:Know->Prop}
def DGo (P:Program) (T:Tab) (G:qR) (ops:List Oper) (st0:St) (l:List Oper) (tss:List (List Nat)) (st:St) (orc:List PD) (acc:uU) (K:uU->St->Prop):Prop :=
 ∃ v sms st1,yB (kn P G) T G ops st0 l tss st orc=some (v,sms,st1)/\v/\K (acc++sms.map Sm.sum) st1
variable {K:uU->St->Prop}
theorem DGo.nil (hn:ndB st.H=true) (k:K acc st):DGo P T G ops st0 [] tss st orc acc K:=⟨_,_,_,rfl,wR hn,by simpa using k⟩
def qHV (C:Know) (T:Tab) (G:qR) (st0:St) (ts:List Nat) (o:Oper) (st:St) (orc:List PD):Option (Prop × St × zVA × List PD) :=
 match qEH C T G st0 (st.small ts) o orc with
 | some (v,s,orc')=>some (v,st.after o.dst s,s.sum,orc')
 | none=>none
theorem DGo.one (h:∀ C,qHV C T G st0 ts o st orc=some (v C,st',sm,orc')) (hv:v (kn P G)) (hgd:o.guard=none) (hn:ndB st.H=true) (k:DGo P T G ops st0 rest tss st' orc' (acc++[sm]) K) :
  DGo P T G ops st0 (o::rest) (ts::tss) st orc acc K:=by
 have h1:=h (kn P G)
 unfold qHV at h1
 split at h1
 ·rename_i v1 s orc1 h2
  simp only[Option.some.injEq,Prod.mk.injEq]at h1
  obtain⟨h3,rfl,rfl,rfl⟩:=h1
  obtain⟨w,sms,st1,e,hw,hk⟩:=k
  exact⟨(st.H.map (·.1)).Nodup/\v1/\w,s::sms,st1,by simp only[yB,hgd,h2,e],⟨wR hn,h3 ▸ hv,hw⟩,by simpa using hk⟩
 cases h1
def qRC (C:Know) (T:Tab) (G:qR) (st0:St) (ts:List Nat) (o:Oper) (d:Nat) (pol:Bool) (st:St) (orc:List PD):Option (Prop × St × zVA × List PD) :=
 match V.guards pol (st.tmps.getD d .dead)with
 | none=>none
 | some b=>match qAY C T G (st.small ts) o.op orc with
  | some (v,x,orc') =>
   let s:Sm:=⟨.when b x,(st.small ts).H,(st.small ts).H,(st.small ts).pins,[],true⟩
   some (d<st.tmps.length/\(b=true->v)/\s.good,st.after o.dst s,s.sum,orc')
  | none=>match b with
   | true=>match qEH C T G st0 (st.small ts) o orc with
    | some (v,s,orc')=>some (d<st.tmps.length/\v,st.after o.dst { s with x := .when true s.x },({ s with x := .when true s.x }:Sm).sum,orc')
    | none=>none
   | false =>
    let s:Sm:=⟨.when false (.p (.bool false)),[],[],[],[],true⟩
    some (d<st.tmps.length,st.after o.dst s,s.sum,orc)
theorem DGo.oneIf (d:Nat) {j:Nat} {pol:Bool} (h:∀ C,qRC C T G st0 ts o d pol st orc=some (v C,st',sm,orc')) (hv:v (kn P G)) (hgd:o.guard=some (j,pol)) (hd:(ops[j]?).bind (·.dst)=some d) (hn:ndB st.H=true)
  (k:DGo P T G ops st0 rest tss st' orc' (acc++[sm]) K):DGo P T G ops st0 (o::rest) (ts::tss) st orc acc K:=by
 have h1:=h (kn P G)
 have hn':=wR hn
 unfold qRC at h1
 obtain⟨w,sms,st1,e,hw,hk⟩:=k
 split at h1
 ·cases h1
 rename_i b hb
 split at h1
 ·rename_i v1 x orc1 h2
  simp only[Option.some.injEq,Prod.mk.injEq]at h1
  obtain⟨h3,rfl,rfl,rfl⟩:=h1
  have hv':=h3.symm ▸ hv
  exact⟨(st.H.map (·.1)).Nodup/\d<st.tmps.length/\(b=true->v1)/\Sm.good ⟨.when b x,(st.small ts).H,(st.small ts).H,(st.small ts).pins,[],true⟩/\w,(⟨.when b x,(st.small ts).H,(st.small ts).H,(st.small ts).pins,[],true⟩:Sm)::sms,st1,by simp only[yB,hgd,hd,hb,h2,e],⟨hn',hv'.1,hv'.2.1,hv'.2.2,hw⟩,by simpa using hk⟩
 rename_i h2
 split at h1
 ·split at h1
  ·rename_i v1 s orc1 h4
   simp only[Option.some.injEq,Prod.mk.injEq]at h1
   obtain⟨h3,rfl,rfl,rfl⟩:=h1
   have hv':=h3.symm ▸ hv
   exact⟨(st.H.map (·.1)).Nodup/\d<st.tmps.length/\v1/\w,({ s with x := .when true s.x }:Sm)::sms,st1,by simp only[yB,hgd,hd,hb,h2,h4,e],⟨hn',hv'.1,hv'.2,hw⟩,by simpa using hk⟩
  cases h1
 simp only[Option.some.injEq,Prod.mk.injEq]at h1
 obtain⟨h3,rfl,rfl,rfl⟩:=h1
 have hv':=h3.symm ▸ hv
 exact⟨(st.H.map (·.1)).Nodup/\d<st.tmps.length/\w,(⟨.when false (.p (.bool false)),[],[],[],[],true⟩:Sm)::sms,st1,by simp only[yB,hgd,hd,hb,h2,e],⟨hn',hv',hw⟩,by simpa using hk⟩
theorem d1 (k:DGo P T G ops st0 rest tss st' orc' (acc++[sm]) K) (h:∀ C,qHV C T G st0 ts o st orc=some (v C,st',sm,orc'):=by intro C;conv=>lhs;simp) (hv:v (kn P G):=by first|exact True.intro|omega|simp|(simp +contextual;omega)) (hgd:o.guard=none:=by rfl) (hn:ndB st.H=true:=by kernel_rfl) :
  DGo P T G ops st0 (o::rest) (ts::tss) st orc acc K:=DGo.one h hv hgd hn k
theorem d2 (d:Nat) {j:Nat} {pol:Bool} (hgd:o.guard=some (j,pol)) (hd:(ops[j]?).bind (·.dst)=some d) (k:DGo P T G ops st0 rest tss st' orc' (acc++[sm]) K) (h:∀ C,qRC C T G st0 ts o d pol st orc=some (v C,st',sm,orc'):=by intro C;conv=>lhs;simp) (hv:v (kn P G):=by first|exact True.intro|omega|simp|(simp +contextual;omega))
  (hn:ndB st.H=true:=by kernel_rfl):DGo P T G ops st0 (o::rest) (ts::tss) st orc acc K:=DGo.oneIf d h hv hgd hd hn k
theorem dq1 {A:Prop} (hA:A) (k:DGo P T G ops st0 rest tss st' orc' (acc++[sm]) K) (h:∀ C,qHV C T G st0 ts o st orc=some (v C,st',sm,orc'):=by intro C;conv=>lhs;simp) (hv:A->v (kn P G):=by intro hA;first|with_reducible exact True.intro|exact hA|exact hA.1|exact hA.2|exact hA.2.1|exact hA.2.2|(simpa using hA;done)|omega|simp|(simp +contextual;omega)) (hgd:o.guard=none:=by rfl) (hn:ndB st.H=true:=by kernel_rfl) :
    DGo P T G ops st0 (o::rest) (ts::tss) st orc acc K:=DGo.one h (hv hA) hgd hn k
theorem dq2 (d:Nat) {j:Nat} {pol:Bool} (hgd:o.guard=some (j,pol)) (hd:(ops[j]?).bind (·.dst)=some d) {A:Prop} (hA:A) (k:DGo P T G ops st0 rest tss st' orc' (acc++[sm]) K) (h:∀ C,qRC C T G st0 ts o d pol st orc=some (v C,st',sm,orc'):=by intro C;conv=>lhs;simp) (hv:A->v (kn P G):=by intro hA;first|with_reducible exact True.intro|exact hA|exact hA.1|exact hA.2|exact hA.2.1|exact hA.2.2|(simpa using hA;done)|omega|simp|(simp +contextual;omega))
    (hn:ndB st.H=true:=by kernel_rfl):DGo P T G ops st0 (o::rest) (ts::tss) st orc acc K:=DGo.oneIf d h (hv hA) hgd hd hn k
theorem AW.drawS (hT:TOK P T) (hmix:P.follows .mixedOrders=true) (m:Nat) (tss:List (List Nat)) (orc orc2:List PD) {id:Nat} {l:List Oper} (hchk:wI l m tss=true)
  (h:DGo P T G l st (l.take m) tss st orc [] fun qVT st1=>uG l m qVT=true/\qB P G l.toArray Q (l.drop m) st1 orc2):AW P G (.region id l.toArray true) Q st:=by
 obtain⟨v,sms,st1,e,hv,hc,hl⟩:=h
 exact AW.runDraw0 hT hmix m tss orc hchk e hv (by simpa using hc) hl
theorem AW.seqDrawS (hT:TOK P T) (hmix:P.follows .mixedOrders=true) (m:Nat) (tss:List (List Nat)) (orc orc2:List PD) {id:Nat} {l:List Oper} {b:Code} (hchk:wI l m tss=true)
  (h:DGo P T G l st (l.take m) tss st orc [] fun qVT st1=>uG l m qVT=true/\qB P G l.toArray (andThen (AW P G b Q) Q) (l.drop m) st1 orc2):AW P G (.seq (.region id l.toArray true) b) Q st :=
 AW.seq (AW.drawS hT hmix m tss orc orc2 hchk h)
attribute [simp] qHV qRC Sm.sum Sm.foot Sm.tch Sm.refs
end
end Go.Proofs.YtgcbapchinideaaGreatDoor.Sy
