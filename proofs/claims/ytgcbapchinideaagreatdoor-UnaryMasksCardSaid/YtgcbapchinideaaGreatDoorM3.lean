import Derived.Test.YtgcbapchinideaaGreatDoorM2
set_option linter.all false
namespace Go.Proofs.YtgcbapchinideaaGreatDoor.Sy
open Go
def yN (i:Nat):List (Nat × V)->V
 | [] => .dead
 | (j,x)::r=>if j=i then x else yN i r
def zII (i:Nat) (v:V):List (Nat × V)->List (Nat × V)
 | []=>[(i,v)]
 | (j,x)::r=>if j=i then(j,v)::r else(j,x)::zII i v r
def qUV (f:V->V):List (Nat × V)->List (Nat × V)
 | []=>[]
 | (j,x)::r=>(j,f x)::qUV f r
def qPL (ks:List Nat):List (Nat × V)->List (Nat × V)
 | []=>[]
 | (j,x)::r=>if ks.contains j then(j,x)::qPL ks r else qPL ks r
def qST (id:Nat):List (Nat × V)->Bool
 | []=>true
 | (_,x)::r=>V.noRef id x && qST id r
def leA (as:List (Nat × V)):List (Nat × V)->Prop
 | []=>True
 | (j,x)::r=>VLe (yN j as) x/\leA as r
def qZ (n:Nat) (as:List (Nat × V)):List V:=(List.range n).map fun i=>yN i as
@[simp] theorem zBW (n:Nat) (as:List (Nat × V)):(qZ n as).length=n:=by simp[qZ]
@[simp] theorem qEE (n:Nat) (as:List (Nat × V)) (i:Nat):(qZ n as)[i]?=if i<n then some (yN i as) else none:=by
 simp only[qZ,bG];by_cases h:i<n <;> simp[h]
theorem qND (n:Nat) (as:List (Nat × V)) (i:Nat):(qZ n as).getD i .dead=if i<n then yN i as else .dead:=by
 rw[bJ,qEE];split <;> rfl
@[simp] theorem zWT {n i:Nat} {as:List (Nat × V)} (h:i<(qZ n as).length):(qZ n as)[i]=yN i as:=by simp[qZ]
theorem qWU (i j:Nat) (v:V):∀ as,yN j (zII i v as)=if i=j then v else yN j as
 | []=>by simp[zII,yN]
 | (k,x)::r=>by
  simp only[zII];split
  ·rename_i h;subst h;simp only[yN];by_cases h2:k=j <;> simp[h2]
  rename_i h;simp only[yN,qWU i j v r];by_cases h2:k=j
  ·subst h2;simp[Ne.symm h]
  simp[h2]
@[simp] theorem zRG (n:Nat) (as:List (Nat × V)) (i:Nat) (v:V):(qZ n as).set i v=qZ n (zII i v as):=by
 apply dP;intro k;rw[dO,qEE,qEE,zBW,qWU];by_cases h:i=k
 ·subst h;simp
 simp[h]
theorem qWT {f:V->V} (hf:f .dead = .dead) (i:Nat):∀ as,yN i (qUV f as)=f (yN i as)
 | []=>by simp[qUV,yN,hf]
 | (k,x)::r=>by
  simp only[qUV,yN,qWT hf i r];split <;> rfl
theorem qKW {f:V->V} (hf:f .dead = .dead) (n:Nat) (as:List (Nat × V)):(qZ n as).map f=qZ n (qUV f as):=by
 simp only[qZ,dT];exact dE fun i _=>(qWT hf i as).symm
def zLK (id:Nat) (x:V):V:=match V.noRef id x with
 | true=>x
 | false => .dead
theorem qWZ (id:Nat):∀ l,qET id l=l.map (zLK id)
 | []=>rfl
 | x::xs=>by
  simp only[qET,bA,qWZ id xs];congr 1
@[simp] theorem wDL (id n:Nat) (as:List (Nat × V)):qET id (qZ n as)=qZ n (qUV (zLK id) as):=by
 rw[qWZ,qKW (by simp[zLK,V.noRef])]
@[simp] theorem wEI (id:Nat) (d:PD) (n:Nat) (as:List (Nat × V)):lP id d (qZ n as)=qZ n (qUV (V.frz id d) as):=by
 rw[lH,qKW (by simp only[V.frz])]
@[simp] theorem wEH (i j n:Nat) (as:List (Nat × V)):lL i j (qZ n as)=qZ n (qUV (V.ren i j) as):=by
 rw[lK,qKW (by simp only[V.ren])]
theorem qPH {id:Nat} (i:Nat):∀ {as:List (Nat × V)},qST id as=true->V.noRef id (yN i as)=true
 | [],_=>by simp[yN,V.noRef]
 | (k,x)::r,h=>by
  simp only[qST,bI]at h;simp only[yN];split
  ·exact h.1
  exact qPH i h.2
@[simp] theorem zGU {id n:Nat} {as:List (Nat × V)} (h:qST id as=true):iO id (qZ n as)=true:=by
 have key:∀ (as:List V),(∀ x∈as,V.noRef id x=true)->iO id as=true:=by
  intro as;induction as with
  | nil=>intro _;simp only[iO]
  | cons a as ih =>
   intro h;simp only[iO,bI];exact⟨h a (by simp),ih fun x hx=>h x (by simp[hx])⟩
 refine key _ fun x hx => ?_;obtain⟨i,_,rfl⟩:=cO.1 hx;exact qPH i h
@[simp] theorem zRH {id n:Nat}:iO id (qZ n [])=true:=zGU rfl
theorem qKH (ks:List Nat) (i:Nat):∀ as,yN i (qPL ks as)=if ks.contains i then yN i as else .dead
 | []=>by simp[qPL,yN]
 | (k,x)::r=>by
  simp only[qPL];split
  ·rename_i h;simp only[yN,qKH ks i r];by_cases h2:k=i
   ·subst h2;rw[bE rfl,bE rfl,bE h]
   rw[bD h2,bD h2]
  rename_i h;rw[qKH ks i r];simp only[yN];by_cases h2:k=i
  ·subst h2;rw[bD h,bD h]
  rw[bD h2]
@[simp] theorem zNA (n:Nat) (as:List (Nat × V)) (ks:List Nat):wS (qZ n as) ks=qZ n (qPL ks as):=by
 apply dP;intro i;rw[qWQ,qEE,zBW,qKH,qND];by_cases h:i<n <;> simp[h]
theorem zBC:∀ {as bs:List V},as.length=bs.length->(∀ t,VLe (as.getD t .dead) (bs.getD t .dead))->jM as bs
 | [],[],_,_=>trivial
 | [],_::_,h,_=>by simp at h
 | _::_,[],h,_=>by simp at h
 | a::as,b::bs,h,h'=>⟨by simpa using h' 0,zBC (by simpa using h) fun t=>by have:=h' (t+1);simpa using this⟩
theorem zEG {as:List (Nat × V)} (i:Nat):∀ {bs:List (Nat × V)},leA as bs->VLe (yN i as) (yN i bs)
 | [],_=>by simp only[yN];exact .dead _
 | (k,x)::r,h=>by
  simp only[yN];split
  ·rename_i e;subst e;exact h.1
  exact zEG i h.2
theorem qE {n:Nat} {as bs:List (Nat × V)} (h:leA as bs):jM (qZ n as) (qZ n bs):=by
 refine zBC (by simp) fun t => ?_;rw[qND,qND];split
 ·exact zEG t h
 exact VLe.refl _
def zLQ (k1:List Nat) (H:List (Nat × Box)):List (Nat × Box):=xI (k1++xR (xI (k1++xR (xI k1 H)) H)) H
def St.keep (ks:List Nat) (st:St):St:=⟨wS st.tmps ks,st.pins,zLQ ((ks.flatMap fun t=>V.ids (st.tmps.getD t .dead))++st.pins) st.H,st.base⟩
theorem zAA (l:List V) (ks:List Nat):jM l (wS l ks):=by
 refine zBC (by rw[qEQ]) fun t => ?_;rw[qFV];split
 ·exact VLe.refl _
 exact VLe.dead _
theorem Rel.keep {c:Ctx} {M:qY} {μ:Mu} {st:St} {tmps:Array Value} {w:World} (r:Rel c M μ st tmps w) (ks:List Nat):Rel c M μ (st.keep ks) tmps w :=
 r.weaken ⟨zAA _ _,rfl,fun _ hp=>qLO hp,(List.Sublist.map _ (jH _ _)).nodup r.nodup⟩
def zEK (ks:List Nat):Option (Prop × St)->Option (Prop × St)
 | some (v,st)=>some (v,st.keep ks)
 | none=>none
section
variable {P:Program} {T:Tab} {G:qT} {Q:Exit->St->Prop} {st st1 st2 st':St}
theorem AW.keep {c:Code} (ks:List Nat) (k:AW P G c Q (st.keep ks)):AW P G c Q st:=fun x M μ tmps w hg r=>k x M μ tmps w hg (r.keep ks)
theorem zZ.keep {ops:Array Oper} {l:List Oper} (ks:List Nat) (k:zZ P G ops Q l (st.keep ks)):zZ P G ops Q l st:=fun x M μ tmps w hg r=>k x M μ tmps w hg (r.keep ks)
theorem zIF {ks:List Nat} {o:Option (Prop × St)} {v:Prop} (h:zEK ks o=some (v,st')):∃ s,o=some (v,s)/\st'=s.keep ks:=by
 unfold zEK at h;split at h
 ·rename_i v0 s;simp only[Option.some.injEq,Prod.mk.injEq]at h;obtain⟨rfl,rfl⟩:=h;exact⟨s,rfl,rfl⟩
 cases h
def qKA (C:Know) (T:Tab) (G:qT) (f:St->St) (o:Oper) (st:St) (orc:List PD):Option (Prop × St × List PD) :=
 match qDK G st o.op with
 | none=>none
 | some st=>match qDH C T G st o.op orc with
  | some (v,x,orc')=>some (v,f (st.put o.dst x),orc')
  | none=>match qPP C T G st o orc with
   | some (v,x,st',orc')=>some (v,f (st'.put o.dst x),orc')
   | none=>none
def qJZ (C:Know) (T:Tab) (G:qT) (f:St->St) (o:Oper) (d:Nat) (pol:Bool) (st:St) (orc:List PD):Option (Prop × St × List PD) :=
 match qDK G st o.op with
 | none=>none
 | some st=>match iZ pol (st.tmps.getD d .dead)with
  | none=>none
  | some b=>match qDH C T G st o.op orc with
   | some (v,x,orc')=>some (d<st.tmps.length/\(b=true->v),f (st.put o.dst (.when b x)),orc')
   | none=>match b with
    | true=>match qPP C T G st o orc with
     | some (v,x,st',orc')=>some (d<st.tmps.length/\v,f (st'.put o.dst (.when true x)),orc')
     | none=>none
    | false=>some (d<st.tmps.length,f (st.put o.dst (.when false (.p (.bool false)))),orc)
theorem mZ (hT:TOK P T) {f:St->St} {ops:Array Oper} {o:Oper} {rest:List Oper} {v:Know->Prop} {orc orc':List PD} (hf:∀ {l s},zZ P G ops Q l (f s)->zZ P G ops Q l s) (h:∀ C,qKA C T G f o st orc=some (v C,st',orc')) (hv:v (kn P G)) (hgd:o.guard=none)
  (k:zZ P G ops Q rest st'):zZ P G ops Q (o::rest) st:=by
 have h:=h (kn P G);unfold qKA at h;split at h
 ·cases h
 rename_i st0 hpre;refine zZ.pre hpre ?_;split at h
 ·rename_i hs;simp only[Option.some.injEq,Prod.mk.injEq]at h;obtain⟨rfl,rfl,rfl⟩:=h;exact zZ.step hgd (vC hT hs hv) (hf k)
 split at h
 ·rename_i hs;simp only[Option.some.injEq,Prod.mk.injEq]at h;obtain⟨rfl,rfl,rfl⟩:=h;exact zZ.step hgd (xL hT hs hv) (hf k)
 cases h
theorem mH (hT:TOK P T) {f:St->St} (d:Nat) {ops:Array Oper} {o:Oper} {rest:List Oper} {j:Nat} {pol:Bool} {v:Know->Prop} {orc orc':List PD} (hf:∀ {l s},zZ P G ops Q l (f s)->zZ P G ops Q l s) (h:∀ C,qJZ C T G f o d pol st orc=some (v C,st',orc')) (hv:v (kn P G))
  (hgd:o.guard=some (j,pol)) (hd:(ops[j]?).bind (·.dst)=some d) (k:zZ P G ops Q rest st'):zZ P G ops Q (o::rest) st:=by
 have h:=h (kn P G);unfold qJZ at h;split at h
 ·cases h
 rename_i st0 hpre;refine zZ.pre hpre ?_;split at h
 ·cases h
 rename_i b hb;split at h
 ·rename_i hs;simp only[Option.some.injEq,Prod.mk.injEq]at h;obtain⟨h1,rfl,rfl⟩:=h;have hv':=h1.symm ▸ hv;exact mG hgd hd hv'.1 hb (fun hbt=>vC hT hs (hv'.2 hbt)) (hf k)
 split at h
 ·split at h
  ·rename_i hs;simp only[Option.some.injEq,Prod.mk.injEq]at h;obtain⟨h1,rfl,rfl⟩:=h;have hv':=h1.symm ▸ hv;exact mR hgd hd hv'.1 hb (xL hT hs hv'.2) (hf k)
  cases h
 simp only[Option.some.injEq,Prod.mk.injEq]at h;obtain⟨h1,rfl,rfl⟩:=h;have hv':=h1.symm ▸ hv;exact nM hgd hd hv' hb (hf k)
def zKP (C:Know) (T:Tab) (G:qT) (ks:List Nat) (o:Oper) (st:St) (orc:List PD):Option (Prop × St × List PD):=qKA C T G (St.keep ks) o st orc
def zKO (C:Know) (T:Tab) (G:qT) (ks:List Nat) (o:Oper) (d:Nat) (pol:Bool) (st:St) (orc:List PD):Option (Prop × St × List PD):=qJZ C T G (St.keep ks) o d pol st orc
def qHN (ks:List Nat) (st:St):St:=match ks with
 | []=>st
 | _::_=>st.keep ks
theorem lV {ops:Array Oper} {l:List Oper} (ks:List Nat) (k:zZ P G ops Q l (qHN ks st)):zZ P G ops Q l st:=by
 cases ks with
 | nil=>exact k
 | cons a r=>exact zZ.keep _ k
theorem zZ.one (hT:TOK P T) (ks:List Nat) (orc:List PD) {ops:Array Oper} {o:Oper} {rest:List Oper} {v:Know->Prop} {orc':List PD} (h:∀ C,zKP C T G ks o st orc=some (v C,st',orc')) (hv:v (kn P G)) (hgd:o.guard=none)
  (k:zZ P G ops Q rest st'):zZ P G ops Q (o::rest) st:=mZ hT (zZ.keep ks) h hv hgd k
theorem zZ.oneIf (hT:TOK P T) (ks:List Nat) (orc:List PD) (d:Nat) {ops:Array Oper} {o:Oper} {rest:List Oper} {j:Nat} {pol:Bool} {v:Know->Prop} {orc':List PD} (h:∀ C,zKO C T G ks o d pol st orc=some (v C,st',orc')) (hv:v (kn P G))
  (hgd:o.guard=some (j,pol)) (hd:(ops[j]?).bind (·.dst)=some d) (k:zZ P G ops Q rest st'):zZ P G ops Q (o::rest) st:=mH hT d (zZ.keep ks) h hv hgd hd k
theorem zZ.stepK (ks:List Nat) {ops:Array Oper} {o:Oper} {rest:List Oper} {x:V} (hgd:o.guard=none) (h:Yields P G o st x st1) (hk:(st1.put o.dst x).keep ks=st') (k:zZ P G ops Q rest st'):zZ P G ops Q (o::rest) st :=
 zZ.step hgd h (zZ.keep ks (hk ▸ k))
theorem oR {ops:Array Oper} (ks:List Nat) (k:Q .normal (st.keep ks)):zZ P G ops Q [] st:=zZ.keep ks (zZ.nil k)
def qB (P:Program) (G:qT) (ops:Array Oper) (Q:Exit->St->Prop) (l:List Oper) (st:St) (_:List PD):Prop:=zZ P G ops Q l st
theorem qB.nil {ops:Array Oper} {orc:List PD} (h:Q .normal st):qB P G ops Q [] st orc:=zZ.nil h
theorem qB.one (hT:TOK P T) (ks:List Nat) {orc:List PD} {ops:Array Oper} {o:Oper} {rest:List Oper} {v:Know->Prop} {orc':List PD} (h:∀ C,zKP C T G ks o st orc=some (v C,st',orc')) (hv:v (kn P G)) (hgd:o.guard=none)
  (k:qB P G ops Q rest st' orc'):qB P G ops Q (o::rest) st orc:=zZ.one hT ks orc h hv hgd k
theorem qB.oneIf (hT:TOK P T) (ks:List Nat) {orc:List PD} (d:Nat) {ops:Array Oper} {o:Oper} {rest:List Oper} {j:Nat} {pol:Bool} {v:Know->Prop} {orc':List PD} (h:∀ C,zKO C T G ks o d pol st orc=some (v C,st',orc')) (hv:v (kn P G))
  (hgd:o.guard=some (j,pol)) (hd:(ops[j]?).bind (·.dst)=some d) (k:qB P G ops Q rest st' orc'):qB P G ops Q (o::rest) st orc:=zZ.oneIf hT ks orc d h hv hgd hd k
theorem s1 (hT:TOK P T) (ks:List Nat) {orc:List PD} {ops:Array Oper} {o:Oper} {rest:List Oper} {v:Know->Prop} {orc':List PD} (k:qB P G ops Q rest st' orc')
  (h:∀ C,zKP C T G ks o st orc=some (v C,st',orc'):=by intro C;conv=>lhs;simp) (hv:v (kn P G):=by first|exact True.intro|omega|simp|(simp +contextual;omega)) (hgd:o.guard=none:=by rfl):qB P G ops Q (o::rest) st orc:=zZ.one hT ks orc h hv hgd k
theorem s2 (hT:TOK P T) (ks:List Nat) (d:Nat) {orc:List PD} {ops:Array Oper} {o:Oper} {rest:List Oper} {j:Nat} {pol:Bool} {v:Know->Prop} {orc':List PD} (hgd:o.guard=some (j,pol)) (hd:(ops[j]?).bind (·.dst)=some d) (k:qB P G ops Q rest st' orc')
  (h:∀ C,zKO C T G ks o d pol st orc=some (v C,st',orc'):=by intro C;conv=>lhs;simp) (hv:v (kn P G):=by first|exact True.intro|omega|simp|(simp +contextual;omega)):qB P G ops Q (o::rest) st orc:=zZ.oneIf hT ks orc d h hv hgd hd k
def qAQ (P:Program) (G:qT) (ops:Array Oper) (Q:Exit->St->Prop) (l:List Oper) (st:St) (_:List PD) (_:List (List Nat)):Prop:=zZ P G ops Q l st
theorem qB.run (kss:List (List Nat)) {orc:List PD} {ops:Array Oper} {l:List Oper} (h:qAQ P G ops Q l st orc kss):qB P G ops Q l st orc:=h
theorem qJ {kss:List (List Nat)} {orc:List PD} {ops:Array Oper} {l:List Oper} (h:qB P G ops Q l st orc):qAQ P G ops Q l st orc kss:=h
theorem qA {kss:List (List Nat)} {ops:Array Oper} {orc:List PD} (h:Q .normal st):qAQ P G ops Q [] st orc kss:=zZ.nil h
theorem rgz (orc:List PD) (kss:List (List Nat)) {id:Nat} {l:List Oper} (h:qAQ P G l.toArray Q l st orc kss):AW P G (.region id l.toArray false) Q st:=AW.region h
theorem rgn (orc:List PD) (kss:List (List Nat)) {id:Nat} {l:List Oper} {b:Code} (h:qAQ P G l.toArray (andThen (AW P G b Q) Q) l st orc kss):AW P G (.seq (.region id l.toArray false) b) Q st:=AW.seq (AW.region h)
theorem op1 (hT:TOK P T) {ks:List Nat} {kss:List (List Nat)} {orc:List PD} {ops:Array Oper} {o:Oper} {rest:List Oper} {v:Know->Prop} {orc':List PD} (k:qAQ P G ops Q rest st' orc' kss) (hgd:o.guard=none:=by rfl)
  (h:∀ C,qKA C T G (qHN ks) o st orc=some (v C,st',orc'):=by intro C;conv=>lhs;simp) (hv:v (kn P G):=by first|exact True.intro|omega|simp|(simp +contextual;omega)) :
  qAQ P G ops Q (o::rest) st orc (ks::kss):=mZ hT (lV ks) h hv hgd k
theorem op2 (hT:TOK P T) {ks:List Nat} {kss:List (List Nat)} {d:Nat} {orc:List PD} {ops:Array Oper} {o:Oper} {rest:List Oper} {j:Nat} {pol:Bool} {v:Know->Prop} {orc':List PD} (k:qAQ P G ops Q rest st' orc' kss) (hgd:o.guard=some (j,pol):=by rfl) (hd:(ops[j]?).bind (·.dst)=some d:=by rfl)
  (h:∀ C,qJZ C T G (qHN ks) o d pol st orc=some (v C,st',orc'):=by intro C;conv=>lhs;simp) (hv:v (kn P G):=by first|exact True.intro|omega|simp|(simp +contextual;omega)):qAQ P G ops Q (o::rest) st orc (ks::kss):=mH hT d (lV ks) h hv hgd hd k
theorem op3 {ks:List Nat} {kss:List (List Nat)} {orc:List PD} {ops:Array Oper} {o:Oper} {rest:List Oper} {v:Know->Prop} {orc':List PD} (k:qAQ P G ops Q rest st' orc' kss) (hT:TOK P T:=by exact tok) (hgd:o.guard=none:=by rfl)
  (h:∀ C,qKA C T G (qHN ks) o st orc=some (v C,st',orc'):=by intro C;conv=>lhs;simp) (hv:v (kn P G):=by first|exact True.intro|omega|simp|(simp +contextual;omega)) :
  qAQ P G ops Q (o::rest) st orc (ks::kss):=mZ hT (lV ks) h hv hgd k
theorem op4 {ks:List Nat} {kss:List (List Nat)} {d:Nat} {orc:List PD} {ops:Array Oper} {o:Oper} {rest:List Oper} {j:Nat} {pol:Bool} {v:Know->Prop} {orc':List PD} (k:qAQ P G ops Q rest st' orc' kss) (hT:TOK P T:=by exact tok) (hgd:o.guard=some (j,pol):=by rfl) (hd:(ops[j]?).bind (·.dst)=some d:=by rfl)
  (h:∀ C,qJZ C T G (qHN ks) o d pol st orc=some (v C,st',orc'):=by intro C;conv=>lhs;simp) (hv:v (kn P G):=by first|exact True.intro|omega|simp|(simp +contextual;omega)):qAQ P G ops Q (o::rest) st orc (ks::kss):=mH hT d (lV ks) h hv hgd hd k
theorem ai {a b:Prop} (x:a) (y:b):a/\b:=⟨x,y⟩
theorem oq1 (hT:TOK P T) {ks:List Nat} {kss:List (List Nat)} {orc:List PD} {ops:Array Oper} {o:Oper} {rest:List Oper} {v:Know->Prop} {orc':List PD} {A:Prop} (hA:A) (k:qAQ P G ops Q rest st' orc' kss) (hgd:o.guard=none:=by rfl)
    (h:∀ C,qKA C T G (qHN ks) o st orc=some (v C,st',orc'):=by intro C;conv=>lhs;simp) (hv:A->v (kn P G):=by intro hA;first|with_reducible exact True.intro|exact hA|exact hA.1|exact hA.2|exact hA.2.1|exact hA.2.2|(simpa using hA;done)|omega|simp|(simp +contextual;omega)) :
    qAQ P G ops Q (o::rest) st orc (ks::kss):=mZ hT (lV ks) h (hv hA) hgd k
theorem oq2 (hT:TOK P T) {ks:List Nat} {kss:List (List Nat)} {d:Nat} {orc:List PD} {ops:Array Oper} {o:Oper} {rest:List Oper} {j:Nat} {pol:Bool} {v:Know->Prop} {orc':List PD} {A:Prop} (hA:A) (k:qAQ P G ops Q rest st' orc' kss) (hgd:o.guard=some (j,pol):=by rfl) (hd:(ops[j]?).bind (·.dst)=some d:=by rfl)
    (h:∀ C,qJZ C T G (qHN ks) o d pol st orc=some (v C,st',orc'):=by intro C;conv=>lhs;simp) (hv:A->v (kn P G):=by intro hA;first|with_reducible exact True.intro|exact hA|exact hA.1|exact hA.2|exact hA.2.1|exact hA.2.2|(simpa using hA;done)|omega|simp|(simp +contextual;omega)):qAQ P G ops Q (o::rest) st orc (ks::kss):=mH hT d (lV ks) h (hv hA) hgd hd k
theorem cnd {c:Operand} {x y:Code} {p:Prop} {b:Bool} (h1:b=true->AW P G x Q st) (h2:b=false->AW P G y Q st) (hc:st.arg G c=(p,.p (.bool b)):=by conv=>lhs;simp) (hp:p:=by exact trivial):AW P G (.cond c x y) Q st:=AW.cond hc hp h1 h2
theorem qB.stepK (ks:List Nat) {orc:List PD} {ops:Array Oper} {o:Oper} {rest:List Oper} {x:V} (h:Yields P G o st x st1) (hk:(st1.put o.dst x).keep ks=st') (hgd:o.guard=none) (k:qB P G ops Q rest st' orc):qB P G ops Q (o::rest) st orc :=
 zZ.stepK ks hgd h hk k
theorem nF (orc:List PD) {id:Nat} {l:List Oper} (h:qB P G l.toArray Q l st orc):AW P G (.region id l.toArray false) Q st:=AW.region h
theorem lB (orc:List PD) {id:Nat} {l:List Oper} {b:Code} (h:qB P G l.toArray (andThen (AW P G b Q) Q) l st orc):AW P G (.seq (.region id l.toArray false) b) Q st:=AW.seq (AW.region h)
theorem mF (hT:TOK P T) (hmix:P.follows .mixedOrders=true) (ks:List Nat) (m:Nat) (tss:List (List Nat)) (orc1 orc2:List PD) {id:Nat} {l:List Oper} {sms:List Sm} {v1 v2:Know->Prop} (hchk:wO l m tss=true)
  (h1:∀ C,yL C T G l st (l.take m) tss st orc1=some (v1 C,sms,st1)) (hv1:v1 (kn P G)) (hconf:qAK l m (sms.map Sm.sum)=true) (h2:∀ C,zEK ks (jV C T G l (l.drop m) st1 orc2)=some (v2 C,st')) (hv2:v2 (kn P G)) (k:Q .normal st') :
  AW P G (.region id l.toArray true) Q st:=by
 obtain⟨s,hs,rfl⟩:=zIF (h2 (kn P G));have hlate:=yK (Q:=Q) hT l (l.drop m) [] _ orc2 _ s hs hv2 (oR ks k);rw[cR]at hlate;exact nW hT hmix m tss orc1 hchk (h1 (kn P G)) hv1 hconf hlate
theorem iL (hT:TOK P T) (hmix:P.follows .mixedOrders=true) (ks:List Nat) (m:Nat) (tss:List (List Nat)) (orc1 orc2:List PD) {id:Nat} {l:List Oper} {b:Code} {sms:List Sm} {v1 v2:Know->Prop} (hchk:wO l m tss=true)
  (h1:∀ C,yL C T G l st (l.take m) tss st orc1=some (v1 C,sms,st1)) (hv1:v1 (kn P G)) (hconf:qAK l m (sms.map Sm.sum)=true) (h2:∀ C,zEK ks (jV C T G l (l.drop m) st1 orc2)=some (v2 C,st')) (hv2:v2 (kn P G)) (k:AW P G b Q st') :
  AW P G (.seq (.region id l.toArray true) b) Q st:=AW.seq (mF hT hmix ks m tss orc1 orc2 hchk h1 hv1 hconf h2 hv2 k)
def qG (i:Nat):List V->List (Nat × V)
 | []=>[]
 | x::xs=>(i,x)::qG (i+1) xs
theorem qSZ:∀ (xs:List V) (i j:Nat),yN j (qG i xs)=if i<=j then xs.getD (j-i) .dead else .dead
 | [],i,j=>by simp[qG,yN]
 | x::xs,i,j=>by
  simp only[qG,yN,qSZ xs];by_cases h:i=j
  ·subst h;simp
  rw[bD h];by_cases h2:i+1<=j
  ·rw[bE h2,bE (by omega),show j-i=(j-(i+1))+1 by omega];simp
  rw[bD h2,bD (by omega)]
theorem qRP (xs:List V) (n:Nat) (h:xs.length<=n):xs++List.replicate (n-xs.length) .dead=qZ n (qG 0 xs):=by
 apply dP;intro i;rw[qEE,qSZ,cF];simp only[fC,if_true,Nat.sub_zero];by_cases h1:i<xs.length
 ·rw[bE h1,bE (by omega)];simp[h1]
 rw[bD h1];by_cases h2:i<n
 ·rw[bE h2];simp[show i-xs.length<n-xs.length by omega,bJ,cL (show xs.length<=i by omega)]
 rw[bD h2];simp[show ¬ i-xs.length<n-xs.length by omega]
theorem AFn.introU (hT : TOK P T) {f : FuncId} {fn : Func} {c : Code} {args : List PD} {r : PD} (hf : P.funcs[f]? = some fn) (hn : (fn.name == "runtime.NumGoroutine") = false) (hb : fn.body = some c) (hl : args.length.ble fn.ntmps = true)
  (h:AW P G c (Fin T fn.results.toList r) ⟨qZ fn.ntmps (qG 0 (args.map .p)),[],[],0⟩):AFn P G f args r:=by
 refine AFn.intro hT hf hn hb ?_;have:=qRP (args.map V.p) fn.ntmps (by simpa using Nat.le_of_ble_eq_true hl);simp only[cV]at this;rw[lC,this];exact h
theorem AX.introU (hT:TOK P T) {f:FuncId} {fn:Func} {c:Code} {xs:List V} {H:List (Nat × Box)} {r:V} {ps:List Nat} {H':List (Nat × Box)} (base:Nat) (hf:P.funcs[f]?=some fn)
  (hn : (fn.name == "runtime.NumGoroutine") = false) (hb : fn.body = some c) (hl : xs.length.ble fn.ntmps = true) (h : AW P G c (zZW T fn.results.toList r ps H') ⟨qZ fn.ntmps (qG 0 xs), H.map (·.1), H, base⟩) : AX P G f xs H r ps H' := by
 refine AX.intro hT base hf hn hb ?_;rw[mN,qRP xs fn.ntmps (Nat.le_of_ble_eq_true hl)];exact h
theorem qYP {n i:Nat} {as:List (Nat × V)} {x:V} (h:yN i as=x) (hi:i<n):(qZ n as)[i]?=some x:=by rw[qEE,bE hi,h]
theorem nE {c:Code} {n i sz b:Nat} {es:List PD} {as:List (Nat × V)} {p:List Nat} {H:List (Nat × Box)} (h:yN i as = .p (.sl sz es)) (hi:i<n) (k:es.length<=9223372036854775807->AW P G c Q ⟨qZ n as,p,H,b⟩):AW P G c Q ⟨qZ n as,p,H,b⟩ :=
 pI (i:=i) (qYP h hi) k
theorem oX {c:Code} {n i b:Nat} {s:List UInt8} {as:List (Nat × V)} {p:List Nat} {H:List (Nat × Box)} (h:yN i as = .p (.str s)) (hi:i<n) (k:s.length<=9223372036854775807->AW P G c Q ⟨qZ n as,p,H,b⟩):AW P G c Q ⟨qZ n as,p,H,b⟩ :=
 pA (i:=i) (qYP h hi) k
theorem lG {c:Code} {n i b:Nat} {kd:IntKind} {z:Int} {as:List (Nat × V)} {p:List Nat} {H:List (Nat × Box)} (h:yN i as = .p (.int kd z)) (hi:i<n) (k:kS kd<=z/\z<=kT kd->AW P G c Q ⟨qZ n as,p,H,b⟩):AW P G c Q ⟨qZ n as,p,H,b⟩ :=
 pC (i:=i) (qYP h hi) k
attribute [simp] zLQ zKP zKO qKA qJZ qHN yN zII qUV qPL qST leA zLK St.keep zEK qG
end
theorem qI {T:Tab} {rs:List ResultVar} {r:PD} {st:St} {l:List V} (h:qNQ T st rs=some (True,l):=by(conv=>lhs;simp)) (k:iS st.H (qYQ l) r:=by simp):Fin T rs r .ret st:=⟨.inr rfl,_,_,h,trivial,k⟩
theorem zC {T:Tab} {rs:List ResultVar} {r:V} {ps:List Nat} {H':List (Nat × Box)} {st:St} {l:List V} (h:qNQ T st rs=some (True,l):=by(conv=>lhs;simp)) (k:VLe (qYQ l) r:=by simp) (a:∀ i∈ps,i∈st.pins:=by simp) (b:∀ x∈H',x∈st.H:=by simp)
  (c:(H'.map (·.1)).Nodup:=by simp):zZW T rs r ps H' .ret st:=⟨.inr rfl,_,_,h,trivial,k,a,b,c⟩
theorem qDP {T:Tab} {rs:List ResultVar} {r:V} {ps:List Nat} {H':List (Nat × Box)} {st:St} {l:List V} (h:qNQ T st rs=some (True,l):=by(conv=>lhs;simp)) (k:VLe (qYQ l) r:=by simp) (a:∀ i∈ps,i∈st.pins:=by simp) (b:∀ x∈H',x∈st.H:=by simp)
  (c:(H'.map (·.1)).Nodup:=by simp):zZW T rs r ps H' .normal st:=⟨.inl rfl,_,_,h,trivial,k,a,b,c⟩
section
variable {P:Program} {T:Tab} {G:qT} {Q:Exit->St->Prop} {st st':St}
theorem qB.freeze {ops:Array Oper} {l:List Oper} {orc:List PD} (i:Nat) (h:st.freeze i=st') (k:qB P G ops Q l st' orc):qB P G ops Q l st orc:=fun x M μ tmps w hg r=>by
 subst h;obtain⟨M',r'⟩:=r.freeze i;exact k x M' μ tmps w hg r'
theorem qB.take {ops:Array Oper} {l:List Oper} {orc:List PD} (i j:Nat) (h:(st.kill j).ren i j=st') (k:qB P G ops Q l st' orc):qB P G ops Q l st orc :=
 fun x M _ tmps w hg r=>(h ▸ k) x M _ tmps w hg ((r.kill j).ren (qCV st j))
def uJ:List (Option Nat)->List V->List V
 | some sz::l,.nilsl::xs => .p (.sl sz [])::uJ l xs
 | _::l,x::xs=>x::uJ l xs
 | [],xs=>xs
 | _,[]=>[]
theorem qNY:∀ (l:List (Option Nat)) (xs:List V),(uJ l xs).length=xs.length
 | [],xs=>by simp[uJ]
 | none::l,[]=>by simp[uJ]
 | some sz::l,[]=>by simp[uJ]
 | none::l,x::xs=>by simp[uJ,qNY l xs]
 | some sz::l,x::xs=>by cases x <;> simp[uJ,qNY l xs]
theorem zOQ {M:qY} {μ:Mu} {u:Value} (sz:Nat) (h:RV M μ u .nilsl):RV M μ u (.p (.sl sz [])):=by
 cases h;exact .p (.sl 0 0 rfl (bP _) (by simp[maxLen]) (fun h=>(h rfl).elim) (fun i e h=>by simp at h) (fun i e j h=>by simp at h) (fun i e j d u h=>by simp at h))
theorem qNZ {M:qY} {μ:Mu}:∀ (l:List (Option Nat)) (xs:List V) (i:Nat) (y:V),(uJ l xs)[i]?=some y->∃ x,xs[i]?=some x/\∀ u,RV M μ u x->RV M μ u y
 | [],xs,i,y,h=>⟨y,by simpa[uJ]using h,fun _ h=>h⟩
 | none::l,[],i,y,h=>by simp[uJ]at h
 | some sz::l,[],i,y,h=>by simp[uJ]at h
 | none::l,x::xs,i,y,h=>by
  cases i with
  | zero=>simp[uJ]at h;subst h;exact⟨x,by simp,fun _ h=>h⟩
  | succ i=>simp[uJ]at h;obtain⟨x',h1,h2⟩:=qNZ (M:=M) (μ:=μ) l xs i y h;exact⟨x',by simpa using h1,h2⟩
 | some sz::l,x::xs,i,y,h=>by
  cases i with
  | zero =>
   refine⟨x,by simp, ?_⟩;cases x <;> simp[uJ]at h <;> subst h <;> first|exact fun _ h=>zOQ sz h|exact fun _ h=>h
  | succ i =>
   have h':(uJ l xs)[i]?=some y:=by cases x <;> simpa[uJ]using h
   obtain⟨x',h1,h2⟩:=qNZ (M:=M) (μ:=μ) l xs i y h';exact⟨x',by simpa using h1,h2⟩
def St.fill (st:St) (id:Nat) (l:List (Option Nat)):St :=
 match zS id st.H with
 | some (.vars e cs)=>{ st with H:=zO id (.vars e (uJ l cs)) st.H }
 | _=>st
theorem Rel.fill {c:Ctx} {M:qY} {μ:Mu} {tmps:Array Value} {w:World} (r:Rel c M μ st tmps w) (id:Nat) (l:List (Option Nat)):Rel c M μ (st.fill id l) tmps w:=by
 unfold St.fill;split
 ·rename_i e cs hb;have hm:=zD hb;have hk:qM id st.H=true:=qH.2 ⟨_,hm⟩;have hbx:=r.box id _ hm;cases hbx with
  | @vars _ _ b arr h0 h1 h2 h3 h4 =>
   refine r.write hk h0 ⟨rfl,rfl,rfl,rfl,fun _ _=>rfl⟩ (.vars h0 h1 (by rw[qNY];exact h2) h3 fun i u y hu hy => ?_);obtain⟨x,hx,hxy⟩:=qNZ (M:=M) (μ:=μ) l cs i y hy;exact hxy u (h4 i u x hu hx)
 exact r
theorem qB.fill {ops:Array Oper} {l:List Oper} {orc:List PD} (id:Nat) (ns:List (Option Nat)) (h:st.fill id ns=st') (k:qB P G ops Q l st' orc):qB P G ops Q l st orc :=
 fun x M μ tmps w hg r=>(h ▸ k) x M μ tmps w hg (r.fill id ns)
attribute [simp] St.fill uJ
end
mutual
def V.frv (id:Nat) (ds:List PD):V->V
 | .ms i=>if i=id then .dead else .ms i
 | .agg cs => .agg (lU id ds cs)
 | .when b x => .when b (V.frv id ds x)
 | .func f a b => .func f (lU id ds a) (lU id ds b)
 | .tuple cs => .tuple (lU id ds cs)
 | .ptr i o=>if i=id then .cptr (ds.drop o) else .ptr i o
 | .rptr i n s o=>if i=id then .dead else .rptr i n s o
 | .tl i n s=>if i=id then .dead else .tl i n s
 | .it i=>if i=id then .dead else .it i
 | .p d => .p d
 | .dead => .dead
 | .nilsl => .nilsl
 | .cptr cs => .cptr cs
def lU (id:Nat) (ds:List PD):List V->List V
 | []=>[]
 | x::xs=>V.frv id ds x::lU id ds xs
end
theorem lM (id:Nat) (ds:List PD):∀ l,lU id ds l=l.map (V.frv id ds)
 | []=>by simp only[lU,bC]
 | x::xs=>by simp only[lU,bA,lM id ds xs]
theorem RV.frv {M M':qY} {μ:Mu} {id:Nat} {ds:List PD} (hM:∀ b o v,M b o=some v->M' b o=some v) (hd:∀ b,(μ id).blk=some b->(∀ (j:Nat) d,ds[j]?=some d->∃ u,M' b j=some u/\u.oneCell'=true)/\(∀ (j:Nat) d u,ds[j]?=some d->M' b j=some u->Rd M' u d))
  {u:Value} {x:V} (r:RV M μ u x):RV M' μ u (x.frv id ds):=by
 induction r with
 | p r=>simp only[V.frv];exact .p (r.mono hM)
 | dead=>simp only[V.frv];exact .dead
 | nilsl=>simp only[V.frv];exact .nilsl
 | @ptr i off b h1 =>
  simp only[V.frv];split
  ·rename_i e;subst e;obtain⟨h2,h3⟩:=hd b h1;exact .cptr (fun j d hj=>h2 _ d (by rw[bZ]at hj;exact hj)) (fun j d u hj hu=>h3 _ d u (by rw[bZ]at hj;exact hj) hu)
  exact .ptr h1
 | rptr h1 =>
  simp only[V.frv];split
  ·exact .dead
  exact .rptr h1
 | tl h1 h2 h3 =>
  simp only[V.frv];split
  ·exact .dead
  exact .tl h1 h2 h3
 | cptr h1 h2 =>
  simp only[V.frv];refine .cptr (fun j d hd => ?_) (fun j d u hd hu => ?_)
  ·obtain⟨u,hu,hc⟩:=h1 j d hd;exact⟨u,hM _ _ _ hu,hc⟩
  obtain⟨u',hu',_⟩:=h1 j d hd;have:=hM _ _ _ hu';rw[this]at hu;cases hu;exact(h2 j d _ hd hu').mono hM
 | ms h1 h2 =>
  simp only[V.frv];split
  ·exact .dead
  exact .ms h1 h2
 | it h1 =>
  simp only[V.frv];split
  ·exact .dead
  exact .it h1
 | func h1 h2 _ _ ih1 ih2 =>
  simp only[V.frv,lM];refine .func (by simpa using h1) (by simpa using h2) (fun i u x hu hx => ?_) (fun i u x hu hx => ?_)
  ·rw[bG]at hx;obtain⟨y,hy,rfl⟩:=bF.1 hx;exact ih1 i u y hu hy
  rw[bG]at hx;obtain⟨y,hy,rfl⟩:=bF.1 hx;exact ih2 i u y hu hy
 | agg h1 h2 _ ih =>
  simp only[V.frv,lM];refine .agg (by simpa using h1) h2 (fun i u x hu hx => ?_);rw[bG]at hx;obtain⟨y,hy,rfl⟩:=bF.1 hx;exact ih i u y hu hy
 | tuple h1 _ ih =>
  simp only[V.frv,lM];refine .tuple (by simpa using h1) (fun i u x hu hx => ?_);rw[bG]at hx;obtain⟨y,hy,rfl⟩:=bF.1 hx;exact ih i u y hu hy
 | when _ h2 ih=>simp only[V.frv];exact .when (fun hb=>ih hb) h2
def Box.frv (id:Nat) (ds:List PD):Box->Box
 | .vars e cs => .vars e (lU id ds cs)
 | .row e sz es => .row e sz es
 | .iter s pos => .iter s pos
 | .mp ks vs => .mp ks (lU id ds vs)
 | .mpx ks vs => .mpx ks (lU id ds vs)
 | .obj b v o rs => .obj b v o rs
 | .brow e bs => .brow e bs
 | .mach es en ss => .mach es en ss
 | .prow e ps => .prow e (lU id ds ps)
theorem RBox.frv {M M':qY} {μ:Mu} {w:World} {id i:Nat} {ds:List PD} (hM:∀ b o v,M b o=some v->M' b o=some v) (hd:∀ b,(μ id).blk=some b->(∀ (j:Nat) d,ds[j]?=some d->∃ u,M' b j=some u/\u.oneCell'=true)/\(∀ (j:Nat) d u,ds[j]?=some d->M' b j=some u->Rd M' u d))
  {bx:Box} (r:RBox M μ w i bx):RBox M' μ w i (bx.frv id ds):=by
 cases r with
 | mach h0 hv h1 h2 h3 h4 h5 hn h6=>exact .mach h0 hv h1 h2 h3 h4 h5 hn (h6.mono hM fun _ _=>rfl)
 | machN h0 hv h1=>exact .machN h0 hv h1
 | vars h0 h1 h2 h3 h4 =>
  simp only[Box.frv,lM];refine .vars h0 h1 (by simpa using h2) h3 fun i u x hu hx => ?_;rw[bG]at hx;obtain⟨y,hy,rfl⟩:=bF.1 hx;exact(h4 i u y hu hy).frv hM hd
 | row h0 hv h1 h2 h3 h4 h5 h6 h7=>exact .row h0 hv h1 h2 h3 h4 h5 h6 fun i e' j d u he hd hu=>(h7 i e' j d u he hd hu).mono hM
 | rowN h0 hv=>exact .rowN h0 hv
 | iter h0 h1 h2 h3=>exact .iter h0 h1 h2 h3
 | obj h0 hv h1=>exact .obj h0 hv h1
 | brow h0 hv h1 h2 h3 h4 h5 h6=>exact .brow h0 hv h1 h2 h3 h4 h5 h6
 | prow h0 hv h1 h2 h3 h4 h5 h6 =>
  simp only[Box.frv,lM];refine .prow h0 (by simpa using hv) h1 h2 (by simpa using h3) h4 h5 fun i u x hu hx => ?_;rw[bG]at hx;obtain⟨y,hy,rfl⟩:=bF.1 hx;exact(h6 i u y hu hy).frv hM hd
 | mpx h0 hv h1 hB hl h2 h3 =>
  simp only[Box.frv,lM];refine .mpx h0 hv h1 hB (by simpa using hl) (fun e he => ?_) h3;obtain⟨i,ba,g1,g2,g3,g4⟩:=h2 e he;refine⟨i,ba,g1,g2,g3,fun x hx => ?_⟩;rw[bG]at hx;obtain⟨y,hy,rfl⟩:=bF.1 hx;exact(g4 y hy).frv hM hd
 | mp h0 hv h1 hB h2 h3 h4 h5 =>
  simp only[Box.frv,lM];refine .mp h0 hv h1 hB h2 (by simpa using h3) h4 fun i e x he hx => ?_;rw[bG]at hx;obtain⟨y,hy,rfl⟩:=bF.1 hx;exact(h5 i e y he hy).frv hM hd
def qUY (id:Nat) (ds:List PD):List (Nat × Box)->List (Nat × Box)
 | []=>[]
 | (i,b)::r=>if i=id then qUY id ds r else(i,b.frv id ds)::qUY id ds r
theorem qMF {id:Nat} {ds:List PD}:∀ {H:List (Nat × Box)} {i:Nat} {b:Box},(i,b)∈qUY id ds H->i≠id/\∃ b',(i,b')∈H/\b=b'.frv id ds
 | (j,c)::r,i,b,h=>by
  simp only[qUY]at h;split at h
  ·obtain⟨h1,b',h2,h3⟩:=qMF h;exact⟨h1,b',bM.2 (.inr h2),h3⟩
  rename_i hj;rcases bM.1 h with e|e
  ·cases e;exact⟨hj,c,by simp,rfl⟩
  obtain⟨h1,b',h2,h3⟩:=qMF e;exact⟨h1,b',bM.2 (.inr h2),h3⟩
theorem qNW (id:Nat) (ds:List PD):∀ H:List (Nat × Box),(qUY id ds H).map (·.1)=(H.map (·.1)).filter (· ≠ id)
 | []=>rfl
 | (j,c)::r=>by
  simp only[qUY];split
  ·rename_i h;simp[h,qNW id ds r]
  rename_i h;simp[h,qNW id ds r]
theorem qKM {id i:Nat} {ds:List PD} {H:List (Nat × Box)} (h:qM i (qUY id ds H)=true):i≠id/\qM i H=true:=by
 obtain⟨b,hb⟩:=qH.1 h;obtain⟨h1,b',h2,_⟩:=qMF hb;exact⟨h1,qH.2 ⟨b',h2⟩⟩
def St.freezeV (st:St) (id:Nat):St :=
 match zS id st.H with
 | some (.vars _ cs)=>match qCW cs with
  | some ds=>{ st with tmps:=lU id ds st.tmps,pins:=st.pins.filter (· != id),H:=qUY id ds st.H }
  | none=>st
 | _=>st
theorem Rel.freezeV {c:Ctx} {M:qY} {μ:Mu} {st:St} {tmps:Array Value} {w:World} (r:Rel c M μ st tmps w) (id:Nat):∃ M',Rel c M' μ (st.freezeV id) tmps w:=by
 unfold St.freezeV;split
 ·rename_i e cs hb;split
  ·rename_i ds hds;have hm:=zD hb;have hk:qM id st.H=true:=qH.2 ⟨_,hm⟩;let M2:qY:=fun b o=>if(μ id).blk=some b then w.cell? ⟨b,o,none⟩ else M b o
   have e1:∀ b o,(μ id).blk=some b->M2 b o=w.cell? ⟨b,o,none⟩:=fun b o h=>bE h;have e2:∀ b o,(μ id).blk≠some b->M2 b o=M b o:=fun b o h=>bD h;have hM:∀ b o v,M b o=some v->M2 b o=some v:=by
    intro b o v hv;by_cases h:(μ id).blk=some b
    ·rw[e1 b o h];exact r.mem b o v hv
    rw[e2 b o h];exact hv
   have hfit:=qAL (H:=[]) hds;have hd:∀ b,(μ id).blk=some b->(∀ (j:Nat) d,ds[j]?=some d->∃ u,M2 b j=some u/\u.oneCell'=true)/\(∀ (j:Nat) d u,ds[j]?=some d->M2 b j=some u->Rd M2 u d):=by
    intro b hbk;have hbx:=r.box id _ hm;cases hbx with
    | @vars _ _ b' arr h0 h1 h2 h3 h4 =>
     rw[hbk]at h0;cases h0;have hl:=iX hfit;have hcell:∀ j,w.cell? ⟨b,j,none⟩=arr[j]?:=fun j=>zQ h1;refine⟨fun j d hj => ?_,fun j d u hj hu => ?_⟩
     ·have hlt:j<arr.size:=by rw[h2,hl];exact(bB.1 hj).1
      exact⟨arr[j],by rw[e1 b j hbk,hcell];simp[hlt],h3 j _ (by simp[hlt])⟩
     rw[e1 b j hbk,hcell]at hu;have hlt:j<cs.length:=by rw[hl];exact(bB.1 hj).1
     have hx:cs[j]?=some cs[j]:=by simp[hlt]
     exact(kZ (h4 j u _ hu hx) (iY hfit hx hj)).mono hM
   refine⟨M2, ?_,fun b o v hv=>hM _ _ _ (r.ext b o v hv),fun b o hb => ?_,⟨by simp[lM,r.slots.1],fun i u x hu hx => ?_⟩,fun i hi=>r.pins i (eN.1 hi).1,fun i b hi => ?_, ?_,fun i j b hi hj => ?_,fun i b hi hib => ?_,r.size,r.below⟩
   ·intro b o v hv;by_cases h:(μ id).blk=some b
    ·rw[e1 b o h]at hv;exact hv
    rw[e2 b o h]at hv;exact r.mem b o v hv
   ·rw[e2 b o fun h=>hb (r.own id b hk (.inl h)).1];exact r.old b o hb
   ·simp only[lM]at hx;rw[bG]at hx;obtain⟨y,hy,rfl⟩:=bF.1 hx;exact(r.slots.2 i u y hu hy).frv hM hd
   ·obtain⟨_,b',h2,rfl⟩:=qMF hi;exact(r.box i b' h2).frv hM hd
   ·show((qUY id ds st.H).map (·.1)).Nodup
    rw[qNW];exact r.nodup.filter _
   ·exact r.inj i j b (qKM hi).2 (qKM hj).2
   obtain⟨h1,h2⟩:=qKM hi;have h3:=r.own i b h2 hib;exact⟨h3.1,h3.2.1,fun o=>by rw[e2 b o fun h=>h1 (r.inj i id b h2 hk hib (.inl h))];exact h3.2.2 o⟩
  exact⟨M,r⟩
 exact⟨M,r⟩
section
variable {P:Program} {T:Tab} {G:qT} {Q:Exit->St->Prop} {st st':St}
theorem qB.freezeV {ops:Array Oper} {l:List Oper} {orc:List PD} (i:Nat) (h:st.freezeV i=st') (k:qB P G ops Q l st' orc):qB P G ops Q l st orc:=fun x M μ tmps w hg r=>by
 subst h;obtain⟨M',r'⟩:=r.freezeV i;exact k x M' μ tmps w hg r'
theorem AW.freezeV {c:Code} (i:Nat) (h:st.freezeV i=st') (k:AW P G c Q st'):AW P G c Q st:=fun x M μ tmps w hg r=>by
 subst h;obtain⟨M',r'⟩:=r.freezeV i;exact k x M' μ tmps w hg r'
theorem lJ {c:Code} (d id:Nat) (e:TypeId) (sz:Nat) (hd:st.tmps[d]?=some .nilsl) (hf:st.fresh id=true) (h:({ st with tmps:=st.tmps.set d (.ms id),H:=(id,.row e sz [])::st.H }:St)=st')
  (k:AW P G c Q st'):AW P G c Q st:=AW.begin (d:=d) (id:=id) e sz hd hf (h ▸ k)
theorem lI {c:Code} (i j:Nat) (hf:st.fresh j=true) (h:st.ren i j=st') (k:AW P G c Q st'):AW P G c Q st:=AW.ren i j hf (h ▸ k)
theorem lD {c:Code} (i:Nat) (h:st.freeze i=st') (k:AW P G c Q st'):AW P G c Q st:=fun x M μ tmps w hg r=>by
 subst h;obtain⟨M',r'⟩:=r.freeze i;exact k x M' μ tmps w hg r'
@[simp] theorem wEJ (id:Nat) (ds:List PD) (n:Nat) (as:List (Nat × V)):lU id ds (qZ n as)=qZ n (qUV (V.frv id ds) as):=by
 rw[lM,qKW (by simp only[V.frv])]
attribute [simp] V.frv lU Box.frv qUY St.freezeV
end
section
variable {P:Program} {T:Tab} {G:qT} {Q:Exit->St->Prop} {st st':St}
theorem Rel.plain {M:qY} {w:World} {args:List PD} {vs:Array Value} (μ:Mu) (hmem:∀ b o v,M b o=some v->w.cell? ⟨b,o,none⟩=some v) (hsz:vs.size=args.length) (hrd:∀ (i:Nat) u d,vs[i]?=some u->args[i]?=some d->Rd M u d) :
  Rel ⟨w.heap.size,w,M,μ,yI μ []⟩ M μ ⟨args.map .p,[],[],0⟩ vs w:=by
 refine⟨hmem,fun _ _ _ h=>h,fun _ _ _=>rfl,⟨by simpa using hsz,fun i u x hu hx => ?_⟩,(fun _ h=>by cases h),(fun _ _ h=>by cases h),List.nodup_nil,(fun _ _ _ h=>by simp[qM]at h),(fun _ _ h=>by simp[qM]at h),bP _,Kept.refl _ _⟩;rw[bG]at hx;obtain⟨d,hd,rfl⟩:=bF.1 hx;exact .p (hrd i u d hu hd)
theorem AR.of_AX {f:FuncId} {args:List PD} {k e sz:Nat} {es:List PD} (h:AX P G f (args.map .p) [] (.ms k) [] [(k,.row e sz es)]):AR P G f args e sz es:=by
 refine⟨h.1,fun M w vs hg hmem hsz hrd=>(h.2 M (fun _=>default) w vs hg (Rel.plain _ hmem hsz hrd)).mono ?_⟩;rintro e' w' ⟨v,M',μ',rfl,r'⟩;have hno:∀ b, ¬ yI (fun _=>(default:Loc)) [] b:=fun b ⟨i,hi,_⟩=>by simp[qM]at hi
 have hk:qM k [(k,Box.row e sz es)]=true:=by simp[qM]
 have hv:=r'.slots.2 0 v (.ms k) (by simp) (by simp);cases hv with
 | ms hval hone =>
 have hbx:=r'.box k (.row e sz es) (cG.2 rfl);refine⟨v,M',rfl,r'.mem,r'.ext,fun b o hb=>r'.old b o fun hm=>hm.elim (fun h=>by simp at h;omega) (hno b),⟨r'.below.os,r'.below.tape,r'.below.output,r'.below.size,fun j hj=>r'.below.block j fun hm=>hm.elim (fun h=>by simp at h;omega) (hno j)⟩,
  μ' k,hval.symm,hone, ?_,fun b hb => ?_⟩
 ·cases hbx with
  | row h0 hv h1 h2 h3 h4 h5 h6 h7=>exact .row h0 hv h1 h2 h3 h4 h5 h6 h7
  | rowN h0 hv=>exact .rowN h0 hv
 obtain⟨h1,h2,h3⟩:=r'.own k b hk (.inl hb);exact⟨h1.elim (fun h=>h) fun h=>(hno b h).elim,h2,h3⟩
theorem zAM (k:Nat) {t e:TypeId} (hd:P.underlying t=some (.slice e)) (a:Option Addr) (n c:Nat) (w:World):(Op.equalIn (k+1) t (.slice a n c) (.slice none 0 0)).run P w = .ok a.isNone w:=by
 cases a <;> simp[Op.equalIn,run_underlying hd]
theorem nX {ops:Array Oper} {o:Oper} {rest:List Oper} {orc:List PD} (hT:TOK P T) (ks:List Nat) {t ty e sz:Nat} {x:Operand} {p:Prop} {es:List PD} (ho:o.op = .binOp .eql t x (.const (.slice none 0 0)) ty) (ht:wC T t=some (.sl e))
  (ha:st.arg G x=(p,.p (.sl sz es))) (hp:p) (hgd:o.guard=none) (k:∀ b:Bool,(es≠[]->b=false)->qB P G ops Q rest ((st.put o.dst (.p (.bool b))).keep ks) orc):qB P G ops Q (o::rest) st orc:=by
 intro c M μ tmps w hg r;have h1:=(qF hg r ha hp).p_inv;have hd:=hT.sl ht;generalize hu:Act.eval ⟨tmps,[]⟩ x=u at h1;cases h1 with
 | @sl a n cc _ _ b o' hn hnc hcm hab h5 h6 h7 =>
 have he:(Op.equal t (.slice a n cc) (.slice none 0 0)).run P w = .ok a.isNone w:=by
  exact zAM 9999 hd a n cc w
 have e1:(execOp (Act.eval ⟨tmps,[]⟩) o).run P w = .ok (.value (.bool a.isNone)) w:=by
  have hg:(eqGuard .eql t x (.const (.slice none 0 0)) (.slice a n cc) (.slice none 0 0)).run P w = .ok () w:=by simp only[eqGuard];rfl
  have hb2:(binOp .eql t (.slice a n cc) (.slice none 0 0)).run P w = .ok (.bool a.isNone) w:=by
   show(do pure (.bool (<-Op.equal t (.slice a n cc) (.slice none 0 0))):Sem Value).run P w=_
   simp only[Sem.run_bind,he,Result.andThen];rfl
  simp[execOp,ho,hu,hg,hb2,show Act.eval ⟨tmps,[]⟩ (.const (.slice none 0 0)) = .slice none 0 0 from rfl]
 have hb:es≠[]->a.isNone=false:=fun he=>by
  have:n≠0:=by rw[hn];exact fun h=>he (bS h)
  rw[hab this];rfl
 refine wpList_plain hgd fun K hK=>xG (next:=fun v w'=>v = .bool a.isNone/\w'=w) (by rw[e1];exact⟨rfl,rfl⟩) ?_;rintro u w' ⟨rfl,rfl⟩;apply hK;rw[lO];exact zZ.keep ks (k _ hb) c M μ _ w' hg (r.put (.p (.bool _)) o.dst)
theorem qB.same {ops:Array Oper} {l:List Oper} {orc:List PD} (h:st=st') (k:qB P G ops Q l st' orc):qB P G ops Q l st orc:=h ▸ k
end
abbrev zZR:=List Nat × List Nat × List Nat × List Nat
def ndB:List (Nat × Box)->Bool
 | []=>true
 | (i,_)::r => !qM i r && ndB r
theorem wX:∀ {H:List (Nat × Box)},ndB H=true->(H.map (·.1)).Nodup
 | [],_=>List.nodup_nil
 | (i,b)::r,h=>by
  simp only[ndB,bI,fF]at h;simp only[bA,fG];exact⟨fun hm=>by rw[wH.2 hm]at h;exact absurd h.1 (by simp),wX h.2⟩
section
variable {P:Program} {T:Tab} {G:qT} {Q:Exit->St->Prop} {st st' st0:St} {ops rest:List Oper} {tss:List (List Nat)} {ts:List Nat} {orc orc':List PD} {acc:qAX} {o:Oper} {sm:zZR} {v:Know->Prop}
def DGo (P:Program) (T:Tab) (G:qT) (ops:List Oper) (st0:St) (l:List Oper) (tss:List (List Nat)) (st:St) (orc:List PD) (acc:qAX) (K:qAX->St->Prop):Prop :=
 ∃ v sms st1,yL (kn P G) T G ops st0 l tss st orc=some (v,sms,st1)/\v/\K (acc++sms.map Sm.sum) st1
variable {K:qAX->St->Prop}
theorem DGo.nil (hn:ndB st.H=true) (k:K acc st):DGo P T G ops st0 [] tss st orc acc K:=⟨_,_,_,rfl,wX hn,by simpa using k⟩
def qJM (C:Know) (T:Tab) (G:qT) (st0:St) (ts:List Nat) (o:Oper) (st:St) (orc:List PD):Option (Prop × St × zZR × List PD) :=
 match qGC C T G st0 (st.small ts) o orc with
 | some (v,s,orc')=>some (v,st.after o.dst s,s.sum,orc')
 | none=>none
theorem DGo.one (h:∀ C,qJM C T G st0 ts o st orc=some (v C,st',sm,orc')) (hv:v (kn P G)) (hgd:o.guard=none) (hn:ndB st.H=true) (k:DGo P T G ops st0 rest tss st' orc' (acc++[sm]) K) :
  DGo P T G ops st0 (o::rest) (ts::tss) st orc acc K:=by
 have h1:=h (kn P G);unfold qJM at h1;split at h1
 ·rename_i v1 s orc1 h2;simp only[Option.some.injEq,Prod.mk.injEq]at h1;obtain⟨h3,rfl,rfl,rfl⟩:=h1;obtain⟨w,sms,st1,e,hw,hk⟩:=k;exact⟨(st.H.map (·.1)).Nodup/\v1/\w,s::sms,st1,by simp only[yL,hgd,h2,e],⟨wX hn,h3 ▸ hv,hw⟩,by simpa using hk⟩
 cases h1
def qTT (C:Know) (T:Tab) (G:qT) (st0:St) (ts:List Nat) (o:Oper) (d:Nat) (pol:Bool) (st:St) (orc:List PD):Option (Prop × St × zZR × List PD) :=
 match iZ pol (st.tmps.getD d .dead)with
 | none=>none
 | some b=>match qCL C T G (st.small ts) o.op orc with
  | some (v,x,orc') =>
   let s:Sm:=⟨.when b x,(st.small ts).H,(st.small ts).H,(st.small ts).pins,[],true⟩
   some (d<st.tmps.length/\(b=true->v)/\s.good,st.after o.dst s,s.sum,orc')
  | none=>match b with
   | true=>match qGC C T G st0 (st.small ts) o orc with
    | some (v,s,orc')=>some (d<st.tmps.length/\v,st.after o.dst { s with x := .when true s.x },({ s with x := .when true s.x }:Sm).sum,orc')
    | none=>none
   | false =>
    let s:Sm:=⟨.when false (.p (.bool false)),[],[],[],[],true⟩
    some (d<st.tmps.length,st.after o.dst s,s.sum,orc)
theorem DGo.oneIf (d:Nat) {j:Nat} {pol:Bool} (h:∀ C,qTT C T G st0 ts o d pol st orc=some (v C,st',sm,orc')) (hv:v (kn P G)) (hgd:o.guard=some (j,pol)) (hd:(ops[j]?).bind (·.dst)=some d) (hn:ndB st.H=true)
  (k:DGo P T G ops st0 rest tss st' orc' (acc++[sm]) K):DGo P T G ops st0 (o::rest) (ts::tss) st orc acc K:=by
 have h1:=h (kn P G);have hn':=wX hn;unfold qTT at h1;obtain⟨w,sms,st1,e,hw,hk⟩:=k;split at h1
 ·cases h1
 rename_i b hb;split at h1
 ·rename_i v1 x orc1 h2;simp only[Option.some.injEq,Prod.mk.injEq]at h1;obtain⟨h3,rfl,rfl,rfl⟩:=h1;have hv':=h3.symm ▸ hv;exact⟨(st.H.map (·.1)).Nodup/\d<st.tmps.length/\(b=true->v1)/\Sm.good ⟨.when b x,(st.small ts).H,(st.small ts).H,(st.small ts).pins,[],true⟩/\w,(⟨.when b x,(st.small ts).H,(st.small ts).H,(st.small ts).pins,[],true⟩:Sm)::sms,st1,by simp only[yL,hgd,hd,hb,h2,e],⟨hn',hv'.1,hv'.2.1,hv'.2.2,hw⟩,by simpa using hk⟩
 rename_i h2;split at h1
 ·split at h1
  ·rename_i v1 s orc1 h4;simp only[Option.some.injEq,Prod.mk.injEq]at h1;obtain⟨h3,rfl,rfl,rfl⟩:=h1;have hv':=h3.symm ▸ hv;exact⟨(st.H.map (·.1)).Nodup/\d<st.tmps.length/\v1/\w,({ s with x := .when true s.x }:Sm)::sms,st1,by simp only[yL,hgd,hd,hb,h2,h4,e],⟨hn',hv'.1,hv'.2,hw⟩,by simpa using hk⟩
  cases h1
 simp only[Option.some.injEq,Prod.mk.injEq]at h1;obtain⟨h3,rfl,rfl,rfl⟩:=h1;have hv':=h3.symm ▸ hv;exact⟨(st.H.map (·.1)).Nodup/\d<st.tmps.length/\w,(⟨.when false (.p (.bool false)),[],[],[],[],true⟩:Sm)::sms,st1,by simp only[yL,hgd,hd,hb,h2,e],⟨hn',hv',hw⟩,by simpa using hk⟩
theorem d1 (k:DGo P T G ops st0 rest tss st' orc' (acc++[sm]) K) (h:∀ C,qJM C T G st0 ts o st orc=some (v C,st',sm,orc'):=by intro C;conv=>lhs;simp) (hv:v (kn P G):=by first|exact True.intro|omega|simp|(simp +contextual;omega)) (hgd:o.guard=none:=by rfl) (hn:ndB st.H=true:=by kernel_rfl) :
  DGo P T G ops st0 (o::rest) (ts::tss) st orc acc K:=DGo.one h hv hgd hn k
theorem d2 (d:Nat) {j:Nat} {pol:Bool} (hgd:o.guard=some (j,pol)) (hd:(ops[j]?).bind (·.dst)=some d) (k:DGo P T G ops st0 rest tss st' orc' (acc++[sm]) K) (h:∀ C,qTT C T G st0 ts o d pol st orc=some (v C,st',sm,orc'):=by intro C;conv=>lhs;simp) (hv:v (kn P G):=by first|exact True.intro|omega|simp|(simp +contextual;omega))
  (hn:ndB st.H=true:=by kernel_rfl):DGo P T G ops st0 (o::rest) (ts::tss) st orc acc K:=DGo.oneIf d h hv hgd hd hn k
theorem dq1 {A:Prop} (hA:A) (k:DGo P T G ops st0 rest tss st' orc' (acc++[sm]) K) (h:∀ C,qJM C T G st0 ts o st orc=some (v C,st',sm,orc'):=by intro C;conv=>lhs;simp) (hv:A->v (kn P G):=by intro hA;first|with_reducible exact True.intro|exact hA|exact hA.1|exact hA.2|exact hA.2.1|exact hA.2.2|(simpa using hA;done)|omega|simp|(simp +contextual;omega)) (hgd:o.guard=none:=by rfl) (hn:ndB st.H=true:=by kernel_rfl) :
    DGo P T G ops st0 (o::rest) (ts::tss) st orc acc K:=DGo.one h (hv hA) hgd hn k
theorem dq2 (d:Nat) {j:Nat} {pol:Bool} (hgd:o.guard=some (j,pol)) (hd:(ops[j]?).bind (·.dst)=some d) {A:Prop} (hA:A) (k:DGo P T G ops st0 rest tss st' orc' (acc++[sm]) K) (h:∀ C,qTT C T G st0 ts o d pol st orc=some (v C,st',sm,orc'):=by intro C;conv=>lhs;simp) (hv:A->v (kn P G):=by intro hA;first|with_reducible exact True.intro|exact hA|exact hA.1|exact hA.2|exact hA.2.1|exact hA.2.2|(simpa using hA;done)|omega|simp|(simp +contextual;omega))
    (hn:ndB st.H=true:=by kernel_rfl):DGo P T G ops st0 (o::rest) (ts::tss) st orc acc K:=DGo.oneIf d h (hv hA) hgd hd hn k
theorem pN (hT:TOK P T) (hmix:P.follows .mixedOrders=true) (m:Nat) (tss:List (List Nat)) (orc orc2:List PD) {id:Nat} {l:List Oper} (hchk:wO l m tss=true)
  (h:DGo P T G l st (l.take m) tss st orc [] fun qYS st1=>qAK l m qYS=true/\qB P G l.toArray Q (l.drop m) st1 orc2):AW P G (.region id l.toArray true) Q st:=by
 obtain⟨v,sms,st1,e,hv,hc,hl⟩:=h;exact nW hT hmix m tss orc hchk e hv (by simpa using hc) hl
theorem iU (hT:TOK P T) (hmix:P.follows .mixedOrders=true) (m:Nat) (tss:List (List Nat)) (orc orc2:List PD) {id:Nat} {l:List Oper} {b:Code} (hchk:wO l m tss=true)
  (h:DGo P T G l st (l.take m) tss st orc [] fun qYS st1=>qAK l m qYS=true/\qB P G l.toArray (andThen (AW P G b Q) Q) (l.drop m) st1 orc2):AW P G (.seq (.region id l.toArray true) b) Q st :=
 AW.seq (pN hT hmix m tss orc orc2 hchk h)
attribute [simp] qJM qTT Sm.sum Sm.foot Sm.tch Sm.refs
end
end Go.Proofs.YtgcbapchinideaaGreatDoor.Sy
