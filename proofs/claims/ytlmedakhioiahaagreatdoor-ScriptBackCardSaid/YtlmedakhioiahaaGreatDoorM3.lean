import Derived.Test.YtlmedakhioiahaaGreatDoorM2
namespace Go.Proofs.YtlmedakhioiahaaGreatDoor.Sy
open Go
def zJ (i:Nat):List (Nat × V)→V
 | [] => .dead
 | (j,x)::r=>if j=i then x else zJ i r
def qDF (i:Nat) (v:V):List (Nat × V)→List (Nat × V)
 | []=>[(i,v)]
 | (j,x)::r=>if j=i then (j,v)::r else (j,x)::qDF i v r
def qOE (f:V→V):List (Nat × V)→List (Nat × V)
 | []=>[]
 | (j,x)::r=>(j,f x)::qOE f r
def qJP (ks:List Nat):List (Nat × V)→List (Nat × V)
 | []=>[]
 | (j,x)::r=>if ks.contains j then (j,x)::qJP ks r else qJP ks r
def qFP (id:Nat):List (Nat × V)→Bool
 | []=>true
 | (_,x)::r=>V.noRef id x && qFP id r
def leA (as:List (Nat × V)):List (Nat × V)→Prop
 | []=>True
 | (j,x)::r=>VLe (zJ j as) x∧leA as r
def zR (n:Nat) (as:List (Nat × V)):List V:=(List.range n).map fun i=>zJ i as
@[simp] theorem qPP (n:Nat) (as:List (Nat × V)):(zR n as).length=n:=by simp [zR]
@[simp] theorem vX (n:Nat) (as:List (Nat × V)) (i:Nat):(zR n as)[i]?=if i<n then some (zJ i as) else none:=by
 simp only [zR,List.getElem?_map]
 by_cases h:i<n <;> simp [h]
theorem qFF (n:Nat) (as:List (Nat × V)) (i:Nat):(zR n as).getD i .dead=if i<n then zJ i as else .dead:=by
 rw [List.getD_eq_getElem?_getD,vX]
 split <;> rfl
@[simp] theorem zCR {n i:Nat} {as:List (Nat × V)} (h:i<(zR n as).length):(zR n as)[i]=zJ i as:=by simp [zR]
theorem qMD (i j:Nat) (v:V):∀ as,zJ j (qDF i v as)=if i=j then v else zJ j as
 | []=>by simp [qDF,zJ]
 | (k,x)::r=>by
  simp only [qDF]
  split
  ·rename_i h
   subst h
   simp only [zJ]
   by_cases h2:k=j <;> simp [h2]
  rename_i h
  simp only [zJ,qMD i j v r]
  by_cases h2:k=j
  ·subst h2; simp [Ne.symm h]
  simp [h2]
@[simp] theorem zIE (n:Nat) (as:List (Nat × V)) (i:Nat) (v:V):(zR n as).set i v=zR n (qDF i v as):=by
 apply List.ext_getElem?
 intro k
 rw [List.getElem?_set,vX,vX,qPP,qMD]
 by_cases h:i=k
 ·subst h; simp
 simp [h]
theorem qMC {f:V→V} (hf:f .dead = .dead) (i:Nat):∀ as,zJ i (qOE f as)=f (zJ i as)
 | []=>by simp [qOE,zJ,hf]
 | (k,x)::r=>by
  simp only [qOE,zJ,qMC hf i r]
  split <;> rfl
theorem qHX {f:V→V} (hf:f .dead = .dead) (n:Nat) (as:List (Nat × V)):(zR n as).map f=zR n (qOE f as):=by
 simp only [zR,List.map_map]
 exact List.map_congr_left fun i _=>(qMC hf i as).symm
def qVY (id:Nat) (x:V):V:=match V.noRef id x with
 | true=>x
 | false => .dead
theorem qMG (id:Nat):∀ l,qAJ id l=l.map (qVY id)
 | []=>rfl
 | x::xs=>by
  simp only [qAJ,List.map_cons,qMG id xs]
  congr 1
@[simp] theorem zHI (id n:Nat) (as:List (Nat × V)):qAJ id (zR n as)=zR n (qOE (qVY id) as):=by
 rw [qMG,qHX (by simp [qVY,V.noRef])]
@[simp] theorem zIG (id:Nat) (d:PD) (n:Nat) (as:List (Nat × V)):V.frzL id d (zR n as)=zR n (qOE (V.frz id d) as):=by
 rw [V.frzL_eq,qHX (by simp only [V.frz])]
@[simp] theorem zIF (i j n:Nat) (as:List (Nat × V)):V.renL i j (zR n as)=zR n (qOE (V.ren i j) as):=by
 rw [V.renL_eq,qHX (by simp only [V.ren])]
theorem qGR {id:Nat} (i:Nat):∀ {as:List (Nat × V)},qFP id as=true→V.noRef id (zJ i as)=true
 | [],_=>by simp [zJ,V.noRef]
 | (k,x)::r,h=>by
  simp only [qFP,Bool.and_eq_true] at h
  simp only [zJ]
  split
  ·exact h.1
  exact qGR i h.2
@[simp] theorem qHW {id n:Nat} {as:List (Nat × V)} (h:qFP id as=true):V.noRefL id (zR n as)=true:=by
 have key:∀ (as:List V),(∀ x∈as,V.noRef id x=true)→V.noRefL id as=true:=by
  intro as
  induction as with
  | nil=>intro _; simp only [V.noRefL]
  | cons a as ih =>
   intro h
   simp only [V.noRefL,Bool.and_eq_true]
   exact ⟨h a (by simp),ih fun x hx=>h x (by simp [hx])⟩
 refine key _ fun x hx => ?_
 obtain ⟨i,_,rfl⟩:=List.mem_map.1 hx
 exact qGR i h
@[simp] theorem qYV {id n:Nat}:V.noRefL id (zR n [])=true:=qHW rfl
theorem qCY (ks:List Nat) (i:Nat):∀ as,zJ i (qJP ks as)=if ks.contains i then zJ i as else .dead
 | []=>by simp [qJP,zJ]
 | (k,x)::r=>by
  simp only [qJP]
  split
  ·rename_i h
   simp only [zJ,qCY ks i r]
   by_cases h2:k=i
   ·subst h2; rw [if_pos rfl,if_pos rfl,if_pos h]
   rw [if_neg h2,if_neg h2]
  rename_i h
  rw [qCY ks i r]
  simp only [zJ]
  by_cases h2:k=i
  ·subst h2; rw [if_neg h,if_neg h]
  rw [if_neg h2]
@[simp] theorem zHH (n:Nat) (as:List (Nat × V)) (ks:List Nat):wS (zR n as) ks=zR n (qJP ks as):=by
 apply List.ext_getElem?
 intro i
 rw [qLZ,vX,qPP,qCY,qFF]
 by_cases h:i<n <;> simp [h]
theorem qPF:∀ {as bs:List V},as.length=bs.length→(∀ t,VLe (as.getD t .dead) (bs.getD t .dead))→yF as bs
 | [],[],_,_=>trivial
 | [],_::_,h,_=>by simp at h
 | _::_,[],h,_=>by simp at h
 | a::as,b::bs,h,h'=>⟨by simpa using h' 0,qPF (by simpa using h) fun t=>by have:=h' (t+1); simpa using this⟩
theorem qRM {as:List (Nat × V)} (i:Nat):∀ {bs:List (Nat × V)},leA as bs→VLe (zJ i as) (zJ i bs)
 | [],_=>by simp only [zJ]; exact .dead _
 | (k,x)::r,h=>by
  simp only [zJ]
  split
  ·rename_i e; subst e; exact h.1
  exact qRM i h.2
theorem qJ {n:Nat} {as bs:List (Nat × V)} (h:leA as bs):yF (zR n as) (zR n bs):=by
 refine qPF (by simp) fun t => ?_
 rw [qFF,qFF]
 split
 ·exact qRM t h
 exact VLe.refl _
def St.keep (ks:List Nat) (st:St):St:=⟨wS st.tmps ks,st.pins,zAP ((ks.flatMap fun t=>V.ids (st.tmps.getD t .dead))++st.pins) st.H,st.base⟩
theorem zDR (l:List V) (ks:List Nat):yF l (wS l ks):=by
 refine qPF (by rw [uE]) fun t => ?_
 rw [uU]
 split
 ·exact VLe.refl _
 exact VLe.dead _
theorem Rel.keep {c:Ctx} {M:qV} {μ:Mu} {st:St} {tmps:Array Value} {w:World} (r:Rel c M μ st tmps w) (ks:List Nat):Rel c M μ (st.keep ks) tmps w :=
 r.weaken ⟨zDR _ _,rfl,fun _ hp=>qEF hp,(List.Sublist.map _ (yL _ _)).nodup r.nodup⟩
def qRN (ks:List Nat):Option (Prop × St)→Option (Prop × St)
 | some (v,st)=>some (v,st.keep ks)
 | none=>none
section
variable {P:Program} {T:Tab} {G:qO} {Q:Exit→St→Prop} {st st1 st2 st':St}
theorem AW.keep {c:Code} (ks:List Nat) (k:AW P G c Q (st.keep ks)):AW P G c Q st:=fun x M μ tmps w hg r=>k x M μ tmps w hg (r.keep ks)
theorem qU.keep {ops:Array Oper} {l:List Oper} (ks:List Nat) (k:qU P G ops Q l (st.keep ks)):qU P G ops Q l st:=fun x M μ tmps w hg r=>k x M μ tmps w hg (r.keep ks)
theorem qTX {ks:List Nat} {o:Option (Prop × St)} {v:Prop} (h:qRN ks o=some (v,st')):∃ s,o=some (v,s)∧st'=s.keep ks:=by
 unfold qRN at h
 split at h
 ·rename_i v0 s
  simp only [Option.some.injEq,Prod.mk.injEq] at h
  obtain ⟨rfl,rfl⟩:=h
  exact ⟨s,rfl,rfl⟩
 cases h
def qFK (C:Know) (T:Tab) (G:qO) (f:St→St) (o:Oper) (st:St) (orc:List PD):Option (Prop × St × List PD) :=
 match vI G st o.op with
 | none=>none
 | some st=>match vG C T G st o.op orc with
  | some (v,x,orc')=>some (v,f (st.put o.dst x),orc')
  | none=>match qGW C T G st o orc with
   | some (v,x,st',orc')=>some (v,f (st'.put o.dst x),orc')
   | none=>none
def qFJ (C:Know) (T:Tab) (G:qO) (f:St→St) (o:Oper) (d:Nat) (pol:Bool) (st:St) (orc:List PD):Option (Prop × St × List PD) :=
 match vI G st o.op with
 | none=>none
 | some st=>match V.guards pol (st.tmps.getD d .dead) with
  | none=>none
  | some b=>match vG C T G st o.op orc with
   | some (v,x,orc')=>some (d<st.tmps.length∧(b=true→v),f (st.put o.dst (.when b x)),orc')
   | none=>match b with
    | true=>match qGW C T G st o orc with
     | some (v,x,st',orc')=>some (d<st.tmps.length∧v,f (st'.put o.dst (.when true x)),orc')
     | none=>none
    | false=>some (d<st.tmps.length,f (st.put o.dst (.when false (.p (.bool false)))),orc)
theorem qU.oneF (hT : TOK P T) {f : St → St} {ops : Array Oper} {o : Oper} {rest : List Oper} {v : Know → Prop} {orc orc' : List PD} (hf : ∀ {l s}, qU P G ops Q l (f s) → qU P G ops Q l s) (h : ∀ C, qFK C T G f o st orc = some (v C, st', orc')) (hv : v (kn P G)) (hgd : o.guard = none)
  (k:qU P G ops Q rest st'):qU P G ops Q (o::rest) st:=by
 have h:=h (kn P G)
 unfold qFK at h
 split at h
 ·cases h
 rename_i st0 hpre
 refine qU.pre hpre ?_
 split at h
 ·rename_i hs
  simp only [Option.some.injEq,Prod.mk.injEq] at h
  obtain ⟨rfl,rfl,rfl⟩:=h
  exact qU.step hgd (kP hT hs hv) (hf k)
 split at h
 ·rename_i hs
  simp only [Option.some.injEq,Prod.mk.injEq] at h
  obtain ⟨rfl,rfl,rfl⟩:=h
  exact qU.step hgd (kF hT hs hv) (hf k)
 cases h
theorem qU.oneIfF (hT : TOK P T) {f : St → St} (d : Nat) {ops : Array Oper} {o : Oper} {rest : List Oper} {j : Nat} {pol : Bool} {v : Know → Prop} {orc orc' : List PD} (hf : ∀ {l s}, qU P G ops Q l (f s) → qU P G ops Q l s) (h : ∀ C, qFJ C T G f o d pol st orc = some (v C, st', orc')) (hv : v (kn P G))
  (hgd:o.guard=some (j,pol)) (hd:(ops[j]?).bind (·.dst)=some d) (k:qU P G ops Q rest st'):qU P G ops Q (o::rest) st:=by
 have h:=h (kn P G)
 unfold qFJ at h
 split at h
 ·cases h
 rename_i st0 hpre
 refine qU.pre hpre ?_
 split at h
 ·cases h
 rename_i b hb
 split at h
 ·rename_i hs
  simp only [Option.some.injEq,Prod.mk.injEq] at h
  obtain ⟨h1,rfl,rfl⟩:=h
  have hv':=h1.symm ▸ hv
  exact qU.stepIf hgd hd hv'.1 hb (fun hbt=>kP hT hs (hv'.2 hbt)) (hf k)
 split at h
 ·split at h
  ·rename_i hs
   simp only [Option.some.injEq,Prod.mk.injEq] at h
   obtain ⟨h1,rfl,rfl⟩:=h
   have hv':=h1.symm ▸ hv
   exact qU.stepIfT hgd hd hv'.1 hb (kF hT hs hv'.2) (hf k)
  cases h
 simp only [Option.some.injEq,Prod.mk.injEq] at h
 obtain ⟨h1,rfl,rfl⟩:=h
 have hv':=h1.symm ▸ hv
 exact qU.stepIfF hgd hd hv' hb (hf k)
def qVK (C:Know) (T:Tab) (G:qO) (ks:List Nat) (o:Oper) (st:St) (orc:List PD):Option (Prop × St × List PD):=qFK C T G (St.keep ks) o st orc
def qVJ (C:Know) (T:Tab) (G:qO) (ks:List Nat) (o:Oper) (d:Nat) (pol:Bool) (st:St) (orc:List PD):Option (Prop × St × List PD):=qFJ C T G (St.keep ks) o d pol st orc
def keepIf (ks:List Nat) (st:St):St:=match ks with
 | []=>st
 | _::_=>st.keep ks
theorem qU.keepIf {ops:Array Oper} {l:List Oper} (ks:List Nat) (k:qU P G ops Q l (keepIf ks st)):qU P G ops Q l st:=by
 cases ks with
 | nil=>exact k
 | cons a r=>exact qU.keep _ k
theorem qU.one (hT : TOK P T) (ks : List Nat) (orc : List PD) {ops : Array Oper} {o : Oper} {rest : List Oper} {v : Know → Prop} {orc' : List PD} (h : ∀ C, qVK C T G ks o st orc = some (v C, st', orc')) (hv : v (kn P G)) (hgd : o.guard = none)
  (k:qU P G ops Q rest st'):qU P G ops Q (o::rest) st:=qU.oneF hT (qU.keep ks) h hv hgd k
theorem qU.oneIf (hT : TOK P T) (ks : List Nat) (orc : List PD) (d : Nat) {ops : Array Oper} {o : Oper} {rest : List Oper} {j : Nat} {pol : Bool} {v : Know → Prop} {orc' : List PD} (h : ∀ C, qVJ C T G ks o d pol st orc = some (v C, st', orc')) (hv : v (kn P G))
  (hgd:o.guard=some (j,pol)) (hd:(ops[j]?).bind (·.dst)=some d) (k:qU P G ops Q rest st'):qU P G ops Q (o::rest) st:=qU.oneIfF hT d (qU.keep ks) h hv hgd hd k
theorem qU.stepK (ks:List Nat) {ops:Array Oper} {o:Oper} {rest:List Oper} {x:V} (hgd:o.guard=none) (h:qY P G o st x st1) (hk:(st1.put o.dst x).keep ks=st') (k:qU P G ops Q rest st'):qU P G ops Q (o::rest) st :=
 qU.step hgd h (qU.keep ks (hk ▸ k))
theorem qU.keepEnd {ops:Array Oper} (ks:List Nat) (k:Q .normal (st.keep ks)):qU P G ops Q [] st:=qU.keep ks (qU.nil k)
def qD (P:Program) (G:qO) (ops:Array Oper) (Q:Exit→St→Prop) (l:List Oper) (st:St) (_:List PD):Prop:=qU P G ops Q l st
theorem qD.nil {ops:Array Oper} {orc:List PD} (h:Q .normal st):qD P G ops Q [] st orc:=qU.nil h
theorem qD.one (hT : TOK P T) (ks : List Nat) {orc : List PD} {ops : Array Oper} {o : Oper} {rest : List Oper} {v : Know → Prop} {orc' : List PD} (h : ∀ C, qVK C T G ks o st orc = some (v C, st', orc')) (hv : v (kn P G)) (hgd : o.guard = none)
  (k:qD P G ops Q rest st' orc'):qD P G ops Q (o::rest) st orc:=qU.one hT ks orc h hv hgd k
theorem qD.oneIf (hT : TOK P T) (ks : List Nat) {orc : List PD} (d : Nat) {ops : Array Oper} {o : Oper} {rest : List Oper} {j : Nat} {pol : Bool} {v : Know → Prop} {orc' : List PD} (h : ∀ C, qVJ C T G ks o d pol st orc = some (v C, st', orc')) (hv : v (kn P G))
  (hgd:o.guard=some (j,pol)) (hd:(ops[j]?).bind (·.dst)=some d) (k:qD P G ops Q rest st' orc'):qD P G ops Q (o::rest) st orc:=qU.oneIf hT ks orc d h hv hgd hd k
theorem s1 (hT : TOK P T) (ks : List Nat) {orc : List PD} {ops : Array Oper} {o : Oper} {rest : List Oper} {v : Know → Prop} {orc' : List PD} (k : qD P G ops Q rest st' orc')
  (h:∀ C,qVK C T G ks o st orc=some (v C,st',orc'):=by intro C; conv=>lhs; simp) (hv:v (kn P G):=by first | with_reducible exact True.intro | omega | simp | (simp +contextual; omega)) (hgd:o.guard=none:=by rfl):qD P G ops Q (o::rest) st orc:=qU.one hT ks orc h hv hgd k
theorem s2 (hT : TOK P T) (ks : List Nat) (d : Nat) {orc : List PD} {ops : Array Oper} {o : Oper} {rest : List Oper} {j : Nat} {pol : Bool} {v : Know → Prop} {orc' : List PD} (hgd : o.guard = some (j, pol)) (hd : (ops[j]?).bind (·.dst) = some d) (k : qD P G ops Q rest st' orc')
  (h:∀ C,qVJ C T G ks o d pol st orc=some (v C,st',orc'):=by intro C; conv=>lhs; simp) (hv:v (kn P G):=by first | with_reducible exact True.intro | omega | simp | (simp +contextual; omega)):qD P G ops Q (o::rest) st orc:=qU.oneIf hT ks orc d h hv hgd hd k
def uN (P:Program) (G:qO) (ops:Array Oper) (Q:Exit→St→Prop) (l:List Oper) (st:St) (_:List PD) (_:List (List Nat)):Prop:=qU P G ops Q l st
theorem qD.run (kss:List (List Nat)) {orc:List PD} {ops:Array Oper} {l:List Oper} (h:uN P G ops Q l st orc kss):qD P G ops Q l st orc:=h
theorem qP {kss:List (List Nat)} {orc:List PD} {ops:Array Oper} {l:List Oper} (h:qD P G ops Q l st orc):uN P G ops Q l st orc kss:=h
theorem qA {kss:List (List Nat)} {ops:Array Oper} {orc:List PD} (h:Q .normal st):uN P G ops Q [] st orc kss:=qU.nil h
theorem rgz (orc:List PD) (kss:List (List Nat)) {id:Nat} {l:List Oper} (h:uN P G l.toArray Q l st orc kss):AW P G (.region id l.toArray false) Q st:=AW.region h
theorem rgn (orc:List PD) (kss:List (List Nat)) {id:Nat} {l:List Oper} {b:Code} (h:uN P G l.toArray (andThen (AW P G b Q) Q) l st orc kss):AW P G (.seq (.region id l.toArray false) b) Q st:=AW.seq (AW.region h)
theorem op1 (hT : TOK P T) {ks : List Nat} {kss : List (List Nat)} {orc : List PD} {ops : Array Oper} {o : Oper} {rest : List Oper} {v : Know → Prop} {orc' : List PD} (k : uN P G ops Q rest st' orc' kss) (hgd : o.guard = none := by rfl)
  (h:∀ C,qFK C T G (keepIf ks) o st orc=some (v C,st',orc'):=by intro C; conv=>lhs; simp) (hv:v (kn P G):=by first | with_reducible exact True.intro | omega | simp | (simp +contextual; omega)) :
  uN P G ops Q (o::rest) st orc (ks::kss):=qU.oneF hT (qU.keepIf ks) h hv hgd k
theorem op2 (hT : TOK P T) {ks : List Nat} {kss : List (List Nat)} {d : Nat} {orc : List PD} {ops : Array Oper} {o : Oper} {rest : List Oper} {j : Nat} {pol : Bool} {v : Know → Prop} {orc' : List PD} (k : uN P G ops Q rest st' orc' kss) (hgd : o.guard = some (j, pol) := by rfl) (hd : (ops[j]?).bind (·.dst) = some d := by rfl)
  (h:∀ C,qFJ C T G (keepIf ks) o d pol st orc=some (v C,st',orc'):=by intro C; conv=>lhs; simp) (hv:v (kn P G):=by first | with_reducible exact True.intro | omega | simp | (simp +contextual; omega)):uN P G ops Q (o::rest) st orc (ks::kss):=qU.oneIfF hT d (qU.keepIf ks) h hv hgd hd k
theorem ai {a b:Prop} (x:a) (y:b):a∧b:=⟨x,y⟩
theorem oq1 (hT : TOK P T) {ks : List Nat} {kss : List (List Nat)} {orc : List PD} {ops : Array Oper} {o : Oper} {rest : List Oper} {v : Know → Prop} {orc' : List PD} {A : Prop} (hA : A) (k : uN P G ops Q rest st' orc' kss) (hgd : o.guard = none := by rfl)
    (h:∀ C,qFK C T G (keepIf ks) o st orc=some (v C,st',orc'):=by intro C; conv=>lhs; simp) (hv:A→v (kn P G):=by intro hA; first | with_reducible exact True.intro | exact hA | exact hA.1 | exact hA.2 | exact hA.2.1 | exact hA.2.2 | (simpa using hA; done) | omega | simp | (simp +contextual; omega)) :
    uN P G ops Q (o::rest) st orc (ks::kss):=qU.oneF hT (qU.keepIf ks) h (hv hA) hgd k
theorem oq2 (hT : TOK P T) {ks : List Nat} {kss : List (List Nat)} {d : Nat} {orc : List PD} {ops : Array Oper} {o : Oper} {rest : List Oper} {j : Nat} {pol : Bool} {v : Know → Prop} {orc' : List PD} {A : Prop} (hA : A) (k : uN P G ops Q rest st' orc' kss) (hgd : o.guard = some (j, pol) := by rfl) (hd : (ops[j]?).bind (·.dst) = some d := by rfl)
    (h:∀ C,qFJ C T G (keepIf ks) o d pol st orc=some (v C,st',orc'):=by intro C; conv=>lhs; simp) (hv:A→v (kn P G):=by intro hA; first | with_reducible exact True.intro | exact hA | exact hA.1 | exact hA.2 | exact hA.2.1 | exact hA.2.2 | (simpa using hA; done) | omega | simp | (simp +contextual; omega)):uN P G ops Q (o::rest) st orc (ks::kss):=qU.oneIfF hT d (qU.keepIf ks) h (hv hA) hgd hd k
theorem cnd {c:Operand} {x y:Code} {p:Prop} {b:Bool} (h1:b=true→AW P G x Q st) (h2:b=false→AW P G y Q st) (hc:st.arg G c=(p,.p (.bool b)):=by conv=>lhs; simp) (hp:p:=by exact trivial):AW P G (.cond c x y) Q st:=AW.cond hc hp h1 h2
theorem qD.stepK (ks:List Nat) {orc:List PD} {ops:Array Oper} {o:Oper} {rest:List Oper} {x:V} (h:qY P G o st x st1) (hk:(st1.put o.dst x).keep ks=st') (hgd:o.guard=none) (k:qD P G ops Q rest st' orc):qD P G ops Q (o::rest) st orc :=
 qU.stepK ks hgd h hk k
theorem AW.regionO (orc:List PD) {id:Nat} {l:List Oper} (h:qD P G l.toArray Q l st orc):AW P G (.region id l.toArray false) Q st:=AW.region h
theorem AW.seqRegionO (orc:List PD) {id:Nat} {l:List Oper} {b:Code} (h:qD P G l.toArray (andThen (AW P G b Q) Q) l st orc):AW P G (.seq (.region id l.toArray false) b) Q st:=AW.seq (AW.region h)
theorem AW.runDrawK (hT : TOK P T) (hmix : P.follows .mixedOrders = true) (ks : List Nat) (m : Nat) (tss : List (List Nat)) (orc1 orc2 : List PD) {id : Nat} {l : List Oper} {sms : List Sm} {v1 v2 : Know → Prop} (hchk : zP l m tss = true)
  (h1:∀ C,wA C T G l st (l.take m) tss st orc1=some (v1 C,sms,st1)) (hv1:v1 (kn P G)) (hconf:xG l m (sms.map Sm.sum)=true) (h2:∀ C,qRN ks (yM C T G l (l.drop m) st1 orc2)=some (v2 C,st')) (hv2:v2 (kn P G)) (k:Q .normal st') :
  AW P G (.region id l.toArray true) Q st:=by
 obtain ⟨s,hs,rfl⟩:=qTX (h2 (kn P G))
 have hlate:=zV (Q:=Q) hT l (l.drop m) [] _ orc2 _ s hs hv2 (qU.keepEnd ks k)
 rw [List.append_nil] at hlate
 exact AW.runDraw0 hT hmix m tss orc1 hchk (h1 (kn P G)) hv1 hconf hlate
theorem AW.seqRunDrawK (hT : TOK P T) (hmix : P.follows .mixedOrders = true) (ks : List Nat) (m : Nat) (tss : List (List Nat)) (orc1 orc2 : List PD) {id : Nat} {l : List Oper} {b : Code} {sms : List Sm} {v1 v2 : Know → Prop} (hchk : zP l m tss = true)
  (h1:∀ C,wA C T G l st (l.take m) tss st orc1=some (v1 C,sms,st1)) (hv1:v1 (kn P G)) (hconf:xG l m (sms.map Sm.sum)=true) (h2:∀ C,qRN ks (yM C T G l (l.drop m) st1 orc2)=some (v2 C,st')) (hv2:v2 (kn P G)) (k:AW P G b Q st') :
  AW P G (.seq (.region id l.toArray true) b) Q st:=AW.seq (AW.runDrawK hT hmix ks m tss orc1 orc2 hchk h1 hv1 hconf h2 hv2 k)
def qR (i:Nat):List V→List (Nat × V)
 | []=>[]
 | x::xs=>(i,x)::qR (i+1) xs
theorem qJK:∀ (xs:List V) (i j:Nat),zJ j (qR i xs)=if i≤j then xs.getD (j-i) .dead else .dead
 | [],i,j=>by simp [qR,zJ]
 | x::xs,i,j=>by
  simp only [qR,zJ,qJK xs]
  by_cases h:i=j
  ·subst h; simp
  rw [if_neg h]
  by_cases h2:i+1≤j
  ·rw [if_pos h2,if_pos (by omega),show j-i=(j-(i+1))+1 by omega]; simp
  rw [if_neg h2,if_neg (by omega)]
theorem qIJ (xs:List V) (n:Nat) (h:xs.length≤n):xs++List.replicate (n-xs.length) .dead=zR n (qR 0 xs):=by
 apply List.ext_getElem?
 intro i
 rw [vX,qJK,List.getElem?_append]
 simp only [Nat.zero_le,if_true,Nat.sub_zero]
 by_cases h1:i<xs.length
 ·rw [if_pos h1,if_pos (by omega)]; simp [h1]
 rw [if_neg h1]
 by_cases h2:i<n
 ·rw [if_pos h2]; simp [show i-xs.length<n-xs.length by omega,List.getD_eq_getElem?_getD,List.getElem?_eq_none (show xs.length≤i by omega)]
 rw [if_neg h2]; simp [show ¬ i-xs.length<n-xs.length by omega]
theorem AFn.introU (hT : TOK P T) {f : FuncId} {fn : Func} {c : Code} {args : List PD} {r : PD} (hf : P.funcs[f]? = some fn) (hn : (fn.name == "runtime.NumGoroutine") = false) (hb : fn.body = some c) (hl : args.length.ble fn.ntmps = true)
  (h:AW P G c (Fin T fn.results.toList r) ⟨zR fn.ntmps (qR 0 (args.map .p)),[],[],0⟩):AFn P G f args r:=by
 refine AFn.intro hT hf hn hb ?_
 have:=qIJ (args.map V.p) fn.ntmps (by simpa using Nat.le_of_ble_eq_true hl)
 simp only [List.length_map] at this
 rw [St.start,this]; exact h
theorem AX.introU (hT : TOK P T) {f : FuncId} {fn : Func} {c : Code} {xs : List V} {H : List (Nat × Box)} {r : V} {ps : List Nat} {H' : List (Nat × Box)} (base : Nat) (hf : P.funcs[f]? = some fn)
  (hn : (fn.name == "runtime.NumGoroutine") = false) (hb : fn.body = some c) (hl : xs.length.ble fn.ntmps = true) (h : AW P G c (zEX T fn.results.toList r ps H') ⟨zR fn.ntmps (qR 0 xs), H.map (·.1), H, base⟩) : AX P G f xs H r ps H' := by
 refine AX.intro hT base hf hn hb ?_
 rw [St.startX,qIJ xs fn.ntmps (Nat.le_of_ble_eq_true hl)]; exact h
theorem qUY {n i:Nat} {as:List (Nat × V)} {x:V} (h:zJ i as=x) (hi:i<n):(zR n as)[i]?=some x:=by rw [vX,if_pos hi,h]
theorem AW.strFactU {c:Code} {n i b:Nat} {s:List UInt8} {as:List (Nat × V)} {p:List Nat} {H:List (Nat × Box)} (h:zJ i as = .p (.str s)) (hi:i<n) (k:s.length≤9223372036854775807→AW P G c Q ⟨zR n as,p,H,b⟩):AW P G c Q ⟨zR n as,p,H,b⟩ :=
 AW.strFact (i:=i) (qUY h hi) k
theorem AW.intFactU {c:Code} {n i b:Nat} {kd:IntKind} {z:Int} {as:List (Nat × V)} {p:List Nat} {H:List (Nat × Box)} (h:zJ i as = .p (.int kd z)) (hi:i<n) (k:yQ kd≤z∧z≤yR kd→AW P G c Q ⟨zR n as,p,H,b⟩):AW P G c Q ⟨zR n as,p,H,b⟩ :=
 AW.intFact (i:=i) (qUY h hi) k
attribute [simp] qVK qVJ qFK qFJ keepIf zJ qDF qOE qJP qFP leA qVY St.keep qRN qR
end
theorem qZ {T:Tab} {rs:List ResultVar} {r:PD} {st:St} {l:List V} (h:qFM T st rs=some (True,l):=by (conv=>lhs; simp)) (k:V.fits st.H (qNJ l) r:=by simp):Fin T rs r .ret st:=⟨.inr rfl,_,_,h,trivial,k⟩
theorem zI {T : Tab} {rs : List ResultVar} {r : V} {ps : List Nat} {H' : List (Nat × Box)} {st : St} {l : List V} (h : qFM T st rs = some (True, l) := by (conv => lhs; simp)) (k : VLe (qNJ l) r := by simp) (a : ∀ i ∈ ps, i ∈ st.pins := by simp) (b : ∀ x ∈ H', x ∈ st.H := by simp)
  (c:(H'.map (·.1)).Nodup:=by simp):zEX T rs r ps H' .ret st:=⟨.inr rfl,_,_,h,trivial,k,a,b,c⟩
theorem qJU {T : Tab} {rs : List ResultVar} {r : V} {ps : List Nat} {H' : List (Nat × Box)} {st : St} {l : List V} (h : qFM T st rs = some (True, l) := by (conv => lhs; simp)) (k : VLe (qNJ l) r := by simp) (a : ∀ i ∈ ps, i ∈ st.pins := by simp) (b : ∀ x ∈ H', x ∈ st.H := by simp)
  (c:(H'.map (·.1)).Nodup:=by simp):zEX T rs r ps H' .normal st:=⟨.inl rfl,_,_,h,trivial,k,a,b,c⟩
section
variable {P:Program} {T:Tab} {G:qO} {Q:Exit→St→Prop} {st st':St}
theorem qD.freeze {ops:Array Oper} {l:List Oper} {orc:List PD} (i:Nat) (h:st.freeze i=st') (k:qD P G ops Q l st' orc):qD P G ops Q l st orc:=fun x M μ tmps w hg r=>by
 subst h
 obtain ⟨M',r'⟩:=r.freeze i
 exact k x M' μ tmps w hg r'
theorem qD.take {ops:Array Oper} {l:List Oper} {orc:List PD} (i j:Nat) (h:(st.kill j).ren i j=st') (k:qD P G ops Q l st' orc):qD P G ops Q l st orc :=
 fun x M _ tmps w hg r=>(h ▸ k) x M _ tmps w hg ((r.kill j).ren (qDH st j))
def jI:List (Option Nat)→List V→List V
 | some sz::l,.nilsl::xs => .p (.sl sz [])::jI l xs
 | _::l,x::xs=>x::jI l xs
 | [],xs=>xs
 | _,[]=>[]
theorem qFY:∀ (l:List (Option Nat)) (xs:List V),(jI l xs).length=xs.length
 | [],xs=>by simp [jI]
 | none::l,[]=>by simp [jI]
 | some sz::l,[]=>by simp [jI]
 | none::l,x::xs=>by simp [jI,qFY l xs]
 | some sz::l,x::xs=>by cases x <;> simp [jI,qFY l xs]
theorem qXM {M:qV} {μ:Mu} {u:Value} (sz:Nat) (h:RV M μ u .nilsl):RV M μ u (.p (.sl sz [])):=by
 cases h
 exact .p (.sl 0 0 rfl (Nat.le_refl _) (by simp [maxLen]) (fun h=>(h rfl).elim) (fun i e h=>by simp at h) (fun i e j h=>by simp at h) (fun i e j d u h=>by simp at h))
theorem qFZ {M:qV} {μ:Mu}:∀ (l:List (Option Nat)) (xs:List V) (i:Nat) (y:V),(jI l xs)[i]?=some y→∃ x,xs[i]?=some x∧∀ u,RV M μ u x→RV M μ u y
 | [],xs,i,y,h=>⟨y,by simpa [jI] using h,fun _ h=>h⟩
 | none::l,[],i,y,h=>by simp [jI] at h
 | some sz::l,[],i,y,h=>by simp [jI] at h
 | none::l,x::xs,i,y,h=>by
  cases i with
  | zero=>simp [jI] at h; subst h; exact ⟨x,by simp,fun _ h=>h⟩
  | succ i=>simp [jI] at h; obtain ⟨x',h1,h2⟩:=qFZ (M:=M) (μ:=μ) l xs i y h; exact ⟨x',by simpa using h1,h2⟩
 | some sz::l,x::xs,i,y,h=>by
  cases i with
  | zero =>
   refine ⟨x,by simp, ?_⟩
   cases x <;> simp [jI] at h <;> subst h <;> first | exact fun _ h=>qXM sz h | exact fun _ h=>h
  | succ i =>
   have h':(jI l xs)[i]?=some y:=by cases x <;> simpa [jI] using h
   obtain ⟨x',h1,h2⟩:=qFZ (M:=M) (μ:=μ) l xs i y h'
   exact ⟨x',by simpa using h1,h2⟩
def St.fill (st:St) (id:Nat) (l:List (Option Nat)):St :=
 match zO id st.H with
 | some (.vars e cs)=>{ st with H:=zQ id (.vars e (jI l cs)) st.H }
 | _=>st
theorem Rel.fill {c:Ctx} {M:qV} {μ:Mu} {tmps:Array Value} {w:World} (r:Rel c M μ st tmps w) (id:Nat) (l:List (Option Nat)):Rel c M μ (st.fill id l) tmps w:=by
 unfold St.fill
 split
 ·rename_i e cs hb
  have hm:=zH hb
  have hk:qM id st.H=true:=qG.2 ⟨_,hm⟩
  have hbx:=r.box id _ hm
  cases hbx with
  | @vars _ _ b arr h0 h1 h2 h3 h4 =>
   refine r.write hk h0 ⟨rfl,rfl,rfl,rfl,fun _ _=>rfl⟩ (.vars h0 h1 (by rw [qFY]; exact h2) h3 fun i u y hu hy => ?_)
   obtain ⟨x,hx,hxy⟩:=qFZ (M:=M) (μ:=μ) l cs i y hy
   exact hxy u (h4 i u x hu hx)
 exact r
theorem qD.fill {ops:Array Oper} {l:List Oper} {orc:List PD} (id:Nat) (ns:List (Option Nat)) (h:st.fill id ns=st') (k:qD P G ops Q l st' orc):qD P G ops Q l st orc :=
 fun x M μ tmps w hg r=>(h ▸ k) x M μ tmps w hg (r.fill id ns)
attribute [simp] St.fill jI
end
section
variable {P:Program} {T:Tab} {G:qO} {Q:Exit→St→Prop} {st st':St}
theorem AW.beginE {c : Code} (d id : Nat) (e : TypeId) (sz : Nat) (hd : st.tmps[d]? = some .nilsl) (hf : st.fresh id = true) (h : ({ st with tmps := st.tmps.set d (.ms id), H := (id, .row e sz []) :: st.H } : St) = st')
  (k:AW P G c Q st'):AW P G c Q st:=AW.begin (d:=d) (id:=id) e sz hd hf (h ▸ k)
theorem AW.renE {c:Code} (i j:Nat) (hf:st.fresh j=true) (h:st.ren i j=st') (k:AW P G c Q st'):AW P G c Q st:=AW.ren i j hf (h ▸ k)
theorem AW.freezeE {c:Code} (i:Nat) (h:st.freeze i=st') (k:AW P G c Q st'):AW P G c Q st:=fun x M μ tmps w hg r=>by
 subst h
 obtain ⟨M',r'⟩:=r.freeze i
 exact k x M' μ tmps w hg r'
end
section
variable {P:Program} {T:Tab} {G:qO} {Q:Exit→St→Prop} {st st':St}
theorem Rel.plain {M : qV} {w : World} {args : List PD} {vs : Array Value} (μ : Mu) (hmem : ∀ b o v, M b o = some v → w.cell? ⟨b, o, none⟩ = some v) (hsz : vs.size = args.length) (hrd : ∀ (i : Nat) u d, vs[i]? = some u → args[i]? = some d → Rd M u d) :
  Rel ⟨w.heap.size,w,M,μ,wH μ []⟩ M μ ⟨args.map .p,[],[],0⟩ vs w:=by
 refine ⟨hmem,fun _ _ _ h=>h,fun _ _ _=>rfl,⟨by simpa using hsz,fun i u x hu hx => ?_⟩,(fun _ h=>by cases h),(fun _ _ h=>by cases h),List.nodup_nil,(fun _ _ _ h=>by simp [qM] at h),(fun _ _ h=>by simp [qM] at h),Nat.le_refl _,Kept.refl _ _⟩
 rw [List.getElem?_map] at hx
 obtain ⟨d,hd,rfl⟩:=Option.map_eq_some_iff.1 hx
 exact .p (hrd i u d hu hd)
theorem AR.of_AX {f:FuncId} {args:List PD} {k e sz:Nat} {es:List PD} (h:AX P G f (args.map .p) [] (.ms k) [] [(k,.row e sz es)]):AR P G f args e sz es:=by
 refine ⟨h.1,fun M w vs hg hmem hsz hrd=>(h.2 M (fun _=>default) w vs hg (Rel.plain _ hmem hsz hrd)).mono ?_⟩
 rintro e' w' ⟨v,M',μ',rfl,r'⟩
 have hno:∀ b, ¬ wH (fun _=>(default:Loc)) [] b:=fun b ⟨i,hi,_⟩=>by simp [qM] at hi
 have hk:qM k [(k,Box.row e sz es)]=true:=by simp [qM]
 have hv:=r'.slots.2 0 v (.ms k) (by simp) (by simp)
 cases hv with
 | ms hval hone =>
 have hbx:=r'.box k (.row e sz es) (List.mem_singleton.2 rfl)
 refine ⟨v,M',rfl,r'.mem,r'.ext,fun b o hb=>r'.old b o fun hm=>hm.elim (fun h=>by simp at h; omega) (hno b),⟨r'.below.os,r'.below.tape,r'.below.output,r'.below.size,fun j hj=>r'.below.block j fun hm=>hm.elim (fun h=>by simp at h; omega) (hno j)⟩,
  μ' k,hval.symm,hone, ?_,fun b hb => ?_⟩
 ·cases hbx with
  | row h0 hv h1 h2 h3 h4 h5 h6 h7=>exact .row h0 hv h1 h2 h3 h4 h5 h6 h7
  | rowN h0 hv=>exact .rowN h0 hv
 obtain ⟨h1,h2,h3⟩:=r'.own k b hk hb
 exact ⟨h1.elim (fun h=>h) fun h=>(hno b h).elim,h2,h3⟩
theorem qOQ (k:Nat) {t e:TypeId} (hd:P.underlying t=some (.slice e)) (a:Option Addr) (n c:Nat) (w:World):(Op.equalIn (k+1) t (.slice a n c) (.slice none 0 0)).run P w = .ok a.isNone w:=by
 cases a <;> simp [Op.equalIn,run_underlying hd]
theorem qD.nilEq {ops : Array Oper} {o : Oper} {rest : List Oper} {orc : List PD} (hT : TOK P T) (ks : List Nat) {t ty e sz : Nat} {x : Operand} {p : Prop} {es : List PD} (ho : o.op = .binOp .eql t x (.const (.slice none 0 0)) ty) (ht : zT T t = some (.sl e))
  (ha:st.arg G x=(p,.p (.sl sz es))) (hp:p) (hgd:o.guard=none) (k:∀ b:Bool,(es≠[]→b=false)→qD P G ops Q rest ((st.put o.dst (.p (.bool b))).keep ks) orc):qD P G ops Q (o::rest) st orc:=by
 intro c M μ tmps w hg r
 have h1:=(qE hg r ha hp).p_inv
 have hd:=hT.sl ht
 generalize hu:Act.eval ⟨tmps,[]⟩ x=u at h1
 cases h1 with
 | @sl a n cc _ _ b o' hn hnc hcm hab h5 h6 h7 =>
 have he:(Op.equal t (.slice a n cc) (.slice none 0 0)).run P w = .ok a.isNone w:=by
  exact qOQ 9999 hd a n cc w
 have e1:(execOp (Act.eval ⟨tmps,[]⟩) o).run P w = .ok (.value (.bool a.isNone)) w:=by
  have hg:(eqGuard .eql t x (.const (.slice none 0 0)) (.slice a n cc) (.slice none 0 0)).run P w = .ok () w:=by simp only [eqGuard]; rfl
  have hb2:(binOp .eql t (.slice a n cc) (.slice none 0 0)).run P w = .ok (.bool a.isNone) w:=by
   show (do pure (.bool (← Op.equal t (.slice a n cc) (.slice none 0 0))):Sem Value).run P w=_
   simp only [Sem.run_bind,he,Result.andThen]; rfl
  simp [execOp,ho,hu,hg,hb2,show Act.eval ⟨tmps,[]⟩ (.const (.slice none 0 0)) = .slice none 0 0 from rfl]
 have hb:es≠[]→a.isNone=false:=fun he=>by
  have:n≠0:=by rw [hn]; exact fun h=>he (List.eq_nil_of_length_eq_zero h)
  rw [hab this]; rfl
 refine wpList_plain hgd fun K hK=>kT (next:=fun v w'=>v = .bool a.isNone∧w'=w) (by rw [e1]; exact ⟨rfl,rfl⟩) ?_
 rintro u w' ⟨rfl,rfl⟩
 apply hK
 rw [Act.put_tmps]
 exact qU.keep ks (k _ hb) c M μ _ w' hg (r.put (.p (.bool _)) o.dst)
theorem qD.same {ops:Array Oper} {l:List Oper} {orc:List PD} (h:st=st') (k:qD P G ops Q l st' orc):qD P G ops Q l st orc:=h ▸ k
end
abbrev zEU:=List Nat × List Nat × List Nat × List Nat
def ndB:List (Nat × Box)→Bool
 | []=>true
 | (i,_)::r => !qM i r && ndB r
theorem yC:∀ {H:List (Nat × Box)},ndB H=true→(H.map (·.1)).Nodup
 | [],_=>List.nodup_nil
 | (i,b)::r,h=>by
  simp only [ndB,Bool.and_eq_true,Bool.not_eq_true'] at h
  simp only [List.map_cons,List.nodup_cons]
  exact ⟨fun hm=>by rw [zE.2 hm] at h; exact absurd h.1 (by simp),yC h.2⟩
section
variable {P:Program} {T:Tab} {G:qO} {Q:Exit→St→Prop} {st st' st0:St} {ops rest:List Oper} {tss:List (List Nat)} {ts:List Nat} {orc orc':List PD} {acc:qBM} {o:Oper} {sm:zEU} {v:Know→Prop}
def DGo (P:Program) (T:Tab) (G:qO) (ops:List Oper) (st0:St) (l:List Oper) (tss:List (List Nat)) (st:St) (orc:List PD) (acc:qBM) (K:qBM→St→Prop):Prop :=
 ∃ v sms st1,wA (kn P G) T G ops st0 l tss st orc=some (v,sms,st1)∧v∧K (acc++sms.map Sm.sum) st1
variable {K:qBM→St→Prop}
theorem DGo.nil (hn:ndB st.H=true) (k:K acc st):DGo P T G ops st0 [] tss st orc acc K:=⟨_,_,_,rfl,yC hn,by simpa using k⟩
def qGX (C:Know) (T:Tab) (G:qO) (st0:St) (ts:List Nat) (o:Oper) (st:St) (orc:List PD):Option (Prop × St × zEU × List PD) :=
 match uY C T G st0 (st.small ts) o orc with
 | some (v,s,orc')=>some (v,st.after o.dst s,s.sum,orc')
 | none=>none
theorem DGo.one (h : ∀ C, qGX C T G st0 ts o st orc = some (v C, st', sm, orc')) (hv : v (kn P G)) (hgd : o.guard = none) (hn : ndB st.H = true) (k : DGo P T G ops st0 rest tss st' orc' (acc ++ [sm]) K) :
  DGo P T G ops st0 (o::rest) (ts::tss) st orc acc K:=by
 have h1:=h (kn P G)
 unfold qGX at h1
 split at h1
 ·rename_i v1 s orc1 h2
  simp only [Option.some.injEq,Prod.mk.injEq] at h1
  obtain ⟨h3,rfl,rfl,rfl⟩:=h1
  obtain ⟨w,sms,st1,e,hw,hk⟩:=k
  exact ⟨(st.H.map (·.1)).Nodup∧v1∧w,s::sms,st1,by simp only [wA,hgd,h2,e],⟨yC hn,h3 ▸ hv,hw⟩,by simpa using hk⟩
 cases h1
def qKB (C:Know) (T:Tab) (G:qO) (st0:St) (ts:List Nat) (o:Oper) (d:Nat) (pol:Bool) (st:St) (orc:List PD):Option (Prop × St × zEU × List PD) :=
 match V.guards pol (st.tmps.getD d .dead) with
 | none=>none
 | some b=>match xS C T G (st.small ts) o.op orc with
  | some (v,x,orc') =>
   let s:Sm:=⟨.when b x,(st.small ts).H,(st.small ts).H,(st.small ts).pins,[],true⟩
   some (d<st.tmps.length∧(b=true→v)∧s.good,st.after o.dst s,s.sum,orc')
  | none=>match b with
   | true=>match uY C T G st0 (st.small ts) o orc with
    | some (v,s,orc')=>some (d<st.tmps.length∧v,st.after o.dst { s with x := .when true s.x },({ s with x := .when true s.x }:Sm).sum,orc')
    | none=>none
   | false =>
    let s:Sm:=⟨.when false (.p (.bool false)),[],[],[],[],true⟩
    some (d<st.tmps.length,st.after o.dst s,s.sum,orc)
theorem DGo.oneIf (d : Nat) {j : Nat} {pol : Bool} (h : ∀ C, qKB C T G st0 ts o d pol st orc = some (v C, st', sm, orc')) (hv : v (kn P G)) (hgd : o.guard = some (j, pol)) (hd : (ops[j]?).bind (·.dst) = some d) (hn : ndB st.H = true)
  (k:DGo P T G ops st0 rest tss st' orc' (acc++[sm]) K):DGo P T G ops st0 (o::rest) (ts::tss) st orc acc K:=by
 have h1:=h (kn P G)
 have hn':=yC hn
 unfold qKB at h1
 obtain ⟨w,sms,st1,e,hw,hk⟩:=k
 split at h1
 ·cases h1
 rename_i b hb
 split at h1
 ·rename_i v1 x orc1 h2
  simp only [Option.some.injEq,Prod.mk.injEq] at h1
  obtain ⟨h3,rfl,rfl,rfl⟩:=h1
  have hv':=h3.symm ▸ hv
  exact ⟨(st.H.map (·.1)).Nodup∧d<st.tmps.length∧(b=true→v1)∧Sm.good ⟨.when b x,(st.small ts).H,(st.small ts).H,(st.small ts).pins,[],true⟩∧w,(⟨.when b x,(st.small ts).H,(st.small ts).H,(st.small ts).pins,[],true⟩:Sm)::sms,st1,by simp only [wA,hgd,hd,hb,h2,e],⟨hn',hv'.1,hv'.2.1,hv'.2.2,hw⟩,by simpa using hk⟩
 rename_i h2
 split at h1
 ·split at h1
  ·rename_i v1 s orc1 h4
   simp only [Option.some.injEq,Prod.mk.injEq] at h1
   obtain ⟨h3,rfl,rfl,rfl⟩:=h1
   have hv':=h3.symm ▸ hv
   exact ⟨(st.H.map (·.1)).Nodup∧d<st.tmps.length∧v1∧w,({ s with x := .when true s.x }:Sm)::sms,st1,by simp only [wA,hgd,hd,hb,h2,h4,e],⟨hn',hv'.1,hv'.2,hw⟩,by simpa using hk⟩
  cases h1
 simp only [Option.some.injEq,Prod.mk.injEq] at h1
 obtain ⟨h3,rfl,rfl,rfl⟩:=h1
 have hv':=h3.symm ▸ hv
 exact ⟨(st.H.map (·.1)).Nodup∧d<st.tmps.length∧w,(⟨.when false (.p (.bool false)),[],[],[],[],true⟩:Sm)::sms,st1,by simp only [wA,hgd,hd,hb,h2,e],⟨hn',hv',hw⟩,by simpa using hk⟩
theorem d1 (k : DGo P T G ops st0 rest tss st' orc' (acc ++ [sm]) K) (h : ∀ C, qGX C T G st0 ts o st orc = some (v C, st', sm, orc') := by intro C; conv => lhs; simp) (hv : v (kn P G) := by first | with_reducible exact True.intro | omega | simp | (simp +contextual; omega)) (hgd : o.guard = none := by rfl) (hn : ndB st.H = true := by kernel_rfl) :
  DGo P T G ops st0 (o::rest) (ts::tss) st orc acc K:=DGo.one h hv hgd hn k
theorem d2 (d : Nat) {j : Nat} {pol : Bool} (hgd : o.guard = some (j, pol)) (hd : (ops[j]?).bind (·.dst) = some d) (k : DGo P T G ops st0 rest tss st' orc' (acc ++ [sm]) K) (h : ∀ C, qKB C T G st0 ts o d pol st orc = some (v C, st', sm, orc') := by intro C; conv => lhs; simp) (hv : v (kn P G) := by first | with_reducible exact True.intro | omega | simp | (simp +contextual; omega))
  (hn:ndB st.H=true:=by kernel_rfl):DGo P T G ops st0 (o::rest) (ts::tss) st orc acc K:=DGo.oneIf d h hv hgd hd hn k
theorem dq1 {A : Prop} (hA : A) (k : DGo P T G ops st0 rest tss st' orc' (acc ++ [sm]) K) (h : ∀ C, qGX C T G st0 ts o st orc = some (v C, st', sm, orc') := by intro C; conv => lhs; simp) (hv : A → v (kn P G) := by intro hA; first | with_reducible exact True.intro | exact hA | exact hA.1 | exact hA.2 | exact hA.2.1 | exact hA.2.2 | (simpa using hA; done) | omega | simp | (simp +contextual; omega)) (hgd : o.guard = none := by rfl) (hn : ndB st.H = true := by kernel_rfl) :
    DGo P T G ops st0 (o::rest) (ts::tss) st orc acc K:=DGo.one h (hv hA) hgd hn k
theorem dq2 (d : Nat) {j : Nat} {pol : Bool} (hgd : o.guard = some (j, pol)) (hd : (ops[j]?).bind (·.dst) = some d) {A : Prop} (hA : A) (k : DGo P T G ops st0 rest tss st' orc' (acc ++ [sm]) K) (h : ∀ C, qKB C T G st0 ts o d pol st orc = some (v C, st', sm, orc') := by intro C; conv => lhs; simp) (hv : A → v (kn P G) := by intro hA; first | with_reducible exact True.intro | exact hA | exact hA.1 | exact hA.2 | exact hA.2.1 | exact hA.2.2 | (simpa using hA; done) | omega | simp | (simp +contextual; omega))
    (hn:ndB st.H=true:=by kernel_rfl):DGo P T G ops st0 (o::rest) (ts::tss) st orc acc K:=DGo.oneIf d h (hv hA) hgd hd hn k
theorem AW.drawS (hT : TOK P T) (hmix : P.follows .mixedOrders = true) (m : Nat) (tss : List (List Nat)) (orc orc2 : List PD) {id : Nat} {l : List Oper} (hchk : zP l m tss = true)
  (h:DGo P T G l st (l.take m) tss st orc [] fun qSO st1=>xG l m qSO=true∧qD P G l.toArray Q (l.drop m) st1 orc2):AW P G (.region id l.toArray true) Q st:=by
 obtain ⟨v,sms,st1,e,hv,hc,hl⟩:=h
 exact AW.runDraw0 hT hmix m tss orc hchk e hv (by simpa using hc) hl
theorem AW.seqDrawS (hT : TOK P T) (hmix : P.follows .mixedOrders = true) (m : Nat) (tss : List (List Nat)) (orc orc2 : List PD) {id : Nat} {l : List Oper} {b : Code} (hchk : zP l m tss = true)
  (h:DGo P T G l st (l.take m) tss st orc [] fun qSO st1=>xG l m qSO=true∧qD P G l.toArray (andThen (AW P G b Q) Q) (l.drop m) st1 orc2):AW P G (.seq (.region id l.toArray true) b) Q st :=
 AW.seq (AW.drawS hT hmix m tss orc orc2 hchk h)
attribute [simp] qGX qKB Sm.sum Sm.foot Sm.tch Sm.refs
end
end Go.Proofs.YtlmedakhioiahaaGreatDoor.Sy
