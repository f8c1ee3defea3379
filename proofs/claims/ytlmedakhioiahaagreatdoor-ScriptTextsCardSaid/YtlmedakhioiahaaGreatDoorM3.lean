import Derived.Test.YtlmedakhioiahaaGreatDoorM2
namespace Go.Proofs.YtlmedakhioiahaaGreatDoor.Sy
open Go
def zP (i:Nat):List (Nat × V)→V
 | [] => .dead
 | (j,x)::r=>if j=i then x else zP i r
def qEQ (i:Nat) (v:V):List (Nat × V)→List (Nat × V)
 | []=>[(i,v)]
 | (j,x)::r=>if j=i then (j,v)::r else (j,x)::qEQ i v r
def qPQ (f:V→V):List (Nat × V)→List (Nat × V)
 | []=>[]
 | (j,x)::r=>(j,f x)::qPQ f r
def qLH (ks:List Nat):List (Nat × V)→List (Nat × V)
 | []=>[]
 | (j,x)::r=>if ks.contains j then (j,x)::qLH ks r else qLH ks r
def qGX (id:Nat):List (Nat × V)→Bool
 | []=>true
 | (_,x)::r=>V.noRef id x && qGX id r
def leA (as:List (Nat × V)):List (Nat × V)→Prop
 | []=>True
 | (j,x)::r=>VLe (zP j as) x∧leA as r
def zD (n:Nat) (as:List (Nat × V)):List V:=(List.range n).map fun i=>zP i as
@[simp] theorem qRG (n:Nat) (as:List (Nat × V)):(zD n as).length=n:=by simp [zD]
@[simp] theorem uX (n:Nat) (as:List (Nat × V)) (i:Nat):(zD n as)[i]?=if i<n then some (zP i as) else none:=by
 simp only [zD,List.getElem?_map]
 by_cases h:i<n <;> simp [h]
theorem qGO (n:Nat) (as:List (Nat × V)) (i:Nat):(zD n as).getD i .dead=if i<n then zP i as else .dead:=by
 rw [List.getD_eq_getElem?_getD,uX]
 split <;> rfl
@[simp] theorem zEV {n i:Nat} {as:List (Nat × V)} (h:i<(zD n as).length):(zD n as)[i]=zP i as:=by simp [zD]
theorem qNS (i j:Nat) (v:V):∀ as,zP j (qEQ i v as)=if i=j then v else zP j as
 | []=>by simp [qEQ,zP]
 | (k,x)::r=>by
  simp only [qEQ]
  split
  ·rename_i h
   subst h
   simp only [zP]
   by_cases h2:k=j <;> simp [h2]
  rename_i h
  simp only [zP,qNS i j v r]
  by_cases h2:k=j
  ·subst h2; simp [Ne.symm h]
  simp [h2]
@[simp] theorem zKI (n:Nat) (as:List (Nat × V)) (i:Nat) (v:V):(zD n as).set i v=zD n (qEQ i v as):=by
 apply List.ext_getElem?
 intro k
 rw [List.getElem?_set,uX,uX,qRG,qNS]
 by_cases h:i=k
 ·subst h; simp
 simp [h]
theorem qNR {f:V→V} (hf:f .dead = .dead) (i:Nat):∀ as,zP i (qPQ f as)=f (zP i as)
 | []=>by simp [qPQ,zP,hf]
 | (k,x)::r=>by
  simp only [qPQ,zP,qNR hf i r]
  split <;> rfl
theorem qJW {f:V→V} (hf:f .dead = .dead) (n:Nat) (as:List (Nat × V)):(zD n as).map f=zD n (qPQ f as):=by
 simp only [zD,List.map_map]
 exact List.map_congr_left fun i _=>(qNR hf i as).symm
def qXO (id:Nat) (x:V):V:=match V.noRef id x with
 | true=>x
 | false => .dead
theorem qNT (id:Nat):∀ l,qBL id l=l.map (qXO id)
 | []=>rfl
 | x::xs=>by
  simp only [qBL,List.map_cons,qNT id xs]
  congr 1
@[simp] theorem zJU (id n:Nat) (as:List (Nat × V)):qBL id (zD n as)=zD n (qPQ (qXO id) as):=by
 rw [qNT,qJW (by simp [qXO,V.noRef])]
@[simp] theorem zKK (id:Nat) (d:PD) (n:Nat) (as:List (Nat × V)):V.frzL id d (zD n as)=zD n (qPQ (V.frz id d) as):=by
 rw [V.frzL_eq,qJW (by simp only [V.frz])]
@[simp] theorem zKJ (i j n:Nat) (as:List (Nat × V)):V.renL i j (zD n as)=zD n (qPQ (V.ren i j) as):=by
 rw [V.renL_eq,qJW (by simp only [V.ren])]
theorem qIC {id:Nat} (i:Nat):∀ {as:List (Nat × V)},qGX id as=true→V.noRef id (zP i as)=true
 | [],_=>by simp [zP,V.noRef]
 | (k,x)::r,h=>by
  simp only [qGX,Bool.and_eq_true] at h
  simp only [zP]
  split
  ·exact h.1
  exact qIC i h.2
@[simp] theorem qJV {id n:Nat} {as:List (Nat × V)} (h:qGX id as=true):V.noRefL id (zD n as)=true:=by
 have key:∀ (as:List V),(∀ x∈as,V.noRef id x=true)→V.noRefL id as=true:=by
  intro as
  induction as with
  | nil=>intro _; simp only [V.noRefL]
  | cons a as ih =>
   intro h
   simp only [V.noRefL,Bool.and_eq_true]
   exact ⟨h a (by simp),ih fun x hx=>h x (by simp [hx])⟩
 refine key _ fun x hx => ?_
 obtain ⟨i,_,rfl⟩:=List.mem_map.1 hx
 exact qIC i h
@[simp] theorem zAX {id n:Nat}:V.noRefL id (zD n [])=true:=qJV rfl
theorem qEJ (ks:List Nat) (i:Nat):∀ as,zP i (qLH ks as)=if ks.contains i then zP i as else .dead
 | []=>by simp [qLH,zP]
 | (k,x)::r=>by
  simp only [qLH]
  split
  ·rename_i h
   simp only [zP,qEJ ks i r]
   by_cases h2:k=i
   ·subst h2; rw [if_pos rfl,if_pos rfl,if_pos h]
   rw [if_neg h2,if_neg h2]
  rename_i h
  rw [qEJ ks i r]
  simp only [zP]
  by_cases h2:k=i
  ·subst h2; rw [if_neg h,if_neg h]
  rw [if_neg h2]
@[simp] theorem zJT (n:Nat) (as:List (Nat × V)) (ks:List Nat):yC (zD n as) ks=zD n (qLH ks as):=by
 apply List.ext_getElem?
 intro i
 rw [qNP,uX,qRG,qEJ,qGO]
 by_cases h:i<n <;> simp [h]
theorem qQT:∀ {as bs:List V},as.length=bs.length→(∀ t,VLe (as.getD t .dead) (bs.getD t .dead))→yO as bs
 | [],[],_,_=>trivial
 | [],_::_,h,_=>by simp at h
 | _::_,[],h,_=>by simp at h
 | a::as,b::bs,h,h'=>⟨by simpa using h' 0,qQT (by simpa using h) fun t=>by have:=h' (t+1); simpa using this⟩
theorem qTC {as:List (Nat × V)} (i:Nat):∀ {bs:List (Nat × V)},leA as bs→VLe (zP i as) (zP i bs)
 | [],_=>by simp only [zP]; exact .dead _
 | (k,x)::r,h=>by
  simp only [zP]
  split
  ·rename_i e; subst e; exact h.1
  exact qTC i h.2
theorem qD {n:Nat} {as bs:List (Nat × V)} (h:leA as bs):yO (zD n as) (zD n bs):=by
 refine qQT (by simp) fun t => ?_
 rw [qGO,qGO]
 split
 ·exact qTC t h
 exact VLe.refl _
def St.keep (ks:List Nat) (st:St):St:=⟨yC st.tmps ks,st.pins,zCS ((ks.flatMap fun t=>V.ids (st.tmps.getD t .dead))++st.pins) st.H,st.base⟩
theorem zFZ (l:List V) (ks:List Nat):yO l (yC l ks):=by
 refine qQT (by rw [qAE]) fun t => ?_
 rw [qAS]
 split
 ·exact VLe.refl _
 exact VLe.dead _
theorem Rel.keep {c:Ctx} {M:qX} {μ:Mu} {st:St} {tmps:Array Value} {w:World} (r:Rel c M μ st tmps w) (ks:List Nat):Rel c M μ (st.keep ks) tmps w :=
 r.weaken ⟨zFZ _ _,rfl,fun _ hp=>qFN hp,(List.Sublist.map _ (yR _ _)).nodup r.nodup⟩
def qTD (ks:List Nat):Option (Prop × St)→Option (Prop × St)
 | some (v,st)=>some (v,st.keep ks)
 | none=>none
section
variable {P:Program} {T:Tab} {G:qO} {Q:Exit→St→Prop} {st st1 st2 st':St}
theorem AW.keep {c:Code} (ks:List Nat) (k:AW P G c Q (st.keep ks)):AW P G c Q st:=fun x M μ tmps w hg r=>k x M μ tmps w hg (r.keep ks)
theorem qW.keep {ops:Array Oper} {l:List Oper} (ks:List Nat) (k:qW P G ops Q l (st.keep ks)):qW P G ops Q l st:=fun x M μ tmps w hg r=>k x M μ tmps w hg (r.keep ks)
theorem qVO {ks:List Nat} {o:Option (Prop × St)} {v:Prop} (h:qTD ks o=some (v,st')):∃ s,o=some (v,s)∧st'=s.keep ks:=by
 unfold qTD at h
 split at h
 ·rename_i v0 s
  simp only [Option.some.injEq,Prod.mk.injEq] at h
  obtain ⟨rfl,rfl⟩:=h
  exact ⟨s,rfl,rfl⟩
 cases h
def qGS (C:Know) (T:Tab) (G:qO) (f:St→St) (o:Oper) (st:St) (orc:List PD):Option (Prop × St × List PD) :=
 match uK G st o.op with
 | none=>none
 | some st=>match uG C T G st o.op orc with
  | some (v,x,orc')=>some (v,f (st.put o.dst x),orc')
  | none=>match qIH C T G st o orc with
   | some (v,x,st',orc')=>some (v,f (st'.put o.dst x),orc')
   | none=>none
def qGR (C:Know) (T:Tab) (G:qO) (f:St→St) (o:Oper) (d:Nat) (pol:Bool) (st:St) (orc:List PD):Option (Prop × St × List PD) :=
 match uK G st o.op with
 | none=>none
 | some st=>match V.guards pol (st.tmps.getD d .dead) with
  | none=>none
  | some b=>match uG C T G st o.op orc with
   | some (v,x,orc')=>some (d<st.tmps.length∧(b=true→v),f (st.put o.dst (.when b x)),orc')
   | none=>match b with
    | true=>match qIH C T G st o orc with
     | some (v,x,st',orc')=>some (d<st.tmps.length∧v,f (st'.put o.dst (.when true x)),orc')
     | none=>none
    | false=>some (d<st.tmps.length,f (st.put o.dst (.when false (.p (.bool false)))),orc)
theorem qW.oneF (hT : TOK P T) {f : St → St} {ops : Array Oper} {o : Oper} {rest : List Oper} {v : Know → Prop} {orc orc' : List PD} (hf : ∀ {l s}, qW P G ops Q l (f s) → qW P G ops Q l s) (h : ∀ C, qGS C T G f o st orc = some (v C, st', orc')) (hv : v (kn P G)) (hgd : o.guard = none)
  (k:qW P G ops Q rest st'):qW P G ops Q (o::rest) st:=by
 have h:=h (kn P G)
 unfold qGS at h
 split at h
 ·cases h
 rename_i st0 hpre
 refine qW.pre hpre ?_
 split at h
 ·rename_i hs
  simp only [Option.some.injEq,Prod.mk.injEq] at h
  obtain ⟨rfl,rfl,rfl⟩:=h
  exact qW.step hgd (kY hT hs hv) (hf k)
 split at h
 ·rename_i hs
  simp only [Option.some.injEq,Prod.mk.injEq] at h
  obtain ⟨rfl,rfl,rfl⟩:=h
  exact qW.step hgd (kO hT hs hv) (hf k)
 cases h
theorem qW.oneIfF (hT : TOK P T) {f : St → St} (d : Nat) {ops : Array Oper} {o : Oper} {rest : List Oper} {j : Nat} {pol : Bool} {v : Know → Prop} {orc orc' : List PD} (hf : ∀ {l s}, qW P G ops Q l (f s) → qW P G ops Q l s) (h : ∀ C, qGR C T G f o d pol st orc = some (v C, st', orc')) (hv : v (kn P G))
  (hgd:o.guard=some (j,pol)) (hd:(ops[j]?).bind (·.dst)=some d) (k:qW P G ops Q rest st'):qW P G ops Q (o::rest) st:=by
 have h:=h (kn P G)
 unfold qGR at h
 split at h
 ·cases h
 rename_i st0 hpre
 refine qW.pre hpre ?_
 split at h
 ·cases h
 rename_i b hb
 split at h
 ·rename_i hs
  simp only [Option.some.injEq,Prod.mk.injEq] at h
  obtain ⟨h1,rfl,rfl⟩:=h
  have hv':=h1.symm ▸ hv
  exact qW.stepIf hgd hd hv'.1 hb (fun hbt=>kY hT hs (hv'.2 hbt)) (hf k)
 split at h
 ·split at h
  ·rename_i hs
   simp only [Option.some.injEq,Prod.mk.injEq] at h
   obtain ⟨h1,rfl,rfl⟩:=h
   have hv':=h1.symm ▸ hv
   exact qW.stepIfT hgd hd hv'.1 hb (kO hT hs hv'.2) (hf k)
  cases h
 simp only [Option.some.injEq,Prod.mk.injEq] at h
 obtain ⟨h1,rfl,rfl⟩:=h
 have hv':=h1.symm ▸ hv
 exact qW.stepIfF hgd hd hv' hb (hf k)
def qXB (C:Know) (T:Tab) (G:qO) (ks:List Nat) (o:Oper) (st:St) (orc:List PD):Option (Prop × St × List PD):=qGS C T G (St.keep ks) o st orc
def qXA (C:Know) (T:Tab) (G:qO) (ks:List Nat) (o:Oper) (d:Nat) (pol:Bool) (st:St) (orc:List PD):Option (Prop × St × List PD):=qGR C T G (St.keep ks) o d pol st orc
def keepIf (ks:List Nat) (st:St):St:=match ks with
 | []=>st
 | _::_=>st.keep ks
theorem qW.keepIf {ops:Array Oper} {l:List Oper} (ks:List Nat) (k:qW P G ops Q l (keepIf ks st)):qW P G ops Q l st:=by
 cases ks with
 | nil=>exact k
 | cons a r=>exact qW.keep _ k
theorem qW.one (hT : TOK P T) (ks : List Nat) (orc : List PD) {ops : Array Oper} {o : Oper} {rest : List Oper} {v : Know → Prop} {orc' : List PD} (h : ∀ C, qXB C T G ks o st orc = some (v C, st', orc')) (hv : v (kn P G)) (hgd : o.guard = none)
  (k:qW P G ops Q rest st'):qW P G ops Q (o::rest) st:=qW.oneF hT (qW.keep ks) h hv hgd k
theorem qW.oneIf (hT : TOK P T) (ks : List Nat) (orc : List PD) (d : Nat) {ops : Array Oper} {o : Oper} {rest : List Oper} {j : Nat} {pol : Bool} {v : Know → Prop} {orc' : List PD} (h : ∀ C, qXA C T G ks o d pol st orc = some (v C, st', orc')) (hv : v (kn P G))
  (hgd:o.guard=some (j,pol)) (hd:(ops[j]?).bind (·.dst)=some d) (k:qW P G ops Q rest st'):qW P G ops Q (o::rest) st:=qW.oneIfF hT d (qW.keep ks) h hv hgd hd k
theorem qW.stepK (ks:List Nat) {ops:Array Oper} {o:Oper} {rest:List Oper} {x:V} (hgd:o.guard=none) (h:zC P G o st x st1) (hk:(st1.put o.dst x).keep ks=st') (k:qW P G ops Q rest st'):qW P G ops Q (o::rest) st :=
 qW.step hgd h (qW.keep ks (hk ▸ k))
theorem qW.keepEnd {ops:Array Oper} (ks:List Nat) (k:Q .normal (st.keep ks)):qW P G ops Q [] st:=qW.keep ks (qW.nil k)
def qB (P:Program) (G:qO) (ops:Array Oper) (Q:Exit→St→Prop) (l:List Oper) (st:St) (_:List PD):Prop:=qW P G ops Q l st
theorem qB.nil {ops:Array Oper} {orc:List PD} (h:Q .normal st):qB P G ops Q [] st orc:=qW.nil h
theorem qB.one (hT : TOK P T) (ks : List Nat) {orc : List PD} {ops : Array Oper} {o : Oper} {rest : List Oper} {v : Know → Prop} {orc' : List PD} (h : ∀ C, qXB C T G ks o st orc = some (v C, st', orc')) (hv : v (kn P G)) (hgd : o.guard = none)
  (k:qB P G ops Q rest st' orc'):qB P G ops Q (o::rest) st orc:=qW.one hT ks orc h hv hgd k
theorem qB.oneIf (hT : TOK P T) (ks : List Nat) {orc : List PD} (d : Nat) {ops : Array Oper} {o : Oper} {rest : List Oper} {j : Nat} {pol : Bool} {v : Know → Prop} {orc' : List PD} (h : ∀ C, qXA C T G ks o d pol st orc = some (v C, st', orc')) (hv : v (kn P G))
  (hgd:o.guard=some (j,pol)) (hd:(ops[j]?).bind (·.dst)=some d) (k:qB P G ops Q rest st' orc'):qB P G ops Q (o::rest) st orc:=qW.oneIf hT ks orc d h hv hgd hd k
theorem s1 (hT : TOK P T) (ks : List Nat) {orc : List PD} {ops : Array Oper} {o : Oper} {rest : List Oper} {v : Know → Prop} {orc' : List PD} (k : qB P G ops Q rest st' orc')
  (h:∀ C,qXB C T G ks o st orc=some (v C,st',orc'):=by intro C; conv=>lhs; simp) (hv:v (kn P G):=by first | with_reducible exact True.intro | omega | simp | (simp +contextual; omega)) (hgd:o.guard=none:=by rfl):qB P G ops Q (o::rest) st orc:=qW.one hT ks orc h hv hgd k
theorem s2 (hT : TOK P T) (ks : List Nat) (d : Nat) {orc : List PD} {ops : Array Oper} {o : Oper} {rest : List Oper} {j : Nat} {pol : Bool} {v : Know → Prop} {orc' : List PD} (hgd : o.guard = some (j, pol)) (hd : (ops[j]?).bind (·.dst) = some d) (k : qB P G ops Q rest st' orc')
  (h:∀ C,qXA C T G ks o d pol st orc=some (v C,st',orc'):=by intro C; conv=>lhs; simp) (hv:v (kn P G):=by first | with_reducible exact True.intro | omega | simp | (simp +contextual; omega)):qB P G ops Q (o::rest) st orc:=qW.oneIf hT ks orc d h hv hgd hd k
def qAP (P:Program) (G:qO) (ops:Array Oper) (Q:Exit→St→Prop) (l:List Oper) (st:St) (_:List PD) (_:List (List Nat)):Prop:=qW P G ops Q l st
theorem qB.run (kss:List (List Nat)) {orc:List PD} {ops:Array Oper} {l:List Oper} (h:qAP P G ops Q l st orc kss):qB P G ops Q l st orc:=h
theorem qI {kss:List (List Nat)} {orc:List PD} {ops:Array Oper} {l:List Oper} (h:qB P G ops Q l st orc):qAP P G ops Q l st orc kss:=h
theorem qA {kss:List (List Nat)} {ops:Array Oper} {orc:List PD} (h:Q .normal st):qAP P G ops Q [] st orc kss:=qW.nil h
theorem rgz (orc:List PD) (kss:List (List Nat)) {id:Nat} {l:List Oper} (h:qAP P G l.toArray Q l st orc kss):AW P G (.region id l.toArray false) Q st:=AW.region h
theorem rgn (orc:List PD) (kss:List (List Nat)) {id:Nat} {l:List Oper} {b:Code} (h:qAP P G l.toArray (andThen (AW P G b Q) Q) l st orc kss):AW P G (.seq (.region id l.toArray false) b) Q st:=AW.seq (AW.region h)
theorem op1 (hT : TOK P T) {ks : List Nat} {kss : List (List Nat)} {orc : List PD} {ops : Array Oper} {o : Oper} {rest : List Oper} {v : Know → Prop} {orc' : List PD} (k : qAP P G ops Q rest st' orc' kss) (hgd : o.guard = none := by rfl)
  (h:∀ C,qGS C T G (keepIf ks) o st orc=some (v C,st',orc'):=by intro C; conv=>lhs; simp) (hv:v (kn P G):=by first | with_reducible exact True.intro | omega | simp | (simp +contextual; omega)) :
  qAP P G ops Q (o::rest) st orc (ks::kss):=qW.oneF hT (qW.keepIf ks) h hv hgd k
theorem op2 (hT : TOK P T) {ks : List Nat} {kss : List (List Nat)} {d : Nat} {orc : List PD} {ops : Array Oper} {o : Oper} {rest : List Oper} {j : Nat} {pol : Bool} {v : Know → Prop} {orc' : List PD} (k : qAP P G ops Q rest st' orc' kss) (hgd : o.guard = some (j, pol) := by rfl) (hd : (ops[j]?).bind (·.dst) = some d := by rfl)
  (h:∀ C,qGR C T G (keepIf ks) o d pol st orc=some (v C,st',orc'):=by intro C; conv=>lhs; simp) (hv:v (kn P G):=by first | with_reducible exact True.intro | omega | simp | (simp +contextual; omega)):qAP P G ops Q (o::rest) st orc (ks::kss):=qW.oneIfF hT d (qW.keepIf ks) h hv hgd hd k
theorem ai {a b:Prop} (x:a) (y:b):a∧b:=⟨x,y⟩
theorem oq1 (hT : TOK P T) {ks : List Nat} {kss : List (List Nat)} {orc : List PD} {ops : Array Oper} {o : Oper} {rest : List Oper} {v : Know → Prop} {orc' : List PD} {A : Prop} (hA : A) (k : qAP P G ops Q rest st' orc' kss) (hgd : o.guard = none := by rfl)
    (h:∀ C,qGS C T G (keepIf ks) o st orc=some (v C,st',orc'):=by intro C; conv=>lhs; simp) (hv:A→v (kn P G):=by intro hA; first | with_reducible exact True.intro | exact hA | exact hA.1 | exact hA.2 | exact hA.2.1 | exact hA.2.2 | (simpa using hA; done) | omega | simp | (simp +contextual; omega)) :
    qAP P G ops Q (o::rest) st orc (ks::kss):=qW.oneF hT (qW.keepIf ks) h (hv hA) hgd k
theorem oq2 (hT : TOK P T) {ks : List Nat} {kss : List (List Nat)} {d : Nat} {orc : List PD} {ops : Array Oper} {o : Oper} {rest : List Oper} {j : Nat} {pol : Bool} {v : Know → Prop} {orc' : List PD} {A : Prop} (hA : A) (k : qAP P G ops Q rest st' orc' kss) (hgd : o.guard = some (j, pol) := by rfl) (hd : (ops[j]?).bind (·.dst) = some d := by rfl)
    (h:∀ C,qGR C T G (keepIf ks) o d pol st orc=some (v C,st',orc'):=by intro C; conv=>lhs; simp) (hv:A→v (kn P G):=by intro hA; first | with_reducible exact True.intro | exact hA | exact hA.1 | exact hA.2 | exact hA.2.1 | exact hA.2.2 | (simpa using hA; done) | omega | simp | (simp +contextual; omega)):qAP P G ops Q (o::rest) st orc (ks::kss):=qW.oneIfF hT d (qW.keepIf ks) h (hv hA) hgd hd k
theorem cnd {c:Operand} {x y:Code} {p:Prop} {b:Bool} (h1:b=true→AW P G x Q st) (h2:b=false→AW P G y Q st) (hc:st.arg G c=(p,.p (.bool b)):=by conv=>lhs; simp) (hp:p:=by exact trivial):AW P G (.cond c x y) Q st:=AW.cond hc hp h1 h2
theorem qB.stepK (ks:List Nat) {orc:List PD} {ops:Array Oper} {o:Oper} {rest:List Oper} {x:V} (h:zC P G o st x st1) (hk:(st1.put o.dst x).keep ks=st') (hgd:o.guard=none) (k:qB P G ops Q rest st' orc):qB P G ops Q (o::rest) st orc :=
 qW.stepK ks hgd h hk k
theorem AW.regionO (orc:List PD) {id:Nat} {l:List Oper} (h:qB P G l.toArray Q l st orc):AW P G (.region id l.toArray false) Q st:=AW.region h
theorem AW.seqRegionO (orc:List PD) {id:Nat} {l:List Oper} {b:Code} (h:qB P G l.toArray (andThen (AW P G b Q) Q) l st orc):AW P G (.seq (.region id l.toArray false) b) Q st:=AW.seq (AW.region h)
theorem AW.runDrawK (hT : TOK P T) (hmix : P.follows .mixedOrders = true) (ks : List Nat) (m : Nat) (tss : List (List Nat)) (orc1 orc2 : List PD) {id : Nat} {l : List Oper} {sms : List Sm} {v1 v2 : Know → Prop} (hchk : zZ l m tss = true)
  (h1:∀ C,wK C T G l st (l.take m) tss st orc1=some (v1 C,sms,st1)) (hv1:v1 (kn P G)) (hconf:vJ l m (sms.map Sm.sum)=true) (h2:∀ C,qTD ks (yS C T G l (l.drop m) st1 orc2)=some (v2 C,st')) (hv2:v2 (kn P G)) (k:Q .normal st') :
  AW P G (.region id l.toArray true) Q st:=by
 obtain ⟨s,hs,rfl⟩:=qVO (h2 (kn P G))
 have hlate:=wH (Q:=Q) hT l (l.drop m) [] _ orc2 _ s hs hv2 (qW.keepEnd ks k)
 rw [List.append_nil] at hlate
 exact AW.runDraw0 hT hmix m tss orc1 hchk (h1 (kn P G)) hv1 hconf hlate
theorem AW.seqRunDrawK (hT : TOK P T) (hmix : P.follows .mixedOrders = true) (ks : List Nat) (m : Nat) (tss : List (List Nat)) (orc1 orc2 : List PD) {id : Nat} {l : List Oper} {b : Code} {sms : List Sm} {v1 v2 : Know → Prop} (hchk : zZ l m tss = true)
  (h1:∀ C,wK C T G l st (l.take m) tss st orc1=some (v1 C,sms,st1)) (hv1:v1 (kn P G)) (hconf:vJ l m (sms.map Sm.sum)=true) (h2:∀ C,qTD ks (yS C T G l (l.drop m) st1 orc2)=some (v2 C,st')) (hv2:v2 (kn P G)) (k:AW P G b Q st') :
  AW P G (.seq (.region id l.toArray true) b) Q st:=AW.seq (AW.runDrawK hT hmix ks m tss orc1 orc2 hchk h1 hv1 hconf h2 hv2 k)
def qL (i:Nat):List V→List (Nat × V)
 | []=>[]
 | x::xs=>(i,x)::qL (i+1) xs
theorem qLC:∀ (xs:List V) (i j:Nat),zP j (qL i xs)=if i≤j then xs.getD (j-i) .dead else .dead
 | [],i,j=>by simp [qL,zP]
 | x::xs,i,j=>by
  simp only [qL,zP,qLC xs]
  by_cases h:i=j
  ·subst h; simp
  rw [if_neg h]
  by_cases h2:i+1≤j
  ·rw [if_pos h2,if_pos (by omega),show j-i=(j-(i+1))+1 by omega]; simp
  rw [if_neg h2,if_neg (by omega)]
theorem qKE (xs:List V) (n:Nat) (h:xs.length≤n):xs++List.replicate (n-xs.length) .dead=zD n (qL 0 xs):=by
 apply List.ext_getElem?
 intro i
 rw [uX,qLC,List.getElem?_append]
 simp only [Nat.zero_le,if_true,Nat.sub_zero]
 by_cases h1:i<xs.length
 ·rw [if_pos h1,if_pos (by omega)]; simp [h1]
 rw [if_neg h1]
 by_cases h2:i<n
 ·rw [if_pos h2]; simp [show i-xs.length<n-xs.length by omega,List.getD_eq_getElem?_getD,List.getElem?_eq_none (show xs.length≤i by omega)]
 rw [if_neg h2]; simp [show ¬ i-xs.length<n-xs.length by omega]
theorem AFn.introU (hT : TOK P T) {f : FuncId} {fn : Func} {c : Code} {args : List PD} {r : PD} (hf : P.funcs[f]? = some fn) (hn : (fn.name == "runtime.NumGoroutine") = false) (hb : fn.body = some c) (hl : args.length.ble fn.ntmps = true)
  (h:AW P G c (Fin T fn.results.toList r) ⟨zD fn.ntmps (qL 0 (args.map .p)),[],[],0⟩):AFn P G f args r:=by
 refine AFn.intro hT hf hn hb ?_
 have:=qKE (args.map V.p) fn.ntmps (by simpa using Nat.le_of_ble_eq_true hl)
 simp only [List.length_map] at this
 rw [St.start,this]; exact h
theorem AX.introU (hT : TOK P T) {f : FuncId} {fn : Func} {c : Code} {xs : List V} {H : List (Nat × Box)} {r : V} {ps : List Nat} {H' : List (Nat × Box)} (base : Nat) (hf : P.funcs[f]? = some fn)
  (hn : (fn.name == "runtime.NumGoroutine") = false) (hb : fn.body = some c) (hl : xs.length.ble fn.ntmps = true) (h : AW P G c (zHC T fn.results.toList r ps H') ⟨zD fn.ntmps (qL 0 xs), H.map (·.1), H, base⟩) : AX P G f xs H r ps H' := by
 refine AX.intro hT base hf hn hb ?_
 rw [St.startX,qKE xs fn.ntmps (Nat.le_of_ble_eq_true hl)]; exact h
theorem qOW {n i:Nat} {as:List (Nat × V)} {x:V} (h:zP i as=x) (hi:i<n):(zD n as)[i]?=some x:=by rw [uX,if_pos hi,h]
theorem AW.slFactU {c:Code} {n i sz b:Nat} {es:List PD} {as:List (Nat × V)} {p:List Nat} {H:List (Nat × Box)} (h:zP i as = .p (.sl sz es)) (hi:i<n) (k:es.length≤9223372036854775807→AW P G c Q ⟨zD n as,p,H,b⟩):AW P G c Q ⟨zD n as,p,H,b⟩ :=
 AW.slFact (i:=i) (qOW h hi) k
theorem AW.strFactU {c:Code} {n i b:Nat} {s:List UInt8} {as:List (Nat × V)} {p:List Nat} {H:List (Nat × Box)} (h:zP i as = .p (.str s)) (hi:i<n) (k:s.length≤9223372036854775807→AW P G c Q ⟨zD n as,p,H,b⟩):AW P G c Q ⟨zD n as,p,H,b⟩ :=
 AW.strFact (i:=i) (qOW h hi) k
theorem AW.intFactU {c:Code} {n i b:Nat} {kd:IntKind} {z:Int} {as:List (Nat × V)} {p:List Nat} {H:List (Nat × Box)} (h:zP i as = .p (.int kd z)) (hi:i<n) (k:yY kd≤z∧z≤yZ kd→AW P G c Q ⟨zD n as,p,H,b⟩):AW P G c Q ⟨zD n as,p,H,b⟩ :=
 AW.intFact (i:=i) (qOW h hi) k
attribute [simp] qXB qXA qGS qGR keepIf zP qEQ qPQ qLH qGX leA qXO St.keep qTD qL
end
theorem qK {T:Tab} {rs:List ResultVar} {r:PD} {st:St} {l:List V} (h:qGV T st rs=some (True,l):=by (conv=>lhs; simp)) (k:V.fits st.H (qOY l) r:=by simp):Fin T rs r .ret st:=⟨.inr rfl,_,_,h,trivial,k⟩
theorem qT {T : Tab} {rs : List ResultVar} {r : V} {ps : List Nat} {H' : List (Nat × Box)} {st : St} {l : List V} (h : qGV T st rs = some (True, l) := by (conv => lhs; simp)) (k : VLe (qOY l) r := by simp) (a : ∀ i ∈ ps, i ∈ st.pins := by simp) (b : ∀ x ∈ H', x ∈ st.H := by simp)
  (c:(H'.map (·.1)).Nodup:=by simp):zHC T rs r ps H' .ret st:=⟨.inr rfl,_,_,h,trivial,k,a,b,c⟩
theorem qIG {T : Tab} {rs : List ResultVar} {r : V} {ps : List Nat} {H' : List (Nat × Box)} {st : St} {l : List V} (h : qGV T st rs = some (True, l) := by (conv => lhs; simp)) (k : VLe (qOY l) r := by simp) (a : ∀ i ∈ ps, i ∈ st.pins := by simp) (b : ∀ x ∈ H', x ∈ st.H := by simp)
  (c:(H'.map (·.1)).Nodup:=by simp):zHC T rs r ps H' .normal st:=⟨.inl rfl,_,_,h,trivial,k,a,b,c⟩
section
variable {P:Program} {T:Tab} {G:qO} {Q:Exit→St→Prop} {st st':St}
theorem qB.freeze {ops:Array Oper} {l:List Oper} {orc:List PD} (i:Nat) (h:st.freeze i=st') (k:qB P G ops Q l st' orc):qB P G ops Q l st orc:=fun x M μ tmps w hg r=>by
 subst h
 obtain ⟨M',r'⟩:=r.freeze i
 exact k x M' μ tmps w hg r'
theorem qB.take {ops:Array Oper} {l:List Oper} {orc:List PD} (i j:Nat) (h:(st.kill j).ren i j=st') (k:qB P G ops Q l st' orc):qB P G ops Q l st orc :=
 fun x M _ tmps w hg r=>(h ▸ k) x M _ tmps w hg ((r.kill j).ren (qES st j))
def xC:List (Option Nat)→List V→List V
 | some sz::l,.nilsl::xs => .p (.sl sz [])::xC l xs
 | _::l,x::xs=>x::xC l xs
 | [],xs=>xs
 | _,[]=>[]
theorem qHF:∀ (l:List (Option Nat)) (xs:List V),(xC l xs).length=xs.length
 | [],xs=>by simp [xC]
 | none::l,[]=>by simp [xC]
 | some sz::l,[]=>by simp [xC]
 | none::l,x::xs=>by simp [xC,qHF l xs]
 | some sz::l,x::xs=>by cases x <;> simp [xC,qHF l xs]
theorem qZI {M:qX} {μ:Mu} {u:Value} (sz:Nat) (h:RV M μ u .nilsl):RV M μ u (.p (.sl sz [])):=by
 cases h
 exact .p (.sl 0 0 rfl (Nat.le_refl _) (by simp [maxLen]) (fun h=>(h rfl).elim) (fun i e h=>by simp at h) (fun i e j h=>by simp at h) (fun i e j d u h=>by simp at h))
theorem qHG {M:qX} {μ:Mu}:∀ (l:List (Option Nat)) (xs:List V) (i:Nat) (y:V),(xC l xs)[i]?=some y→∃ x,xs[i]?=some x∧∀ u,RV M μ u x→RV M μ u y
 | [],xs,i,y,h=>⟨y,by simpa [xC] using h,fun _ h=>h⟩
 | none::l,[],i,y,h=>by simp [xC] at h
 | some sz::l,[],i,y,h=>by simp [xC] at h
 | none::l,x::xs,i,y,h=>by
  cases i with
  | zero=>simp [xC] at h; subst h; exact ⟨x,by simp,fun _ h=>h⟩
  | succ i=>simp [xC] at h; obtain ⟨x',h1,h2⟩:=qHG (M:=M) (μ:=μ) l xs i y h; exact ⟨x',by simpa using h1,h2⟩
 | some sz::l,x::xs,i,y,h=>by
  cases i with
  | zero =>
   refine ⟨x,by simp, ?_⟩
   cases x <;> simp [xC] at h <;> subst h <;> first | exact fun _ h=>qZI sz h | exact fun _ h=>h
  | succ i =>
   have h':(xC l xs)[i]?=some y:=by cases x <;> simpa [xC] using h
   obtain ⟨x',h1,h2⟩:=qHG (M:=M) (μ:=μ) l xs i y h'
   exact ⟨x',by simpa using h1,h2⟩
def St.fill (st:St) (id:Nat) (l:List (Option Nat)):St :=
 match zX id st.H with
 | some (.vars e cs)=>{ st with H:=wB id (.vars e (xC l cs)) st.H }
 | _=>st
theorem Rel.fill {c:Ctx} {M:qX} {μ:Mu} {tmps:Array Value} {w:World} (r:Rel c M μ st tmps w) (id:Nat) (l:List (Option Nat)):Rel c M μ (st.fill id l) tmps w:=by
 unfold St.fill
 split
 ·rename_i e cs hb
  have hm:=zM hb
  have hk:qN id st.H=true:=qH.2 ⟨_,hm⟩
  have hbx:=r.box id _ hm
  cases hbx with
  | @vars _ _ b arr h0 h1 h2 h3 h4 =>
   refine r.write hk h0 ⟨rfl,rfl,rfl,rfl,fun _ _=>rfl⟩ (.vars h0 h1 (by rw [qHF]; exact h2) h3 fun i u y hu hy => ?_)
   obtain ⟨x,hx,hxy⟩:=qHG (M:=M) (μ:=μ) l cs i y hy
   exact hxy u (h4 i u x hu hx)
 exact r
theorem qB.fill {ops:Array Oper} {l:List Oper} {orc:List PD} (id:Nat) (ns:List (Option Nat)) (h:st.fill id ns=st') (k:qB P G ops Q l st' orc):qB P G ops Q l st orc :=
 fun x M μ tmps w hg r=>(h ▸ k) x M μ tmps w hg (r.fill id ns)
attribute [simp] St.fill xC
end
section
variable {P:Program} {T:Tab} {G:qO} {Q:Exit→St→Prop} {st st':St}
theorem AW.beginE {c : Code} (d id : Nat) (e : TypeId) (sz : Nat) (hd : st.tmps[d]? = some .nilsl) (hf : st.fresh id = true) (h : ({ st with tmps := st.tmps.set d (.ms id), H := (id, .row e sz []) :: st.H } : St) = st')
  (k:AW P G c Q st'):AW P G c Q st:=AW.begin (d:=d) (id:=id) e sz hd hf (h ▸ k)
theorem AW.renE {c:Code} (i j:Nat) (hf:st.fresh j=true) (h:st.ren i j=st') (k:AW P G c Q st'):AW P G c Q st:=AW.ren i j hf (h ▸ k)
theorem AW.freezeE {c:Code} (i:Nat) (h:st.freeze i=st') (k:AW P G c Q st'):AW P G c Q st:=fun x M μ tmps w hg r=>by
 subst h
 obtain ⟨M',r'⟩:=r.freeze i
 exact k x M' μ tmps w hg r'
end
section
variable {P:Program} {T:Tab} {G:qO} {Q:Exit→St→Prop} {st st':St}
theorem Rel.plain {M : qX} {w : World} {args : List PD} {vs : Array Value} (μ : Mu) (hmem : ∀ b o v, M b o = some v → w.cell? ⟨b, o, none⟩ = some v) (hsz : vs.size = args.length) (hrd : ∀ (i : Nat) u d, vs[i]? = some u → args[i]? = some d → Rd M u d) :
  Rel ⟨w.heap.size,w,M,μ,wT μ []⟩ M μ ⟨args.map .p,[],[],0⟩ vs w:=by
 refine ⟨hmem,fun _ _ _ h=>h,fun _ _ _=>rfl,⟨by simpa using hsz,fun i u x hu hx => ?_⟩,(fun _ h=>by cases h),(fun _ _ h=>by cases h),List.nodup_nil,(fun _ _ _ h=>by simp [qN] at h),(fun _ _ h=>by simp [qN] at h),Nat.le_refl _,Kept.refl _ _⟩
 rw [List.getElem?_map] at hx
 obtain ⟨d,hd,rfl⟩:=Option.map_eq_some_iff.1 hx
 exact .p (hrd i u d hu hd)
theorem AR.of_AX {f:FuncId} {args:List PD} {k e sz:Nat} {es:List PD} (h:AX P G f (args.map .p) [] (.ms k) [] [(k,.row e sz es)]):AR P G f args e sz es:=by
 refine ⟨h.1,fun M w vs hg hmem hsz hrd=>(h.2 M (fun _=>default) w vs hg (Rel.plain _ hmem hsz hrd)).mono ?_⟩
 rintro e' w' ⟨v,M',μ',rfl,r'⟩
 have hno:∀ b, ¬ wT (fun _=>(default:Loc)) [] b:=fun b ⟨i,hi,_⟩=>by simp [qN] at hi
 have hk:qN k [(k,Box.row e sz es)]=true:=by simp [qN]
 have hv:=r'.slots.2 0 v (.ms k) (by simp) (by simp)
 cases hv with
 | ms hval hone =>
 have hbx:=r'.box k (.row e sz es) (List.mem_singleton.2 rfl)
 refine ⟨v,M',rfl,r'.mem,r'.ext,fun b o hb=>r'.old b o fun hm=>hm.elim (fun h=>by simp at h; omega) (hno b),⟨r'.below.os,r'.below.tape,r'.below.output,r'.below.size,fun j hj=>r'.below.block j fun hm=>hm.elim (fun h=>by simp at h; omega) (hno j)⟩,
  μ' k,hval.symm,hone, ?_,fun b hb => ?_⟩
 ·cases hbx with
  | row h0 hv h1 h2 h3 h4 h5 h6 h7=>exact .row h0 hv h1 h2 h3 h4 h5 h6 h7
  | rowN h0 hv=>exact .rowN h0 hv
 obtain ⟨h1,h2,h3⟩:=r'.own k b hk hb
 exact ⟨h1.elim (fun h=>h) fun h=>(hno b h).elim,h2,h3⟩
theorem qQF (k:Nat) {t e:TypeId} (hd:P.underlying t=some (.slice e)) (a:Option Addr) (n c:Nat) (w:World):(Op.equalIn (k+1) t (.slice a n c) (.slice none 0 0)).run P w = .ok a.isNone w:=by
 cases a <;> simp [Op.equalIn,run_underlying hd]
theorem qB.nilEq {ops : Array Oper} {o : Oper} {rest : List Oper} {orc : List PD} (hT : TOK P T) (ks : List Nat) {t ty e sz : Nat} {x : Operand} {p : Prop} {es : List PD} (ho : o.op = .binOp .eql t x (.const (.slice none 0 0)) ty) (ht : wE T t = some (.sl e))
  (ha:st.arg G x=(p,.p (.sl sz es))) (hp:p) (hgd:o.guard=none) (k:∀ b:Bool,(es≠[]→b=false)→qB P G ops Q rest ((st.put o.dst (.p (.bool b))).keep ks) orc):qB P G ops Q (o::rest) st orc:=by
 intro c M μ tmps w hg r
 have h1:=(qF hg r ha hp).p_inv
 have hd:=hT.sl ht
 generalize hu:Act.eval ⟨tmps,[]⟩ x=u at h1
 cases h1 with
 | @sl a n cc _ _ b o' hn hnc hcm hab h5 h6 h7 =>
 have he:(Op.equal t (.slice a n cc) (.slice none 0 0)).run P w = .ok a.isNone w:=by
  exact qQF 9999 hd a n cc w
 have e1:(execOp (Act.eval ⟨tmps,[]⟩) o).run P w = .ok (.value (.bool a.isNone)) w:=by
  have hg:(eqGuard .eql t x (.const (.slice none 0 0)) (.slice a n cc) (.slice none 0 0)).run P w = .ok () w:=by simp only [eqGuard]; rfl
  have hb2:(binOp .eql t (.slice a n cc) (.slice none 0 0)).run P w = .ok (.bool a.isNone) w:=by
   show (do pure (.bool (← Op.equal t (.slice a n cc) (.slice none 0 0))):Sem Value).run P w=_
   simp only [Sem.run_bind,he,Result.andThen]; rfl
  simp [execOp,ho,hu,hg,hb2,show Act.eval ⟨tmps,[]⟩ (.const (.slice none 0 0)) = .slice none 0 0 from rfl]
 have hb:es≠[]→a.isNone=false:=fun he=>by
  have:n≠0:=by rw [hn]; exact fun h=>he (List.eq_nil_of_length_eq_zero h)
  rw [hab this]; rfl
 refine wpList_plain hgd fun K hK=>jJ (next:=fun v w'=>v = .bool a.isNone∧w'=w) (by rw [e1]; exact ⟨rfl,rfl⟩) ?_
 rintro u w' ⟨rfl,rfl⟩
 apply hK
 rw [Act.put_tmps]
 exact qW.keep ks (k _ hb) c M μ _ w' hg (r.put (.p (.bool _)) o.dst)
theorem qB.same {ops:Array Oper} {l:List Oper} {orc:List PD} (h:st=st') (k:qB P G ops Q l st' orc):qB P G ops Q l st orc:=h ▸ k
end
abbrev zGZ:=List Nat × List Nat × List Nat × List Nat
def ndB:List (Nat × Box)→Bool
 | []=>true
 | (i,_)::r => !qN i r && ndB r
theorem yL:∀ {H:List (Nat × Box)},ndB H=true→(H.map (·.1)).Nodup
 | [],_=>List.nodup_nil
 | (i,b)::r,h=>by
  simp only [ndB,Bool.and_eq_true,Bool.not_eq_true'] at h
  simp only [List.map_cons,List.nodup_cons]
  exact ⟨fun hm=>by rw [zJ.2 hm] at h; exact absurd h.1 (by simp),yL h.2⟩
section
variable {P:Program} {T:Tab} {G:qO} {Q:Exit→St→Prop} {st st' st0:St} {ops rest:List Oper} {tss:List (List Nat)} {ts:List Nat} {orc orc':List PD} {acc:qCV} {o:Oper} {sm:zGZ} {v:Know→Prop}
def DGo (P:Program) (T:Tab) (G:qO) (ops:List Oper) (st0:St) (l:List Oper) (tss:List (List Nat)) (st:St) (orc:List PD) (acc:qCV) (K:qCV→St→Prop):Prop :=
 ∃ v sms st1,wK (kn P G) T G ops st0 l tss st orc=some (v,sms,st1)∧v∧K (acc++sms.map Sm.sum) st1
variable {K:qCV→St→Prop}
theorem DGo.nil (hn:ndB st.H=true) (k:K acc st):DGo P T G ops st0 [] tss st orc acc K:=⟨_,_,_,rfl,yL hn,by simpa using k⟩
def qII (C:Know) (T:Tab) (G:qO) (st0:St) (ts:List Nat) (o:Oper) (st:St) (orc:List PD):Option (Prop × St × zGZ × List PD) :=
 match qAZ C T G st0 (st.small ts) o orc with
 | some (v,s,orc')=>some (v,st.after o.dst s,s.sum,orc')
 | none=>none
theorem DGo.one (h : ∀ C, qII C T G st0 ts o st orc = some (v C, st', sm, orc')) (hv : v (kn P G)) (hgd : o.guard = none) (hn : ndB st.H = true) (k : DGo P T G ops st0 rest tss st' orc' (acc ++ [sm]) K) :
  DGo P T G ops st0 (o::rest) (ts::tss) st orc acc K:=by
 have h1:=h (kn P G)
 unfold qII at h1
 split at h1
 ·rename_i v1 s orc1 h2
  simp only [Option.some.injEq,Prod.mk.injEq] at h1
  obtain ⟨h3,rfl,rfl,rfl⟩:=h1
  obtain ⟨w,sms,st1,e,hw,hk⟩:=k
  exact ⟨(st.H.map (·.1)).Nodup∧v1∧w,s::sms,st1,by simp only [wK,hgd,h2,e],⟨yL hn,h3 ▸ hv,hw⟩,by simpa using hk⟩
 cases h1
def qLQ (C:Know) (T:Tab) (G:qO) (st0:St) (ts:List Nat) (o:Oper) (d:Nat) (pol:Bool) (st:St) (orc:List PD):Option (Prop × St × zGZ × List PD) :=
 match V.guards pol (st.tmps.getD d .dead) with
 | none=>none
 | some b=>match vU C T G (st.small ts) o.op orc with
  | some (v,x,orc') =>
   let s:Sm:=⟨.when b x,(st.small ts).H,(st.small ts).H,(st.small ts).pins,[],true⟩
   some (d<st.tmps.length∧(b=true→v)∧s.good,st.after o.dst s,s.sum,orc')
  | none=>match b with
   | true=>match qAZ C T G st0 (st.small ts) o orc with
    | some (v,s,orc')=>some (d<st.tmps.length∧v,st.after o.dst { s with x := .when true s.x },({ s with x := .when true s.x }:Sm).sum,orc')
    | none=>none
   | false =>
    let s:Sm:=⟨.when false (.p (.bool false)),[],[],[],[],true⟩
    some (d<st.tmps.length,st.after o.dst s,s.sum,orc)
theorem DGo.oneIf (d : Nat) {j : Nat} {pol : Bool} (h : ∀ C, qLQ C T G st0 ts o d pol st orc = some (v C, st', sm, orc')) (hv : v (kn P G)) (hgd : o.guard = some (j, pol)) (hd : (ops[j]?).bind (·.dst) = some d) (hn : ndB st.H = true)
  (k:DGo P T G ops st0 rest tss st' orc' (acc++[sm]) K):DGo P T G ops st0 (o::rest) (ts::tss) st orc acc K:=by
 have h1:=h (kn P G)
 have hn':=yL hn
 unfold qLQ at h1
 obtain ⟨w,sms,st1,e,hw,hk⟩:=k
 split at h1
 ·cases h1
 rename_i b hb
 split at h1
 ·rename_i v1 x orc1 h2
  simp only [Option.some.injEq,Prod.mk.injEq] at h1
  obtain ⟨h3,rfl,rfl,rfl⟩:=h1
  have hv':=h3.symm ▸ hv
  exact ⟨(st.H.map (·.1)).Nodup∧d<st.tmps.length∧(b=true→v1)∧Sm.good ⟨.when b x,(st.small ts).H,(st.small ts).H,(st.small ts).pins,[],true⟩∧w,(⟨.when b x,(st.small ts).H,(st.small ts).H,(st.small ts).pins,[],true⟩:Sm)::sms,st1,by simp only [wK,hgd,hd,hb,h2,e],⟨hn',hv'.1,hv'.2.1,hv'.2.2,hw⟩,by simpa using hk⟩
 rename_i h2
 split at h1
 ·split at h1
  ·rename_i v1 s orc1 h4
   simp only [Option.some.injEq,Prod.mk.injEq] at h1
   obtain ⟨h3,rfl,rfl,rfl⟩:=h1
   have hv':=h3.symm ▸ hv
   exact ⟨(st.H.map (·.1)).Nodup∧d<st.tmps.length∧v1∧w,({ s with x := .when true s.x }:Sm)::sms,st1,by simp only [wK,hgd,hd,hb,h2,h4,e],⟨hn',hv'.1,hv'.2,hw⟩,by simpa using hk⟩
  cases h1
 simp only [Option.some.injEq,Prod.mk.injEq] at h1
 obtain ⟨h3,rfl,rfl,rfl⟩:=h1
 have hv':=h3.symm ▸ hv
 exact ⟨(st.H.map (·.1)).Nodup∧d<st.tmps.length∧w,(⟨.when false (.p (.bool false)),[],[],[],[],true⟩:Sm)::sms,st1,by simp only [wK,hgd,hd,hb,h2,e],⟨hn',hv',hw⟩,by simpa using hk⟩
theorem d1 (k : DGo P T G ops st0 rest tss st' orc' (acc ++ [sm]) K) (h : ∀ C, qII C T G st0 ts o st orc = some (v C, st', sm, orc') := by intro C; conv => lhs; simp) (hv : v (kn P G) := by first | with_reducible exact True.intro | omega | simp | (simp +contextual; omega)) (hgd : o.guard = none := by rfl) (hn : ndB st.H = true := by kernel_rfl) :
  DGo P T G ops st0 (o::rest) (ts::tss) st orc acc K:=DGo.one h hv hgd hn k
theorem d2 (d : Nat) {j : Nat} {pol : Bool} (hgd : o.guard = some (j, pol)) (hd : (ops[j]?).bind (·.dst) = some d) (k : DGo P T G ops st0 rest tss st' orc' (acc ++ [sm]) K) (h : ∀ C, qLQ C T G st0 ts o d pol st orc = some (v C, st', sm, orc') := by intro C; conv => lhs; simp) (hv : v (kn P G) := by first | with_reducible exact True.intro | omega | simp | (simp +contextual; omega))
  (hn:ndB st.H=true:=by kernel_rfl):DGo P T G ops st0 (o::rest) (ts::tss) st orc acc K:=DGo.oneIf d h hv hgd hd hn k
theorem dq1 {A : Prop} (hA : A) (k : DGo P T G ops st0 rest tss st' orc' (acc ++ [sm]) K) (h : ∀ C, qII C T G st0 ts o st orc = some (v C, st', sm, orc') := by intro C; conv => lhs; simp) (hv : A → v (kn P G) := by intro hA; first | with_reducible exact True.intro | exact hA | exact hA.1 | exact hA.2 | exact hA.2.1 | exact hA.2.2 | (simpa using hA; done) | omega | simp | (simp +contextual; omega)) (hgd : o.guard = none := by rfl) (hn : ndB st.H = true := by kernel_rfl) :
    DGo P T G ops st0 (o::rest) (ts::tss) st orc acc K:=DGo.one h (hv hA) hgd hn k
theorem dq2 (d : Nat) {j : Nat} {pol : Bool} (hgd : o.guard = some (j, pol)) (hd : (ops[j]?).bind (·.dst) = some d) {A : Prop} (hA : A) (k : DGo P T G ops st0 rest tss st' orc' (acc ++ [sm]) K) (h : ∀ C, qLQ C T G st0 ts o d pol st orc = some (v C, st', sm, orc') := by intro C; conv => lhs; simp) (hv : A → v (kn P G) := by intro hA; first | with_reducible exact True.intro | exact hA | exact hA.1 | exact hA.2 | exact hA.2.1 | exact hA.2.2 | (simpa using hA; done) | omega | simp | (simp +contextual; omega))
    (hn:ndB st.H=true:=by kernel_rfl):DGo P T G ops st0 (o::rest) (ts::tss) st orc acc K:=DGo.oneIf d h (hv hA) hgd hd hn k
theorem AW.drawS (hT : TOK P T) (hmix : P.follows .mixedOrders = true) (m : Nat) (tss : List (List Nat)) (orc orc2 : List PD) {id : Nat} {l : List Oper} (hchk : zZ l m tss = true)
  (h:DGo P T G l st (l.take m) tss st orc [] fun qUL st1=>vJ l m qUL=true∧qB P G l.toArray Q (l.drop m) st1 orc2):AW P G (.region id l.toArray true) Q st:=by
 obtain ⟨v,sms,st1,e,hv,hc,hl⟩:=h
 exact AW.runDraw0 hT hmix m tss orc hchk e hv (by simpa using hc) hl
theorem AW.seqDrawS (hT : TOK P T) (hmix : P.follows .mixedOrders = true) (m : Nat) (tss : List (List Nat)) (orc orc2 : List PD) {id : Nat} {l : List Oper} {b : Code} (hchk : zZ l m tss = true)
  (h:DGo P T G l st (l.take m) tss st orc [] fun qUL st1=>vJ l m qUL=true∧qB P G l.toArray (andThen (AW P G b Q) Q) (l.drop m) st1 orc2):AW P G (.seq (.region id l.toArray true) b) Q st :=
 AW.seq (AW.drawS hT hmix m tss orc orc2 hchk h)
attribute [simp] qII qLQ Sm.sum Sm.foot Sm.tch Sm.refs
end
end Go.Proofs.YtlmedakhioiahaaGreatDoor.Sy
