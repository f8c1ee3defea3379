import Derived.Test.YtcfcfblbpnpclaaGreatDoorM2
namespace Go.Proofs.YtcfcfblbpnpclaaGreatDoor.Sy
open Go
def zP (i:Nat):List (Nat × V)→V
 | [] => .dead
 | (j,x)::r=>if j=i then x else zP i r
def qHI (i:Nat) (v:V):List (Nat × V)→List (Nat × V)
 | []=>[(i,v)]
 | (j,x)::r=>if j=i then (j,v)::r else (j,x)::qHI i v r
def qCX (f:V→V):List (Nat × V)→List (Nat × V)
 | []=>[]
 | (j,x)::r=>(j,f x)::qCX f r
def qAR (ks:List Nat):List (Nat × V)→List (Nat × V)
 | []=>[]
 | (j,x)::r=>if ks.contains j then (j,x)::qAR ks r else qAR ks r
def qAM (id:Nat):List (Nat × V)→Bool
 | []=>true
 | (_,x)::r=>V.noRef id x && qAM id r
def leA (as:List (Nat × V)):List (Nat × V)→Prop
 | []=>True
 | (j,x)::r=>VLe (zP j as) x∧leA as r
def qZ (n:Nat) (as:List (Nat × V)):List V:=(List.range n).map fun i=>zP i as
@[simp] theorem qDR (n:Nat) (as:List (Nat × V)):(qZ n as).length=n:=by simp [qZ]
@[simp] theorem jQ (n:Nat) (as:List (Nat × V)) (i:Nat):(qZ n as)[i]?=if i<n then some (zP i as) else none:=by
 simp only [qZ,List.getElem?_map]
 by_cases h:i<n <;> simp [h]
theorem vS (n:Nat) (as:List (Nat × V)) (i:Nat):(qZ n as).getD i .dead=if i<n then zP i as else .dead:=by
 rw [List.getD_eq_getElem?_getD,jQ]
 split <;> rfl
@[simp] theorem qJV {n i:Nat} {as:List (Nat × V)} (h:i<(qZ n as).length):(qZ n as)[i]=zP i as:=by simp [qZ]
theorem qCE (i j:Nat) (v:V):∀ as,zP j (qHI i v as)=if i=j then v else zP j as
 | []=>by simp [qHI,zP]
 | (k,x)::r=>by
  simp only [qHI]
  split
  ·rename_i h
   subst h
   simp only [zP]
   by_cases h2:k=j <;> simp [h2]
  rename_i h
  simp only [zP,qCE i j v r]
  by_cases h2:k=j
  ·subst h2; simp [Ne.symm h]
  simp [h2]
@[simp] theorem qMI (n:Nat) (as:List (Nat × V)) (i:Nat) (v:V):(qZ n as).set i v=qZ n (qHI i v as):=by
 apply List.ext_getElem?
 intro k
 rw [List.getElem?_set,jQ,jQ,qDR,qCE]
 by_cases h:i=k
 ·subst h; simp
 simp [h]
theorem qCD {f:V→V} (hf:f .dead = .dead) (i:Nat):∀ as,zP i (qCX f as)=f (zP i as)
 | []=>by simp [qCX,zP,hf]
 | (k,x)::r=>by
  simp only [qCX,zP,qCD hf i r]
  split <;> rfl
theorem uY {f:V→V} (hf:f .dead = .dead) (n:Nat) (as:List (Nat × V)):(qZ n as).map f=qZ n (qCX f as):=by
 simp only [qZ,List.map_map]
 exact List.map_congr_left fun i _=>(qCD hf i as).symm
def qGH (id:Nat) (x:V):V:=match V.noRef id x with
 | true=>x
 | false => .dead
theorem qCG (id:Nat):∀ l,kK id l=l.map (qGH id)
 | []=>rfl
 | x::xs=>by
  simp only [kK,List.map_cons,qCG id xs]
  congr 1
@[simp] theorem qLZ (id n:Nat) (as:List (Nat × V)):kK id (qZ n as)=qZ n (qCX (qGH id) as):=by
 rw [qCG,uY (by simp [qGH,V.noRef])]
@[simp] theorem qMK (id:Nat) (d:PD) (n:Nat) (as:List (Nat × V)):V.frzL id d (qZ n as)=qZ n (qCX (V.frz id d) as):=by
 rw [V.frzL_eq,uY (by simp only [V.frz])]
@[simp] theorem qMJ (i j n:Nat) (as:List (Nat × V)):V.renL i j (qZ n as)=qZ n (qCX (V.ren i j) as):=by
 rw [V.renL_eq,uY (by simp only [V.ren])]
theorem uK {id:Nat} (i:Nat):∀ {as:List (Nat × V)},qAM id as=true→V.noRef id (zP i as)=true
 | [],_=>by simp [zP,V.noRef]
 | (k,x)::r,h=>by
  simp only [qAM,Bool.and_eq_true] at h
  simp only [zP]
  split
  ·exact h.1
  exact uK i h.2
@[simp] theorem qEV {id n:Nat} {as:List (Nat × V)} (h:qAM id as=true):V.noRefL id (qZ n as)=true:=by
 have key:∀ (as:List V),(∀ x∈as,V.noRef id x=true)→V.noRefL id as=true:=by
  intro as
  induction as with
  | nil=>intro _; simp only [V.noRefL]
  | cons a as ih =>
   intro h
   simp only [V.noRefL,Bool.and_eq_true]
   exact ⟨h a (by simp),ih fun x hx=>h x (by simp [hx])⟩
 refine key _ fun x hx => ?_
 obtain ⟨i,_,rfl⟩:=List.mem_map.1 hx
 exact uK i h
@[simp] theorem qHT {id n:Nat}:V.noRefL id (qZ n [])=true:=qEV rfl
theorem xT (ks:List Nat) (i:Nat):∀ as,zP i (qAR ks as)=if ks.contains i then zP i as else .dead
 | []=>by simp [qAR,zP]
 | (k,x)::r=>by
  simp only [qAR]
  split
  ·rename_i h
   simp only [zP,xT ks i r]
   by_cases h2:k=i
   ·subst h2; rw [if_pos rfl,if_pos rfl,if_pos h]
   rw [if_neg h2,if_neg h2]
  rename_i h
  rw [xT ks i r]
  simp only [zP]
  by_cases h2:k=i
  ·subst h2; rw [if_neg h,if_neg h]
  rw [if_neg h2]
@[simp] theorem qLY (n:Nat) (as:List (Nat × V)) (ks:List Nat):qY (qZ n as) ks=qZ n (qAR ks as):=by
 apply List.ext_getElem?
 intro i
 rw [qCB,jQ,qDR,xT,vS]
 by_cases h:i<n <;> simp [h]
theorem qDJ:∀ {as bs:List V},as.length=bs.length→(∀ t,VLe (as.getD t .dead) (bs.getD t .dead))→zU as bs
 | [],[],_,_=>trivial
 | [],_::_,h,_=>by simp at h
 | _::_,[],h,_=>by simp at h
 | a::as,b::bs,h,h'=>⟨by simpa using h' 0,qDJ (by simpa using h) fun t=>by have:=h' (t+1); simpa using this⟩
theorem qEE {as:List (Nat × V)} (i:Nat):∀ {bs:List (Nat × V)},leA as bs→VLe (zP i as) (zP i bs)
 | [],_=>by simp only [zP]; exact .dead _
 | (k,x)::r,h=>by
  simp only [zP]
  split
  ·rename_i e; subst e; exact h.1
  exact qEE i h.2
theorem qJ {n:Nat} {as bs:List (Nat × V)} (h:leA as bs):zU (qZ n as) (qZ n bs):=by
 refine qDJ (by simp) fun t => ?_
 rw [vS,vS]
 split
 ·exact qEE t h
 exact VLe.refl _
def qGJ (k1:List Nat) (H:List (Nat × Box)):List (Nat × Box):=wF (k1++zS (wF (k1++zS (wF k1 H)) H)) H
def St.keep (ks:List Nat) (st:St):St:=⟨qY st.tmps ks,st.pins,qGJ ((ks.flatMap fun t=>V.ids (st.tmps.getD t .dead))++st.pins) st.H,st.base⟩
theorem qKJ (l:List V) (ks:List Nat):zU l (qY l ks):=by
 refine qDJ (by rw [kR]) fun t => ?_
 rw [jB]
 split
 ·exact VLe.refl _
 exact VLe.dead _
theorem Rel.keep {c:Ctx} {M:qQ} {μ:Mu} {st:St} {tmps:Array Value} {w:World} (r:Rel c M μ st tmps w) (ks:List Nat):Rel c M μ (st.keep ks) tmps w :=
 r.weaken ⟨qKJ _ _,rfl,fun _ hp=>vH hp,(List.Sublist.map _ (zX _ _)).nodup r.nodup⟩
section
variable {P:Program} {T:Tab} {G:qM} {Q:Exit→St→Prop} {st st1 st2 st':St}
theorem AW.keep {c:Code} (ks:List Nat) (k:AW P G c Q (st.keep ks)):AW P G c Q st:=fun x M μ tmps w hg r=>k x M μ tmps w hg (r.keep ks)
theorem qS.keep {ops:Array Oper} {l:List Oper} (ks:List Nat) (k:qS P G ops Q l (st.keep ks)):qS P G ops Q l st:=fun x M μ tmps w hg r=>k x M μ tmps w hg (r.keep ks)
def vW (C:Know) (T:Tab) (G:qM) (f:St→St) (o:Oper) (st:St) (orc:List PD):Option (Prop × St × List PD) :=
 match kI G st o.op with
 | none=>none
 | some st=>match kG C T G st o.op orc with
  | some (v,x,orc')=>some (v,f (st.put o.dst x),orc')
  | none=>match uN C T G st o orc with
   | some (v,x,st',orc')=>some (v,f (st'.put o.dst x),orc')
   | none=>none
def vV (C:Know) (T:Tab) (G:qM) (f:St→St) (o:Oper) (d:Nat) (pol:Bool) (st:St) (orc:List PD):Option (Prop × St × List PD) :=
 match kI G st o.op with
 | none=>none
 | some st=>match V.guards pol (st.tmps.getD d .dead) with
  | none=>none
  | some b=>match kG C T G st o.op orc with
   | some (v,x,orc')=>some (d<st.tmps.length∧(b=true→v),f (st.put o.dst (.when b x)),orc')
   | none=>match b with
    | true=>match uN C T G st o orc with
     | some (v,x,st',orc')=>some (d<st.tmps.length∧v,f (st'.put o.dst (.when true x)),orc')
     | none=>none
    | false=>some (d<st.tmps.length,f (st.put o.dst (.when false (.p (.bool false)))),orc)
theorem qS.oneF (hT : TOK P T) {f : St → St} {ops : Array Oper} {o : Oper} {rest : List Oper} {v : Know → Prop} {orc orc' : List PD} (hf : ∀ {l s}, qS P G ops Q l (f s) → qS P G ops Q l s) (h : ∀ C, vW C T G f o st orc = some (v C, st', orc')) (hv : v (kn P G)) (hgd : o.guard = none)
  (k:qS P G ops Q rest st'):qS P G ops Q (o::rest) st:=by
 have h:=h (kn P G)
 unfold vW at h
 split at h
 ·cases h
 rename_i st0 hpre
 refine qS.pre hpre ?_
 split at h
 ·rename_i hs
  simp only [Option.some.injEq,Prod.mk.injEq] at h
  obtain ⟨rfl,rfl,rfl⟩:=h
  exact qS.step hgd (wK hT hs hv) (hf k)
 split at h
 ·rename_i hs
  simp only [Option.some.injEq,Prod.mk.injEq] at h
  obtain ⟨rfl,rfl,rfl⟩:=h
  exact qS.step hgd (wG hT hs hv) (hf k)
 cases h
theorem qS.oneIfF (hT : TOK P T) {f : St → St} (d : Nat) {ops : Array Oper} {o : Oper} {rest : List Oper} {j : Nat} {pol : Bool} {v : Know → Prop} {orc orc' : List PD} (hf : ∀ {l s}, qS P G ops Q l (f s) → qS P G ops Q l s) (h : ∀ C, vV C T G f o d pol st orc = some (v C, st', orc')) (hv : v (kn P G))
  (hgd:o.guard=some (j,pol)) (hd:(ops[j]?).bind (·.dst)=some d) (k:qS P G ops Q rest st'):qS P G ops Q (o::rest) st:=by
 have h:=h (kn P G)
 unfold vV at h
 split at h
 ·cases h
 rename_i st0 hpre
 refine qS.pre hpre ?_
 split at h
 ·cases h
 rename_i b hb
 split at h
 ·rename_i hs
  simp only [Option.some.injEq,Prod.mk.injEq] at h
  obtain ⟨h1,rfl,rfl⟩:=h
  have hv':=h1.symm ▸ hv
  exact qS.stepIf hgd hd hv'.1 hb (fun hbt=>wK hT hs (hv'.2 hbt)) (hf k)
 split at h
 ·split at h
  ·rename_i hs
   simp only [Option.some.injEq,Prod.mk.injEq] at h
   obtain ⟨h1,rfl,rfl⟩:=h
   have hv':=h1.symm ▸ hv
   exact qS.stepIfT hgd hd hv'.1 hb (wG hT hs hv'.2) (hf k)
  cases h
 simp only [Option.some.injEq,Prod.mk.injEq] at h
 obtain ⟨h1,rfl,rfl⟩:=h
 have hv':=h1.symm ▸ hv
 exact qS.stepIfF hgd hd hv' hb (hf k)
def qFW (C:Know) (T:Tab) (G:qM) (ks:List Nat) (o:Oper) (st:St) (orc:List PD):Option (Prop × St × List PD):=vW C T G (St.keep ks) o st orc
def qFV (C:Know) (T:Tab) (G:qM) (ks:List Nat) (o:Oper) (d:Nat) (pol:Bool) (st:St) (orc:List PD):Option (Prop × St × List PD):=vV C T G (St.keep ks) o d pol st orc
def keepIf (ks:List Nat) (st:St):St:=match ks with
 | []=>st
 | _::_=>st.keep ks
theorem qS.keepIf {ops:Array Oper} {l:List Oper} (ks:List Nat) (k:qS P G ops Q l (keepIf ks st)):qS P G ops Q l st:=by
 cases ks with
 | nil=>exact k
 | cons a r=>exact qS.keep _ k
theorem qS.one (hT : TOK P T) (ks : List Nat) (orc : List PD) {ops : Array Oper} {o : Oper} {rest : List Oper} {v : Know → Prop} {orc' : List PD} (h : ∀ C, qFW C T G ks o st orc = some (v C, st', orc')) (hv : v (kn P G)) (hgd : o.guard = none)
  (k:qS P G ops Q rest st'):qS P G ops Q (o::rest) st:=qS.oneF hT (qS.keep ks) h hv hgd k
theorem qS.oneIf (hT : TOK P T) (ks : List Nat) (orc : List PD) (d : Nat) {ops : Array Oper} {o : Oper} {rest : List Oper} {j : Nat} {pol : Bool} {v : Know → Prop} {orc' : List PD} (h : ∀ C, qFV C T G ks o d pol st orc = some (v C, st', orc')) (hv : v (kn P G))
  (hgd:o.guard=some (j,pol)) (hd:(ops[j]?).bind (·.dst)=some d) (k:qS P G ops Q rest st'):qS P G ops Q (o::rest) st:=qS.oneIfF hT d (qS.keep ks) h hv hgd hd k
theorem qS.stepK (ks:List Nat) {ops:Array Oper} {o:Oper} {rest:List Oper} {x:V} (hgd:o.guard=none) (h:qO P G o st x st1) (hk:(st1.put o.dst x).keep ks=st') (k:qS P G ops Q rest st'):qS P G ops Q (o::rest) st :=
 qS.step hgd h (qS.keep ks (hk ▸ k))
def qB (P:Program) (G:qM) (ops:Array Oper) (Q:Exit→St→Prop) (l:List Oper) (st:St) (_:List PD):Prop:=qS P G ops Q l st
theorem qB.nil {ops:Array Oper} {orc:List PD} (h:Q .normal st):qB P G ops Q [] st orc:=qS.nil h
theorem qB.one (hT : TOK P T) (ks : List Nat) {orc : List PD} {ops : Array Oper} {o : Oper} {rest : List Oper} {v : Know → Prop} {orc' : List PD} (h : ∀ C, qFW C T G ks o st orc = some (v C, st', orc')) (hv : v (kn P G)) (hgd : o.guard = none)
  (k:qB P G ops Q rest st' orc'):qB P G ops Q (o::rest) st orc:=qS.one hT ks orc h hv hgd k
theorem qB.oneIf (hT : TOK P T) (ks : List Nat) {orc : List PD} (d : Nat) {ops : Array Oper} {o : Oper} {rest : List Oper} {j : Nat} {pol : Bool} {v : Know → Prop} {orc' : List PD} (h : ∀ C, qFV C T G ks o d pol st orc = some (v C, st', orc')) (hv : v (kn P G))
  (hgd:o.guard=some (j,pol)) (hd:(ops[j]?).bind (·.dst)=some d) (k:qB P G ops Q rest st' orc'):qB P G ops Q (o::rest) st orc:=qS.oneIf hT ks orc d h hv hgd hd k
theorem s1 (hT : TOK P T) (ks : List Nat) {orc : List PD} {ops : Array Oper} {o : Oper} {rest : List Oper} {v : Know → Prop} {orc' : List PD} (k : qB P G ops Q rest st' orc')
  (h:∀ C,qFW C T G ks o st orc=some (v C,st',orc'):=by intro C; conv=>lhs; simp) (hv:v (kn P G):=by first | with_reducible exact True.intro | omega | simp | (simp +contextual; omega)) (hgd:o.guard=none:=by rfl):qB P G ops Q (o::rest) st orc:=qS.one hT ks orc h hv hgd k
theorem s2 (hT : TOK P T) (ks : List Nat) (d : Nat) {orc : List PD} {ops : Array Oper} {o : Oper} {rest : List Oper} {j : Nat} {pol : Bool} {v : Know → Prop} {orc' : List PD} (hgd : o.guard = some (j, pol)) (hd : (ops[j]?).bind (·.dst) = some d) (k : qB P G ops Q rest st' orc')
  (h:∀ C,qFV C T G ks o d pol st orc=some (v C,st',orc'):=by intro C; conv=>lhs; simp) (hv:v (kn P G):=by first | with_reducible exact True.intro | omega | simp | (simp +contextual; omega)):qB P G ops Q (o::rest) st orc:=qS.oneIf hT ks orc d h hv hgd hd k
def kX (P:Program) (G:qM) (ops:Array Oper) (Q:Exit→St→Prop) (l:List Oper) (st:St) (_:List PD) (_:List (List Nat)):Prop:=qS P G ops Q l st
theorem qB.run (kss:List (List Nat)) {orc:List PD} {ops:Array Oper} {l:List Oper} (h:kX P G ops Q l st orc kss):qB P G ops Q l st orc:=h
theorem qG {kss:List (List Nat)} {orc:List PD} {ops:Array Oper} {l:List Oper} (h:qB P G ops Q l st orc):kX P G ops Q l st orc kss:=h
theorem qA {kss:List (List Nat)} {ops:Array Oper} {orc:List PD} (h:Q .normal st):kX P G ops Q [] st orc kss:=qS.nil h
theorem rgz (orc:List PD) (kss:List (List Nat)) {id:Nat} {l:List Oper} (h:kX P G l.toArray Q l st orc kss):AW P G (.region id l.toArray false) Q st:=AW.region h
theorem rgn (orc:List PD) (kss:List (List Nat)) {id:Nat} {l:List Oper} {b:Code} (h:kX P G l.toArray (andThen (AW P G b Q) Q) l st orc kss):AW P G (.seq (.region id l.toArray false) b) Q st:=AW.seq (AW.region h)
theorem op1 (hT : TOK P T) {ks : List Nat} {kss : List (List Nat)} {orc : List PD} {ops : Array Oper} {o : Oper} {rest : List Oper} {v : Know → Prop} {orc' : List PD} (k : kX P G ops Q rest st' orc' kss) (hgd : o.guard = none := by rfl)
  (h:∀ C,vW C T G (keepIf ks) o st orc=some (v C,st',orc'):=by intro C; conv=>lhs; simp) (hv:v (kn P G):=by first | with_reducible exact True.intro | omega | simp | (simp +contextual; omega)) :
  kX P G ops Q (o::rest) st orc (ks::kss):=qS.oneF hT (qS.keepIf ks) h hv hgd k
theorem op2 (hT : TOK P T) {ks : List Nat} {kss : List (List Nat)} {d : Nat} {orc : List PD} {ops : Array Oper} {o : Oper} {rest : List Oper} {j : Nat} {pol : Bool} {v : Know → Prop} {orc' : List PD} (k : kX P G ops Q rest st' orc' kss) (hgd : o.guard = some (j, pol) := by rfl) (hd : (ops[j]?).bind (·.dst) = some d := by rfl)
  (h:∀ C,vV C T G (keepIf ks) o d pol st orc=some (v C,st',orc'):=by intro C; conv=>lhs; simp) (hv:v (kn P G):=by first | with_reducible exact True.intro | omega | simp | (simp +contextual; omega)):kX P G ops Q (o::rest) st orc (ks::kss):=qS.oneIfF hT d (qS.keepIf ks) h hv hgd hd k
theorem ai {a b:Prop} (x:a) (y:b):a∧b:=⟨x,y⟩
theorem oq1 (hT : TOK P T) {ks : List Nat} {kss : List (List Nat)} {orc : List PD} {ops : Array Oper} {o : Oper} {rest : List Oper} {v : Know → Prop} {orc' : List PD} {A : Prop} (hA : A) (k : kX P G ops Q rest st' orc' kss) (hgd : o.guard = none := by rfl)
    (h:∀ C,vW C T G (keepIf ks) o st orc=some (v C,st',orc'):=by intro C; conv=>lhs; simp) (hv:A→v (kn P G):=by intro hA; first | with_reducible exact True.intro | exact hA | exact hA.1 | exact hA.2 | exact hA.2.1 | exact hA.2.2 | (simpa using hA; done) | omega | simp | (simp +contextual; omega)) :
    kX P G ops Q (o::rest) st orc (ks::kss):=qS.oneF hT (qS.keepIf ks) h (hv hA) hgd k
theorem oq2 (hT : TOK P T) {ks : List Nat} {kss : List (List Nat)} {d : Nat} {orc : List PD} {ops : Array Oper} {o : Oper} {rest : List Oper} {j : Nat} {pol : Bool} {v : Know → Prop} {orc' : List PD} {A : Prop} (hA : A) (k : kX P G ops Q rest st' orc' kss) (hgd : o.guard = some (j, pol) := by rfl) (hd : (ops[j]?).bind (·.dst) = some d := by rfl)
    (h:∀ C,vV C T G (keepIf ks) o d pol st orc=some (v C,st',orc'):=by intro C; conv=>lhs; simp) (hv:A→v (kn P G):=by intro hA; first | with_reducible exact True.intro | exact hA | exact hA.1 | exact hA.2 | exact hA.2.1 | exact hA.2.2 | (simpa using hA; done) | omega | simp | (simp +contextual; omega)):kX P G ops Q (o::rest) st orc (ks::kss):=qS.oneIfF hT d (qS.keepIf ks) h (hv hA) hgd hd k
theorem cnd {c:Operand} {x y:Code} {p:Prop} {b:Bool} (h1:b=true→AW P G x Q st) (h2:b=false→AW P G y Q st) (hc:st.arg G c=(p,.p (.bool b)):=by conv=>lhs; simp) (hp:p:=by exact trivial):AW P G (.cond c x y) Q st:=AW.cond hc hp h1 h2
theorem qB.stepK (ks:List Nat) {orc:List PD} {ops:Array Oper} {o:Oper} {rest:List Oper} {x:V} (h:qO P G o st x st1) (hk:(st1.put o.dst x).keep ks=st') (hgd:o.guard=none) (k:qB P G ops Q rest st' orc):qB P G ops Q (o::rest) st orc :=
 qS.stepK ks hgd h hk k
theorem AW.seqRegionO (orc:List PD) {id:Nat} {l:List Oper} {b:Code} (h:qB P G l.toArray (andThen (AW P G b Q) Q) l st orc):AW P G (.seq (.region id l.toArray false) b) Q st:=AW.seq (AW.region h)
def qT (i:Nat):List V→List (Nat × V)
 | []=>[]
 | x::xs=>(i,x)::qT (i+1) xs
theorem qAO:∀ (xs:List V) (i j:Nat),zP j (qT i xs)=if i≤j then xs.getD (j-i) .dead else .dead
 | [],i,j=>by simp [qT,zP]
 | x::xs,i,j=>by
  simp only [qT,zP,qAO xs]
  by_cases h:i=j
  ·subst h; simp
  rw [if_neg h]
  by_cases h2:i+1≤j
  ·rw [if_pos h2,if_pos (by omega),show j-i=(j-(i+1))+1 by omega]; simp
  rw [if_neg h2,if_neg (by omega)]
theorem qAB (xs:List V) (n:Nat) (h:xs.length≤n):xs++List.replicate (n-xs.length) .dead=qZ n (qT 0 xs):=by
 apply List.ext_getElem?
 intro i
 rw [jQ,qAO,List.getElem?_append]
 simp only [Nat.zero_le,if_true,Nat.sub_zero]
 by_cases h1:i<xs.length
 ·rw [if_pos h1,if_pos (by omega)]; simp [h1]
 rw [if_neg h1]
 by_cases h2:i<n
 ·rw [if_pos h2]; simp [show i-xs.length<n-xs.length by omega,List.getD_eq_getElem?_getD,List.getElem?_eq_none (show xs.length≤i by omega)]
 rw [if_neg h2]; simp [show ¬ i-xs.length<n-xs.length by omega]
theorem AFn.introU (hT : TOK P T) {f : FuncId} {fn : Func} {c : Code} {args : List PD} {r : PD} (hf : P.funcs[f]? = some fn) (hn : (fn.name == "runtime.NumGoroutine") = false) (hb : fn.body = some c) (hl : args.length.ble fn.ntmps = true)
  (h:AW P G c (Fin T fn.results.toList r) ⟨qZ fn.ntmps (qT 0 (args.map .p)),[],[],0⟩):AFn P G f args r:=by
 refine AFn.intro hT hf hn hb ?_
 have:=qAB (args.map V.p) fn.ntmps (by simpa using Nat.le_of_ble_eq_true hl)
 simp only [List.length_map] at this
 rw [St.start,this]; exact h
theorem AX.introU (hT : TOK P T) {f : FuncId} {fn : Func} {c : Code} {xs : List V} {H : List (Nat × Box)} {r : V} {ps : List Nat} {H' : List (Nat × Box)} (base : Nat) (hf : P.funcs[f]? = some fn)
  (hn : (fn.name == "runtime.NumGoroutine") = false) (hb : fn.body = some c) (hl : xs.length.ble fn.ntmps = true) (h : AW P G c (qKZ T fn.results.toList r ps H') ⟨qZ fn.ntmps (qT 0 xs), H.map (·.1), H, base⟩) : AX P G f xs H r ps H' := by
 refine AX.intro hT base hf hn hb ?_
 rw [St.startX,qAB xs fn.ntmps (Nat.le_of_ble_eq_true hl)]; exact h
attribute [simp] qGJ qFW qFV vW vV keepIf zP qHI qCX qAR qAM leA qGH St.keep qT
end
theorem jE {T:Tab} {rs:List ResultVar} {r:PD} {st:St} {l:List V} (h:vX T st rs=some (True,l):=by (conv=>lhs; simp)) (k:V.fits st.H (qCQ l) r:=by simp):Fin T rs r .ret st:=⟨.inr rfl,_,_,h,trivial,k⟩
theorem zG {T : Tab} {rs : List ResultVar} {r : V} {ps : List Nat} {H' : List (Nat × Box)} {st : St} {l : List V} (h : vX T st rs = some (True, l) := by (conv => lhs; simp)) (k : VLe (qCQ l) r := by simp) (a : ∀ i ∈ ps, i ∈ st.pins := by simp) (b : ∀ x ∈ H', x ∈ st.H := by simp)
  (c:(H'.map (·.1)).Nodup:=by simp):qKZ T rs r ps H' .ret st:=⟨.inr rfl,_,_,h,trivial,k,a,b,c⟩
theorem vN {T : Tab} {rs : List ResultVar} {r : V} {ps : List Nat} {H' : List (Nat × Box)} {st : St} {l : List V} (h : vX T st rs = some (True, l) := by (conv => lhs; simp)) (k : VLe (qCQ l) r := by simp) (a : ∀ i ∈ ps, i ∈ st.pins := by simp) (b : ∀ x ∈ H', x ∈ st.H := by simp)
  (c:(H'.map (·.1)).Nodup:=by simp):qKZ T rs r ps H' .normal st:=⟨.inl rfl,_,_,h,trivial,k,a,b,c⟩
section
variable {P:Program} {T:Tab} {G:qM} {Q:Exit→St→Prop} {st st':St}
theorem qB.freeze {ops:Array Oper} {l:List Oper} {orc:List PD} (i:Nat) (h:st.freeze i=st') (k:qB P G ops Q l st' orc):qB P G ops Q l st orc:=fun x M μ tmps w hg r=>by
 subst h
 obtain ⟨M',r'⟩:=r.freeze i
 exact k x M' μ tmps w hg r'
theorem qB.take {ops:Array Oper} {l:List Oper} {orc:List PD} (i j:Nat) (h:(st.kill j).ren i j=st') (k:qB P G ops Q l st' orc):qB P G ops Q l st orc :=
 fun x M _ tmps w hg r=>(h ▸ k) x M _ tmps w hg ((r.kill j).ren (xX st j))
def wY:List (Option Nat)→List V→List V
 | some sz::l,.nilsl::xs => .p (.sl sz [])::wY l xs
 | _::l,x::xs=>x::wY l xs
 | [],xs=>xs
 | _,[]=>[]
theorem uA:∀ (l:List (Option Nat)) (xs:List V),(wY l xs).length=xs.length
 | [],xs=>by simp [wY]
 | none::l,[]=>by simp [wY]
 | some sz::l,[]=>by simp [wY]
 | none::l,x::xs=>by simp [wY,uA l xs]
 | some sz::l,x::xs=>by cases x <;> simp [wY,uA l xs]
theorem qHG {M:qQ} {μ:Mu} {u:Value} (sz:Nat) (h:RV M μ u .nilsl):RV M μ u (.p (.sl sz [])):=by
 cases h
 exact .p (.sl 0 0 rfl (Nat.le_refl _) (by simp [maxLen]) (fun h=>(h rfl).elim) (fun i e h=>by simp at h) (fun i e j h=>by simp at h) (fun i e j d u h=>by simp at h))
theorem uB {M:qQ} {μ:Mu}:∀ (l:List (Option Nat)) (xs:List V) (i:Nat) (y:V),(wY l xs)[i]?=some y→∃ x,xs[i]?=some x∧∀ u,RV M μ u x→RV M μ u y
 | [],xs,i,y,h=>⟨y,by simpa [wY] using h,fun _ h=>h⟩
 | none::l,[],i,y,h=>by simp [wY] at h
 | some sz::l,[],i,y,h=>by simp [wY] at h
 | none::l,x::xs,i,y,h=>by
  cases i with
  | zero=>simp [wY] at h; subst h; exact ⟨x,by simp,fun _ h=>h⟩
  | succ i=>simp [wY] at h; obtain ⟨x',h1,h2⟩:=uB (M:=M) (μ:=μ) l xs i y h; exact ⟨x',by simpa using h1,h2⟩
 | some sz::l,x::xs,i,y,h=>by
  cases i with
  | zero =>
   refine ⟨x,by simp, ?_⟩
   cases x <;> simp [wY] at h <;> subst h <;> first | exact fun _ h=>qHG sz h | exact fun _ h=>h
  | succ i =>
   have h':(wY l xs)[i]?=some y:=by cases x <;> simpa [wY] using h
   obtain ⟨x',h1,h2⟩:=uB (M:=M) (μ:=μ) l xs i y h'
   exact ⟨x',by simpa using h1,h2⟩
def St.fill (st:St) (id:Nat) (l:List (Option Nat)):St :=
 match zD id st.H with
 | some (.vars e cs)=>{ st with H:=zK id (.vars e (wY l cs)) st.H }
 | _=>st
theorem Rel.fill {c:Ctx} {M:qQ} {μ:Mu} {tmps:Array Value} {w:World} (r:Rel c M μ st tmps w) (id:Nat) (l:List (Option Nat)):Rel c M μ (st.fill id l) tmps w:=by
 unfold St.fill
 split
 ·rename_i e cs hb
  have hm:=qU hb
  have hk:qK id st.H=true:=qF.2 ⟨_,hm⟩
  have hbx:=r.box id _ hm
  cases hbx with
  | @vars _ _ b arr h0 h1 h2 h3 h4 =>
   refine r.write hk h0 ⟨rfl,rfl,rfl,rfl,fun _ _=>rfl⟩ (.vars h0 h1 (by rw [uA]; exact h2) h3 fun i u y hu hy => ?_)
   obtain ⟨x,hx,hxy⟩:=uB (M:=M) (μ:=μ) l cs i y hy
   exact hxy u (h4 i u x hu hx)
 exact r
theorem qB.fill {ops:Array Oper} {l:List Oper} {orc:List PD} (id:Nat) (ns:List (Option Nat)) (h:st.fill id ns=st') (k:qB P G ops Q l st' orc):qB P G ops Q l st orc :=
 fun x M μ tmps w hg r=>(h ▸ k) x M μ tmps w hg (r.fill id ns)
attribute [simp] St.fill wY
end
section
variable {P:Program} {T:Tab} {G:qM} {Q:Exit→St→Prop} {st st':St}
theorem AW.beginE {c : Code} (d id : Nat) (e : TypeId) (sz : Nat) (hd : st.tmps[d]? = some .nilsl) (hf : st.fresh id = true) (h : ({ st with tmps := st.tmps.set d (.ms id), H := (id, .row e sz []) :: st.H } : St) = st')
  (k:AW P G c Q st'):AW P G c Q st:=AW.begin (d:=d) (id:=id) e sz hd hf (h ▸ k)
theorem AW.renE {c:Code} (i j:Nat) (hf:st.fresh j=true) (h:st.ren i j=st') (k:AW P G c Q st'):AW P G c Q st:=AW.ren i j hf (h ▸ k)
theorem AW.freezeE {c:Code} (i:Nat) (h:st.freeze i=st') (k:AW P G c Q st'):AW P G c Q st:=fun x M μ tmps w hg r=>by
 subst h
 obtain ⟨M',r'⟩:=r.freeze i
 exact k x M' μ tmps w hg r'
end
section
variable {P:Program} {T:Tab} {G:qM} {Q:Exit→St→Prop} {st st':St}
theorem Rel.plain {M : qQ} {w : World} {args : List PD} {vs : Array Value} (μ : Mu) (hmem : ∀ b o v, M b o = some v → w.cell? ⟨b, o, none⟩ = some v) (hsz : vs.size = args.length) (hrd : ∀ (i : Nat) u d, vs[i]? = some u → args[i]? = some d → Rd M u d) :
  Rel ⟨w.heap.size,w,M,μ,zL μ []⟩ M μ ⟨args.map .p,[],[],0⟩ vs w:=by
 refine ⟨hmem,fun _ _ _ h=>h,fun _ _ _=>rfl,⟨by simpa using hsz,fun i u x hu hx => ?_⟩,(fun _ h=>by cases h),(fun _ _ h=>by cases h),List.nodup_nil,(fun _ _ _ h=>by simp [qK] at h),(fun _ _ h=>by simp [qK] at h),Nat.le_refl _,Kept.refl _ _⟩
 rw [List.getElem?_map] at hx
 obtain ⟨d,hd,rfl⟩:=Option.map_eq_some_iff.1 hx
 exact .p (hrd i u d hu hd)
theorem qB.same {ops:Array Oper} {l:List Oper} {orc:List PD} (h:st=st') (k:qB P G ops Q l st' orc):qB P G ops Q l st orc:=h ▸ k
end
abbrev qKU:=List Nat × List Nat × List Nat × List Nat
def ndB:List (Nat × Box)→Bool
 | []=>true
 | (i,_)::r => !qK i r && ndB r
theorem zC:∀ {H:List (Nat × Box)},ndB H=true→(H.map (·.1)).Nodup
 | [],_=>List.nodup_nil
 | (i,b)::r,h=>by
  simp only [ndB,Bool.and_eq_true,Bool.not_eq_true'] at h
  simp only [List.map_cons,List.nodup_cons]
  exact ⟨fun hm=>by rw [zA.2 hm] at h; exact absurd h.1 (by simp),zC h.2⟩
section
variable {P:Program} {T:Tab} {G:qM} {Q:Exit→St→Prop} {st st' st0:St} {ops rest:List Oper} {tss:List (List Nat)} {ts:List Nat} {orc orc':List PD} {acc:yR} {o:Oper} {sm:qKU} {v:Know→Prop}
def DGo (P:Program) (T:Tab) (G:qM) (ops:List Oper) (st0:St) (l:List Oper) (tss:List (List Nat)) (st:St) (orc:List PD) (acc:yR) (K:yR→St→Prop):Prop :=
 ∃ v sms st1,zN (kn P G) T G ops st0 l tss st orc=some (v,sms,st1)∧v∧K (acc++sms.map Sm.sum) st1
variable {K:yR→St→Prop}
theorem DGo.nil (hn:ndB st.H=true) (k:K acc st):DGo P T G ops st0 [] tss st orc acc K:=⟨_,_,_,rfl,zC hn,by simpa using k⟩
def uO (C:Know) (T:Tab) (G:qM) (st0:St) (ts:List Nat) (o:Oper) (st:St) (orc:List PD):Option (Prop × St × qKU × List PD) :=
 match jG C T G st0 (st.small ts) o orc with
 | some (v,s,orc')=>some (v,st.after o.dst s,s.sum,orc')
 | none=>none
theorem DGo.one (h : ∀ C, uO C T G st0 ts o st orc = some (v C, st', sm, orc')) (hv : v (kn P G)) (hgd : o.guard = none) (hn : ndB st.H = true) (k : DGo P T G ops st0 rest tss st' orc' (acc ++ [sm]) K) :
  DGo P T G ops st0 (o::rest) (ts::tss) st orc acc K:=by
 have h1:=h (kn P G)
 unfold uO at h1
 split at h1
 ·rename_i v1 s orc1 h2
  simp only [Option.some.injEq,Prod.mk.injEq] at h1
  obtain ⟨h3,rfl,rfl,rfl⟩:=h1
  obtain ⟨w,sms,st1,e,hw,hk⟩:=k
  exact ⟨(st.H.map (·.1)).Nodup∧v1∧w,s::sms,st1,by simp only [zN,hgd,h2,e],⟨zC hn,h3 ▸ hv,hw⟩,by simpa using hk⟩
 cases h1
def qAY (C:Know) (T:Tab) (G:qM) (st0:St) (ts:List Nat) (o:Oper) (d:Nat) (pol:Bool) (st:St) (orc:List PD):Option (Prop × St × qKU × List PD) :=
 match V.guards pol (st.tmps.getD d .dead) with
 | none=>none
 | some b=>match yY C T G (st.small ts) o.op orc with
  | some (v,x,orc') =>
   let s:Sm:=⟨.when b x,(st.small ts).H,(st.small ts).H,(st.small ts).pins,[],true⟩
   some (d<st.tmps.length∧(b=true→v)∧s.good,st.after o.dst s,s.sum,orc')
  | none=>match b with
   | true=>match jG C T G st0 (st.small ts) o orc with
    | some (v,s,orc')=>some (d<st.tmps.length∧v,st.after o.dst { s with x := .when true s.x },({ s with x := .when true s.x }:Sm).sum,orc')
    | none=>none
   | false =>
    let s:Sm:=⟨.when false (.p (.bool false)),[],[],[],[],true⟩
    some (d<st.tmps.length,st.after o.dst s,s.sum,orc)
theorem DGo.oneIf (d : Nat) {j : Nat} {pol : Bool} (h : ∀ C, qAY C T G st0 ts o d pol st orc = some (v C, st', sm, orc')) (hv : v (kn P G)) (hgd : o.guard = some (j, pol)) (hd : (ops[j]?).bind (·.dst) = some d) (hn : ndB st.H = true)
  (k:DGo P T G ops st0 rest tss st' orc' (acc++[sm]) K):DGo P T G ops st0 (o::rest) (ts::tss) st orc acc K:=by
 have h1:=h (kn P G)
 have hn':=zC hn
 unfold qAY at h1
 obtain ⟨w,sms,st1,e,hw,hk⟩:=k
 split at h1
 ·cases h1
 rename_i b hb
 split at h1
 ·rename_i v1 x orc1 h2
  simp only [Option.some.injEq,Prod.mk.injEq] at h1
  obtain ⟨h3,rfl,rfl,rfl⟩:=h1
  have hv':=h3.symm ▸ hv
  exact ⟨(st.H.map (·.1)).Nodup∧d<st.tmps.length∧(b=true→v1)∧Sm.good ⟨.when b x,(st.small ts).H,(st.small ts).H,(st.small ts).pins,[],true⟩∧w,(⟨.when b x,(st.small ts).H,(st.small ts).H,(st.small ts).pins,[],true⟩:Sm)::sms,st1,by simp only [zN,hgd,hd,hb,h2,e],⟨hn',hv'.1,hv'.2.1,hv'.2.2,hw⟩,by simpa using hk⟩
 rename_i h2
 split at h1
 ·split at h1
  ·rename_i v1 s orc1 h4
   simp only [Option.some.injEq,Prod.mk.injEq] at h1
   obtain ⟨h3,rfl,rfl,rfl⟩:=h1
   have hv':=h3.symm ▸ hv
   exact ⟨(st.H.map (·.1)).Nodup∧d<st.tmps.length∧v1∧w,({ s with x := .when true s.x }:Sm)::sms,st1,by simp only [zN,hgd,hd,hb,h2,h4,e],⟨hn',hv'.1,hv'.2,hw⟩,by simpa using hk⟩
  cases h1
 simp only [Option.some.injEq,Prod.mk.injEq] at h1
 obtain ⟨h3,rfl,rfl,rfl⟩:=h1
 have hv':=h3.symm ▸ hv
 exact ⟨(st.H.map (·.1)).Nodup∧d<st.tmps.length∧w,(⟨.when false (.p (.bool false)),[],[],[],[],true⟩:Sm)::sms,st1,by simp only [zN,hgd,hd,hb,h2,e],⟨hn',hv',hw⟩,by simpa using hk⟩
theorem d1 (k : DGo P T G ops st0 rest tss st' orc' (acc ++ [sm]) K) (h : ∀ C, uO C T G st0 ts o st orc = some (v C, st', sm, orc') := by intro C; conv => lhs; simp) (hv : v (kn P G) := by first | with_reducible exact True.intro | omega | simp | (simp +contextual; omega)) (hgd : o.guard = none := by rfl) (hn : ndB st.H = true := by kernel_rfl) :
  DGo P T G ops st0 (o::rest) (ts::tss) st orc acc K:=DGo.one h hv hgd hn k
theorem d2 (d : Nat) {j : Nat} {pol : Bool} (hgd : o.guard = some (j, pol)) (hd : (ops[j]?).bind (·.dst) = some d) (k : DGo P T G ops st0 rest tss st' orc' (acc ++ [sm]) K) (h : ∀ C, qAY C T G st0 ts o d pol st orc = some (v C, st', sm, orc') := by intro C; conv => lhs; simp) (hv : v (kn P G) := by first | with_reducible exact True.intro | omega | simp | (simp +contextual; omega))
  (hn:ndB st.H=true:=by kernel_rfl):DGo P T G ops st0 (o::rest) (ts::tss) st orc acc K:=DGo.oneIf d h hv hgd hd hn k
theorem dq1 {A : Prop} (hA : A) (k : DGo P T G ops st0 rest tss st' orc' (acc ++ [sm]) K) (h : ∀ C, uO C T G st0 ts o st orc = some (v C, st', sm, orc') := by intro C; conv => lhs; simp) (hv : A → v (kn P G) := by intro hA; first | with_reducible exact True.intro | exact hA | exact hA.1 | exact hA.2 | exact hA.2.1 | exact hA.2.2 | (simpa using hA; done) | omega | simp | (simp +contextual; omega)) (hgd : o.guard = none := by rfl) (hn : ndB st.H = true := by kernel_rfl) :
    DGo P T G ops st0 (o::rest) (ts::tss) st orc acc K:=DGo.one h (hv hA) hgd hn k
theorem dq2 (d : Nat) {j : Nat} {pol : Bool} (hgd : o.guard = some (j, pol)) (hd : (ops[j]?).bind (·.dst) = some d) {A : Prop} (hA : A) (k : DGo P T G ops st0 rest tss st' orc' (acc ++ [sm]) K) (h : ∀ C, qAY C T G st0 ts o d pol st orc = some (v C, st', sm, orc') := by intro C; conv => lhs; simp) (hv : A → v (kn P G) := by intro hA; first | with_reducible exact True.intro | exact hA | exact hA.1 | exact hA.2 | exact hA.2.1 | exact hA.2.2 | (simpa using hA; done) | omega | simp | (simp +contextual; omega))
    (hn:ndB st.H=true:=by kernel_rfl):DGo P T G ops st0 (o::rest) (ts::tss) st orc acc K:=DGo.oneIf d h (hv hA) hgd hd hn k
theorem AW.drawS (hT : TOK P T) (hmix : P.follows .mixedOrders = true) (m : Nat) (tss : List (List Nat)) (orc orc2 : List PD) {id : Nat} {l : List Oper} (hchk : zE l m tss = true)
  (h:DGo P T G l st (l.take m) tss st orc [] fun sums st1=>kE l m sums=true∧qB P G l.toArray Q (l.drop m) st1 orc2):AW P G (.region id l.toArray true) Q st:=by
 obtain ⟨v,sms,st1,e,hv,hc,hl⟩:=h
 exact AW.runDraw0 hT hmix m tss orc hchk e hv (by simpa using hc) hl
theorem AW.seqDrawS (hT : TOK P T) (hmix : P.follows .mixedOrders = true) (m : Nat) (tss : List (List Nat)) (orc orc2 : List PD) {id : Nat} {l : List Oper} {b : Code} (hchk : zE l m tss = true)
  (h:DGo P T G l st (l.take m) tss st orc [] fun sums st1=>kE l m sums=true∧qB P G l.toArray (andThen (AW P G b Q) Q) (l.drop m) st1 orc2):AW P G (.seq (.region id l.toArray true) b) Q st :=
 AW.seq (AW.drawS hT hmix m tss orc orc2 hchk h)
attribute [simp] uO qAY Sm.sum Sm.foot Sm.tch Sm.refs
end
end Go.Proofs.YtcfcfblbpnpclaaGreatDoor.Sy
