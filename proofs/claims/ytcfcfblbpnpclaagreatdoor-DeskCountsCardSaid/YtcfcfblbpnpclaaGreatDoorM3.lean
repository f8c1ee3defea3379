import Derived.Test.YtcfcfblbpnpclaaGreatDoorM2
namespace Go.Proofs.YtcfcfblbpnpclaaGreatDoor.Sy
open Go
def zM (i:Nat):List (Nat × V)→V
 | [] => .dead
 | (j,x)::r=>if j=i then x else zM i r
def qHB (i:Nat) (v:V):List (Nat × V)→List (Nat × V)
 | []=>[(i,v)]
 | (j,x)::r=>if j=i then (j,v)::r else (j,x)::qHB i v r
def qDA (f:V→V):List (Nat × V)→List (Nat × V)
 | []=>[]
 | (j,x)::r=>(j,f x)::qDA f r
def qAS (ks:List Nat):List (Nat × V)→List (Nat × V)
 | []=>[]
 | (j,x)::r=>if ks.contains j then (j,x)::qAS ks r else qAS ks r
def qAK (id:Nat):List (Nat × V)→Bool
 | []=>true
 | (_,x)::r=>V.noRef id x && qAK id r
def leA (as:List (Nat × V)):List (Nat × V)→Prop
 | []=>True
 | (j,x)::r=>VLe (zM j as) x∧leA as r
def zA (n:Nat) (as:List (Nat × V)):List V:=(List.range n).map fun i=>zM i as
@[simp] theorem qDS (n:Nat) (as:List (Nat × V)):(zA n as).length=n:=by simp [zA]
@[simp] theorem jI (n:Nat) (as:List (Nat × V)) (i:Nat):(zA n as)[i]?=if i<n then some (zM i as) else none:=by
 simp only [zA,List.getElem?_map]
 by_cases h:i<n <;> simp [h]
theorem vI (n:Nat) (as:List (Nat × V)) (i:Nat):(zA n as).getD i .dead=if i<n then zM i as else .dead:=by
 rw [List.getD_eq_getElem?_getD,jI]
 split <;> rfl
@[simp] theorem qJU {n i:Nat} {as:List (Nat × V)} (h:i<(zA n as).length):(zA n as)[i]=zM i as:=by simp [zA]
theorem qCG (i j:Nat) (v:V):∀ as,zM j (qHB i v as)=if i=j then v else zM j as
 | []=>by simp [qHB,zM]
 | (k,x)::r=>by
  simp only [qHB]
  split
  ·rename_i h
   subst h
   simp only [zM]
   by_cases h2:k=j <;> simp [h2]
  rename_i h
  simp only [zM,qCG i j v r]
  by_cases h2:k=j
  ·subst h2; simp [Ne.symm h]
  simp [h2]
@[simp] theorem qML (n:Nat) (as:List (Nat × V)) (i:Nat) (v:V):(zA n as).set i v=zA n (qHB i v as):=by
 apply List.ext_getElem?
 intro k
 rw [List.getElem?_set,jI,jI,qDS,qCG]
 by_cases h:i=k
 ·subst h; simp
 simp [h]
theorem qCF {f:V→V} (hf:f .dead = .dead) (i:Nat):∀ as,zM i (qDA f as)=f (zM i as)
 | []=>by simp [qDA,zM,hf]
 | (k,x)::r=>by
  simp only [qDA,zM,qCF hf i r]
  split <;> rfl
theorem uU {f:V→V} (hf:f .dead = .dead) (n:Nat) (as:List (Nat × V)):(zA n as).map f=zA n (qDA f as):=by
 simp only [zA,List.map_map]
 exact List.map_congr_left fun i _=>(qCF hf i as).symm
def qGC (id:Nat) (x:V):V:=match V.noRef id x with
 | true=>x
 | false => .dead
theorem qCI (id:Nat):∀ l,kF id l=l.map (qGC id)
 | []=>rfl
 | x::xs=>by
  simp only [kF,List.map_cons,qCI id xs]
  congr 1
@[simp] theorem qMA (id n:Nat) (as:List (Nat × V)):kF id (zA n as)=zA n (qDA (qGC id) as):=by
 rw [qCI,uU (by simp [qGC,V.noRef])]
@[simp] theorem qMN (id:Nat) (d:PD) (n:Nat) (as:List (Nat × V)):V.frzL id d (zA n as)=zA n (qDA (V.frz id d) as):=by
 rw [V.frzL_eq,uU (by simp only [V.frz])]
@[simp] theorem qMM (i j n:Nat) (as:List (Nat × V)):V.renL i j (zA n as)=zA n (qDA (V.ren i j) as):=by
 rw [V.renL_eq,uU (by simp only [V.ren])]
theorem uD {id:Nat} (i:Nat):∀ {as:List (Nat × V)},qAK id as=true→V.noRef id (zM i as)=true
 | [],_=>by simp [zM,V.noRef]
 | (k,x)::r,h=>by
  simp only [qAK,Bool.and_eq_true] at h
  simp only [zM]
  split
  ·exact h.1
  exact uD i h.2
@[simp] theorem qEU {id n:Nat} {as:List (Nat × V)} (h:qAK id as=true):V.noRefL id (zA n as)=true:=by
 have key:∀ (as:List V),(∀ x∈as,V.noRef id x=true)→V.noRefL id as=true:=by
  intro as
  induction as with
  | nil=>intro _; simp only [V.noRefL]
  | cons a as ih =>
   intro h
   simp only [V.noRefL,Bool.and_eq_true]
   exact ⟨h a (by simp),ih fun x hx=>h x (by simp [hx])⟩
 refine key _ fun x hx => ?_
 obtain ⟨i,_,rfl⟩:=List.mem_map.1 hx
 exact uD i h
@[simp] theorem qHM {id n:Nat}:V.noRefL id (zA n [])=true:=qEU rfl
theorem xJ (ks:List Nat) (i:Nat):∀ as,zM i (qAS ks as)=if ks.contains i then zM i as else .dead
 | []=>by simp [qAS,zM]
 | (k,x)::r=>by
  simp only [qAS]
  split
  ·rename_i h
   simp only [zM,xJ ks i r]
   by_cases h2:k=i
   ·subst h2; rw [if_pos rfl,if_pos rfl,if_pos h]
   rw [if_neg h2,if_neg h2]
  rename_i h
  rw [xJ ks i r]
  simp only [zM]
  by_cases h2:k=i
  ·subst h2; rw [if_neg h,if_neg h]
  rw [if_neg h2]
@[simp] theorem qLZ (n:Nat) (as:List (Nat × V)) (ks:List Nat):qW (zA n as) ks=zA n (qAS ks as):=by
 apply List.ext_getElem?
 intro i
 rw [qCD,jI,qDS,xJ,vI]
 by_cases h:i<n <;> simp [h]
theorem qDL:∀ {as bs:List V},as.length=bs.length→(∀ t,VLe (as.getD t .dead) (bs.getD t .dead))→zT as bs
 | [],[],_,_=>trivial
 | [],_::_,h,_=>by simp at h
 | _::_,[],h,_=>by simp at h
 | a::as,b::bs,h,h'=>⟨by simpa using h' 0,qDL (by simpa using h) fun t=>by have:=h' (t+1); simpa using this⟩
theorem qEE {as:List (Nat × V)} (i:Nat):∀ {bs:List (Nat × V)},leA as bs→VLe (zM i as) (zM i bs)
 | [],_=>by simp only [zM]; exact .dead _
 | (k,x)::r,h=>by
  simp only [zM]
  split
  ·rename_i e; subst e; exact h.1
  exact qEE i h.2
theorem qM {n:Nat} {as bs:List (Nat × V)} (h:leA as bs):zT (zA n as) (zA n bs):=by
 refine qDL (by simp) fun t => ?_
 rw [vI,vI]
 split
 ·exact qEE t h
 exact VLe.refl _
def qGE (k1:List Nat) (H:List (Nat × Box)):List (Nat × Box):=wB (k1++zP (wB (k1++zP (wB k1 H)) H)) H
def St.keep (ks:List Nat) (st:St):St:=⟨qW st.tmps ks,st.pins,qGE ((ks.flatMap fun t=>V.ids (st.tmps.getD t .dead))++st.pins) st.H,st.base⟩
theorem qKJ (l:List V) (ks:List Nat):zT l (qW l ks):=by
 refine qDL (by rw [kN]) fun t => ?_
 rw [kV]
 split
 ·exact VLe.refl _
 exact VLe.dead _
theorem Rel.keep {c:Ctx} {M:qQ} {μ:Mu} {st:St} {tmps:Array Value} {w:World} (r:Rel c M μ st tmps w) (ks:List Nat):Rel c M μ (st.keep ks) tmps w :=
 r.weaken ⟨qKJ _ _,rfl,fun _ hp=>xZ hp,(List.Sublist.map _ (zU _ _)).nodup r.nodup⟩
section
variable {P:Program} {T:Tab} {G:qK} {Q:Exit→St→Prop} {st st1 st2 st':St}
theorem AW.keep {c:Code} (ks:List Nat) (k:AW P G c Q (st.keep ks)):AW P G c Q st:=fun x M μ tmps w hg r=>k x M μ tmps w hg (r.keep ks)
theorem qS.keep {ops:Array Oper} {l:List Oper} (ks:List Nat) (k:qS P G ops Q l (st.keep ks)):qS P G ops Q l st:=fun x M μ tmps w hg r=>k x M μ tmps w hg (r.keep ks)
def vP (C:Know) (T:Tab) (G:qK) (f:St→St) (o:Oper) (st:St) (orc:List PD):Option (Prop × St × List PD) :=
 match kD G st o.op with
 | none=>none
 | some st=>match kB C T G st o.op orc with
  | some (v,x,orc')=>some (v,f (st.put o.dst x),orc')
  | none=>match uG C T G st o orc with
   | some (v,x,st',orc')=>some (v,f (st'.put o.dst x),orc')
   | none=>none
def vO (C:Know) (T:Tab) (G:qK) (f:St→St) (o:Oper) (d:Nat) (pol:Bool) (st:St) (orc:List PD):Option (Prop × St × List PD) :=
 match kD G st o.op with
 | none=>none
 | some st=>match V.guards pol (st.tmps.getD d .dead) with
  | none=>none
  | some b=>match kB C T G st o.op orc with
   | some (v,x,orc')=>some (d<st.tmps.length∧(b=true→v),f (st.put o.dst (.when b x)),orc')
   | none=>match b with
    | true=>match uG C T G st o orc with
     | some (v,x,st',orc')=>some (d<st.tmps.length∧v,f (st'.put o.dst (.when true x)),orc')
     | none=>none
    | false=>some (d<st.tmps.length,f (st.put o.dst (.when false (.p (.bool false)))),orc)
theorem qS.oneF (hT : TOK P T) {f : St → St} {ops : Array Oper} {o : Oper} {rest : List Oper} {v : Know → Prop} {orc orc' : List PD} (hf : ∀ {l s}, qS P G ops Q l (f s) → qS P G ops Q l s) (h : ∀ C, vP C T G f o st orc = some (v C, st', orc')) (hv : v (kn P G)) (hgd : o.guard = none)
  (k:qS P G ops Q rest st'):qS P G ops Q (o::rest) st:=by
 have h:=h (kn P G)
 unfold vP at h
 split at h
 ·cases h
 rename_i st0 hpre
 refine qS.pre hpre ?_
 split at h
 ·rename_i hs
  simp only [Option.some.injEq,Prod.mk.injEq] at h
  obtain ⟨rfl,rfl,rfl⟩:=h
  exact qS.step hgd (wH hT hs hv) (hf k)
 split at h
 ·rename_i hs
  simp only [Option.some.injEq,Prod.mk.injEq] at h
  obtain ⟨rfl,rfl,rfl⟩:=h
  exact qS.step hgd (wC hT hs hv) (hf k)
 cases h
theorem qS.oneIfF (hT : TOK P T) {f : St → St} (d : Nat) {ops : Array Oper} {o : Oper} {rest : List Oper} {j : Nat} {pol : Bool} {v : Know → Prop} {orc orc' : List PD} (hf : ∀ {l s}, qS P G ops Q l (f s) → qS P G ops Q l s) (h : ∀ C, vO C T G f o d pol st orc = some (v C, st', orc')) (hv : v (kn P G))
  (hgd:o.guard=some (j,pol)) (hd:(ops[j]?).bind (·.dst)=some d) (k:qS P G ops Q rest st'):qS P G ops Q (o::rest) st:=by
 have h:=h (kn P G)
 unfold vO at h
 split at h
 ·cases h
 rename_i st0 hpre
 refine qS.pre hpre ?_
 split at h
 ·cases h
 rename_i b hb
 split at h
 ·rename_i hs
  simp only [Option.some.injEq,Prod.mk.injEq] at h
  obtain ⟨h1,rfl,rfl⟩:=h
  have hv':=h1.symm ▸ hv
  exact qS.stepIf hgd hd hv'.1 hb (fun hbt=>wH hT hs (hv'.2 hbt)) (hf k)
 split at h
 ·split at h
  ·rename_i hs
   simp only [Option.some.injEq,Prod.mk.injEq] at h
   obtain ⟨h1,rfl,rfl⟩:=h
   have hv':=h1.symm ▸ hv
   exact qS.stepIfT hgd hd hv'.1 hb (wC hT hs hv'.2) (hf k)
  cases h
 simp only [Option.some.injEq,Prod.mk.injEq] at h
 obtain ⟨h1,rfl,rfl⟩:=h
 have hv':=h1.symm ▸ hv
 exact qS.stepIfF hgd hd hv' hb (hf k)
def qFS (C:Know) (T:Tab) (G:qK) (ks:List Nat) (o:Oper) (st:St) (orc:List PD):Option (Prop × St × List PD):=vP C T G (St.keep ks) o st orc
def qFR (C:Know) (T:Tab) (G:qK) (ks:List Nat) (o:Oper) (d:Nat) (pol:Bool) (st:St) (orc:List PD):Option (Prop × St × List PD):=vO C T G (St.keep ks) o d pol st orc
def keepIf (ks:List Nat) (st:St):St:=match ks with
 | []=>st
 | _::_=>st.keep ks
theorem qS.keepIf {ops:Array Oper} {l:List Oper} (ks:List Nat) (k:qS P G ops Q l (keepIf ks st)):qS P G ops Q l st:=by
 cases ks with
 | nil=>exact k
 | cons a r=>exact qS.keep _ k
theorem qS.one (hT : TOK P T) (ks : List Nat) (orc : List PD) {ops : Array Oper} {o : Oper} {rest : List Oper} {v : Know → Prop} {orc' : List PD} (h : ∀ C, qFS C T G ks o st orc = some (v C, st', orc')) (hv : v (kn P G)) (hgd : o.guard = none)
  (k:qS P G ops Q rest st'):qS P G ops Q (o::rest) st:=qS.oneF hT (qS.keep ks) h hv hgd k
theorem qS.oneIf (hT : TOK P T) (ks : List Nat) (orc : List PD) (d : Nat) {ops : Array Oper} {o : Oper} {rest : List Oper} {j : Nat} {pol : Bool} {v : Know → Prop} {orc' : List PD} (h : ∀ C, qFR C T G ks o d pol st orc = some (v C, st', orc')) (hv : v (kn P G))
  (hgd:o.guard=some (j,pol)) (hd:(ops[j]?).bind (·.dst)=some d) (k:qS P G ops Q rest st'):qS P G ops Q (o::rest) st:=qS.oneIfF hT d (qS.keep ks) h hv hgd hd k
theorem qS.stepK (ks:List Nat) {ops:Array Oper} {o:Oper} {rest:List Oper} {x:V} (hgd:o.guard=none) (h:qO P G o st x st1) (hk:(st1.put o.dst x).keep ks=st') (k:qS P G ops Q rest st'):qS P G ops Q (o::rest) st :=
 qS.step hgd h (qS.keep ks (hk ▸ k))
def qC (P:Program) (G:qK) (ops:Array Oper) (Q:Exit→St→Prop) (l:List Oper) (st:St) (_:List PD):Prop:=qS P G ops Q l st
theorem qC.nil {ops:Array Oper} {orc:List PD} (h:Q .normal st):qC P G ops Q [] st orc:=qS.nil h
theorem qC.one (hT : TOK P T) (ks : List Nat) {orc : List PD} {ops : Array Oper} {o : Oper} {rest : List Oper} {v : Know → Prop} {orc' : List PD} (h : ∀ C, qFS C T G ks o st orc = some (v C, st', orc')) (hv : v (kn P G)) (hgd : o.guard = none)
  (k:qC P G ops Q rest st' orc'):qC P G ops Q (o::rest) st orc:=qS.one hT ks orc h hv hgd k
theorem qC.oneIf (hT : TOK P T) (ks : List Nat) {orc : List PD} (d : Nat) {ops : Array Oper} {o : Oper} {rest : List Oper} {j : Nat} {pol : Bool} {v : Know → Prop} {orc' : List PD} (h : ∀ C, qFR C T G ks o d pol st orc = some (v C, st', orc')) (hv : v (kn P G))
  (hgd:o.guard=some (j,pol)) (hd:(ops[j]?).bind (·.dst)=some d) (k:qC P G ops Q rest st' orc'):qC P G ops Q (o::rest) st orc:=qS.oneIf hT ks orc d h hv hgd hd k
theorem s1 (hT : TOK P T) (ks : List Nat) {orc : List PD} {ops : Array Oper} {o : Oper} {rest : List Oper} {v : Know → Prop} {orc' : List PD} (k : qC P G ops Q rest st' orc')
  (h:∀ C,qFS C T G ks o st orc=some (v C,st',orc'):=by intro C; conv=>lhs; simp) (hv:v (kn P G):=by first | with_reducible exact True.intro | omega | simp | (simp +contextual; omega)) (hgd:o.guard=none:=by rfl):qC P G ops Q (o::rest) st orc:=qS.one hT ks orc h hv hgd k
theorem s2 (hT : TOK P T) (ks : List Nat) (d : Nat) {orc : List PD} {ops : Array Oper} {o : Oper} {rest : List Oper} {j : Nat} {pol : Bool} {v : Know → Prop} {orc' : List PD} (hgd : o.guard = some (j, pol)) (hd : (ops[j]?).bind (·.dst) = some d) (k : qC P G ops Q rest st' orc')
  (h:∀ C,qFR C T G ks o d pol st orc=some (v C,st',orc'):=by intro C; conv=>lhs; simp) (hv:v (kn P G):=by first | with_reducible exact True.intro | omega | simp | (simp +contextual; omega)):qC P G ops Q (o::rest) st orc:=qS.oneIf hT ks orc d h hv hgd hd k
def kS (P:Program) (G:qK) (ops:Array Oper) (Q:Exit→St→Prop) (l:List Oper) (st:St) (_:List PD) (_:List (List Nat)):Prop:=qS P G ops Q l st
theorem qC.run (kss:List (List Nat)) {orc:List PD} {ops:Array Oper} {l:List Oper} (h:kS P G ops Q l st orc kss):qC P G ops Q l st orc:=h
theorem qG {kss:List (List Nat)} {orc:List PD} {ops:Array Oper} {l:List Oper} (h:qC P G ops Q l st orc):kS P G ops Q l st orc kss:=h
theorem qA {kss:List (List Nat)} {ops:Array Oper} {orc:List PD} (h:Q .normal st):kS P G ops Q [] st orc kss:=qS.nil h
theorem rgz (orc:List PD) (kss:List (List Nat)) {id:Nat} {l:List Oper} (h:kS P G l.toArray Q l st orc kss):AW P G (.region id l.toArray false) Q st:=AW.region h
theorem rgn (orc:List PD) (kss:List (List Nat)) {id:Nat} {l:List Oper} {b:Code} (h:kS P G l.toArray (andThen (AW P G b Q) Q) l st orc kss):AW P G (.seq (.region id l.toArray false) b) Q st:=AW.seq (AW.region h)
theorem op1 (hT : TOK P T) {ks : List Nat} {kss : List (List Nat)} {orc : List PD} {ops : Array Oper} {o : Oper} {rest : List Oper} {v : Know → Prop} {orc' : List PD} (k : kS P G ops Q rest st' orc' kss) (hgd : o.guard = none := by rfl)
  (h:∀ C,vP C T G (keepIf ks) o st orc=some (v C,st',orc'):=by intro C; conv=>lhs; simp) (hv:v (kn P G):=by first | with_reducible exact True.intro | omega | simp | (simp +contextual; omega)) :
  kS P G ops Q (o::rest) st orc (ks::kss):=qS.oneF hT (qS.keepIf ks) h hv hgd k
theorem op2 (hT : TOK P T) {ks : List Nat} {kss : List (List Nat)} {d : Nat} {orc : List PD} {ops : Array Oper} {o : Oper} {rest : List Oper} {j : Nat} {pol : Bool} {v : Know → Prop} {orc' : List PD} (k : kS P G ops Q rest st' orc' kss) (hgd : o.guard = some (j, pol) := by rfl) (hd : (ops[j]?).bind (·.dst) = some d := by rfl)
  (h:∀ C,vO C T G (keepIf ks) o d pol st orc=some (v C,st',orc'):=by intro C; conv=>lhs; simp) (hv:v (kn P G):=by first | with_reducible exact True.intro | omega | simp | (simp +contextual; omega)):kS P G ops Q (o::rest) st orc (ks::kss):=qS.oneIfF hT d (qS.keepIf ks) h hv hgd hd k
theorem ai {a b:Prop} (x:a) (y:b):a∧b:=⟨x,y⟩
theorem oq1 (hT : TOK P T) {ks : List Nat} {kss : List (List Nat)} {orc : List PD} {ops : Array Oper} {o : Oper} {rest : List Oper} {v : Know → Prop} {orc' : List PD} {A : Prop} (hA : A) (k : kS P G ops Q rest st' orc' kss) (hgd : o.guard = none := by rfl)
    (h:∀ C,vP C T G (keepIf ks) o st orc=some (v C,st',orc'):=by intro C; conv=>lhs; simp) (hv:A→v (kn P G):=by intro hA; first | with_reducible exact True.intro | exact hA | exact hA.1 | exact hA.2 | exact hA.2.1 | exact hA.2.2 | (simpa using hA; done) | omega | simp | (simp +contextual; omega)) :
    kS P G ops Q (o::rest) st orc (ks::kss):=qS.oneF hT (qS.keepIf ks) h (hv hA) hgd k
theorem oq2 (hT : TOK P T) {ks : List Nat} {kss : List (List Nat)} {d : Nat} {orc : List PD} {ops : Array Oper} {o : Oper} {rest : List Oper} {j : Nat} {pol : Bool} {v : Know → Prop} {orc' : List PD} {A : Prop} (hA : A) (k : kS P G ops Q rest st' orc' kss) (hgd : o.guard = some (j, pol) := by rfl) (hd : (ops[j]?).bind (·.dst) = some d := by rfl)
    (h:∀ C,vO C T G (keepIf ks) o d pol st orc=some (v C,st',orc'):=by intro C; conv=>lhs; simp) (hv:A→v (kn P G):=by intro hA; first | with_reducible exact True.intro | exact hA | exact hA.1 | exact hA.2 | exact hA.2.1 | exact hA.2.2 | (simpa using hA; done) | omega | simp | (simp +contextual; omega)):kS P G ops Q (o::rest) st orc (ks::kss):=qS.oneIfF hT d (qS.keepIf ks) h (hv hA) hgd hd k
theorem cnd {c:Operand} {x y:Code} {p:Prop} {b:Bool} (h1:b=true→AW P G x Q st) (h2:b=false→AW P G y Q st) (hc:st.arg G c=(p,.p (.bool b)):=by conv=>lhs; simp) (hp:p:=by exact trivial):AW P G (.cond c x y) Q st:=AW.cond hc hp h1 h2
theorem qC.stepK (ks:List Nat) {orc:List PD} {ops:Array Oper} {o:Oper} {rest:List Oper} {x:V} (h:qO P G o st x st1) (hk:(st1.put o.dst x).keep ks=st') (hgd:o.guard=none) (k:qC P G ops Q rest st' orc):qC P G ops Q (o::rest) st orc :=
 qS.stepK ks hgd h hk k
theorem AW.seqRegionO (orc:List PD) {id:Nat} {l:List Oper} {b:Code} (h:qC P G l.toArray (andThen (AW P G b Q) Q) l st orc):AW P G (.seq (.region id l.toArray false) b) Q st:=AW.seq (AW.region h)
def qV (i:Nat):List V→List (Nat × V)
 | []=>[]
 | x::xs=>(i,x)::qV (i+1) xs
theorem qAO:∀ (xs:List V) (i j:Nat),zM j (qV i xs)=if i≤j then xs.getD (j-i) .dead else .dead
 | [],i,j=>by simp [qV,zM]
 | x::xs,i,j=>by
  simp only [qV,zM,qAO xs]
  by_cases h:i=j
  ·subst h; simp
  rw [if_neg h]
  by_cases h2:i+1≤j
  ·rw [if_pos h2,if_pos (by omega),show j-i=(j-(i+1))+1 by omega]; simp
  rw [if_neg h2,if_neg (by omega)]
theorem uZ (xs:List V) (n:Nat) (h:xs.length≤n):xs++List.replicate (n-xs.length) .dead=zA n (qV 0 xs):=by
 apply List.ext_getElem?
 intro i
 rw [jI,qAO,List.getElem?_append]
 simp only [Nat.zero_le,if_true,Nat.sub_zero]
 by_cases h1:i<xs.length
 ·rw [if_pos h1,if_pos (by omega)]; simp [h1]
 rw [if_neg h1]
 by_cases h2:i<n
 ·rw [if_pos h2]; simp [show i-xs.length<n-xs.length by omega,List.getD_eq_getElem?_getD,List.getElem?_eq_none (show xs.length≤i by omega)]
 rw [if_neg h2]; simp [show ¬ i-xs.length<n-xs.length by omega]
theorem AFn.introU (hT : TOK P T) {f : FuncId} {fn : Func} {c : Code} {args : List PD} {r : PD} (hf : P.funcs[f]? = some fn) (hn : (fn.name == "runtime.NumGoroutine") = false) (hb : fn.body = some c) (hl : args.length.ble fn.ntmps = true)
  (h:AW P G c (Fin T fn.results.toList r) ⟨zA fn.ntmps (qV 0 (args.map .p)),[],[],0⟩):AFn P G f args r:=by
 refine AFn.intro hT hf hn hb ?_
 have:=uZ (args.map V.p) fn.ntmps (by simpa using Nat.le_of_ble_eq_true hl)
 simp only [List.length_map] at this
 rw [St.start,this]; exact h
theorem AX.introU (hT : TOK P T) {f : FuncId} {fn : Func} {c : Code} {xs : List V} {H : List (Nat × Box)} {r : V} {ps : List Nat} {H' : List (Nat × Box)} (base : Nat) (hf : P.funcs[f]? = some fn)
  (hn : (fn.name == "runtime.NumGoroutine") = false) (hb : fn.body = some c) (hl : xs.length.ble fn.ntmps = true) (h : AW P G c (qLB T fn.results.toList r ps H') ⟨zA fn.ntmps (qV 0 xs), H.map (·.1), H, base⟩) : AX P G f xs H r ps H' := by
 refine AX.intro hT base hf hn hb ?_
 rw [St.startX,uZ xs fn.ntmps (Nat.le_of_ble_eq_true hl)]; exact h
attribute [simp] qGE qFS qFR vP vO keepIf zM qHB qDA qAS qAK leA qGC St.keep qV
end
theorem xP {T:Tab} {rs:List ResultVar} {r:PD} {st:St} {l:List V} (h:vR T st rs=some (True,l):=by (conv=>lhs; simp)) (k:V.fits st.H (qCS l) r:=by simp):Fin T rs r .ret st:=⟨.inr rfl,_,_,h,trivial,k⟩
theorem zG {T : Tab} {rs : List ResultVar} {r : V} {ps : List Nat} {H' : List (Nat × Box)} {st : St} {l : List V} (h : vR T st rs = some (True, l) := by (conv => lhs; simp)) (k : VLe (qCS l) r := by simp) (a : ∀ i ∈ ps, i ∈ st.pins := by simp) (b : ∀ x ∈ H', x ∈ st.H := by simp)
  (c:(H'.map (·.1)).Nodup:=by simp):qLB T rs r ps H' .ret st:=⟨.inr rfl,_,_,h,trivial,k,a,b,c⟩
theorem vD {T : Tab} {rs : List ResultVar} {r : V} {ps : List Nat} {H' : List (Nat × Box)} {st : St} {l : List V} (h : vR T st rs = some (True, l) := by (conv => lhs; simp)) (k : VLe (qCS l) r := by simp) (a : ∀ i ∈ ps, i ∈ st.pins := by simp) (b : ∀ x ∈ H', x ∈ st.H := by simp)
  (c:(H'.map (·.1)).Nodup:=by simp):qLB T rs r ps H' .normal st:=⟨.inl rfl,_,_,h,trivial,k,a,b,c⟩
section
variable {P:Program} {T:Tab} {G:qK} {Q:Exit→St→Prop} {st st':St}
theorem qC.freeze {ops:Array Oper} {l:List Oper} {orc:List PD} (i:Nat) (h:st.freeze i=st') (k:qC P G ops Q l st' orc):qC P G ops Q l st orc:=fun x M μ tmps w hg r=>by
 subst h
 obtain ⟨M',r'⟩:=r.freeze i
 exact k x M' μ tmps w hg r'
theorem qC.take {ops:Array Oper} {l:List Oper} {orc:List PD} (i j:Nat) (h:(st.kill j).ren i j=st') (k:qC P G ops Q l st' orc):qC P G ops Q l st orc :=
 fun x M _ tmps w hg r=>(h ▸ k) x M _ tmps w hg ((r.kill j).ren (xO st j))
def wT:List (Option Nat)→List V→List V
 | some sz::l,.nilsl::xs => .p (.sl sz [])::wT l xs
 | _::l,x::xs=>x::wT l xs
 | [],xs=>xs
 | _,[]=>[]
theorem vU:∀ (l:List (Option Nat)) (xs:List V),(wT l xs).length=xs.length
 | [],xs=>by simp [wT]
 | none::l,[]=>by simp [wT]
 | some sz::l,[]=>by simp [wT]
 | none::l,x::xs=>by simp [wT,vU l xs]
 | some sz::l,x::xs=>by cases x <;> simp [wT,vU l xs]
theorem qGZ {M:qQ} {μ:Mu} {u:Value} (sz:Nat) (h:RV M μ u .nilsl):RV M μ u (.p (.sl sz [])):=by
 cases h
 exact .p (.sl 0 0 rfl (Nat.le_refl _) (by simp [maxLen]) (fun h=>(h rfl).elim) (fun i e h=>by simp at h) (fun i e j h=>by simp at h) (fun i e j d u h=>by simp at h))
theorem vV {M:qQ} {μ:Mu}:∀ (l:List (Option Nat)) (xs:List V) (i:Nat) (y:V),(wT l xs)[i]?=some y→∃ x,xs[i]?=some x∧∀ u,RV M μ u x→RV M μ u y
 | [],xs,i,y,h=>⟨y,by simpa [wT] using h,fun _ h=>h⟩
 | none::l,[],i,y,h=>by simp [wT] at h
 | some sz::l,[],i,y,h=>by simp [wT] at h
 | none::l,x::xs,i,y,h=>by
  cases i with
  | zero=>simp [wT] at h; subst h; exact ⟨x,by simp,fun _ h=>h⟩
  | succ i=>simp [wT] at h; obtain ⟨x',h1,h2⟩:=vV (M:=M) (μ:=μ) l xs i y h; exact ⟨x',by simpa using h1,h2⟩
 | some sz::l,x::xs,i,y,h=>by
  cases i with
  | zero =>
   refine ⟨x,by simp, ?_⟩
   cases x <;> simp [wT] at h <;> subst h <;> first | exact fun _ h=>qGZ sz h | exact fun _ h=>h
  | succ i =>
   have h':(wT l xs)[i]?=some y:=by cases x <;> simpa [wT] using h
   obtain ⟨x',h1,h2⟩:=vV (M:=M) (μ:=μ) l xs i y h'
   exact ⟨x',by simpa using h1,h2⟩
def St.fill (st:St) (id:Nat) (l:List (Option Nat)):St :=
 match zC id st.H with
 | some (.vars e cs)=>{ st with H:=zH id (.vars e (wT l cs)) st.H }
 | _=>st
theorem Rel.fill {c:Ctx} {M:qQ} {μ:Mu} {tmps:Array Value} {w:World} (r:Rel c M μ st tmps w) (id:Nat) (l:List (Option Nat)):Rel c M μ (st.fill id l) tmps w:=by
 unfold St.fill
 split
 ·rename_i e cs hb
  have hm:=qT hb
  have hk:qI id st.H=true:=qF.2 ⟨_,hm⟩
  have hbx:=r.box id _ hm
  cases hbx with
  | @vars _ _ b arr h0 h1 h2 h3 h4 =>
   refine r.write hk h0 ⟨rfl,rfl,rfl,rfl,fun _ _=>rfl⟩ (.vars h0 h1 (by rw [vU]; exact h2) h3 fun i u y hu hy => ?_)
   obtain ⟨x,hx,hxy⟩:=vV (M:=M) (μ:=μ) l cs i y hy
   exact hxy u (h4 i u x hu hx)
 exact r
theorem qC.fill {ops:Array Oper} {l:List Oper} {orc:List PD} (id:Nat) (ns:List (Option Nat)) (h:st.fill id ns=st') (k:qC P G ops Q l st' orc):qC P G ops Q l st orc :=
 fun x M μ tmps w hg r=>(h ▸ k) x M μ tmps w hg (r.fill id ns)
attribute [simp] St.fill wT
end
section
variable {P:Program} {T:Tab} {G:qK} {Q:Exit→St→Prop} {st st':St}
theorem AW.beginE {c : Code} (d id : Nat) (e : TypeId) (sz : Nat) (hd : st.tmps[d]? = some .nilsl) (hf : st.fresh id = true) (h : ({ st with tmps := st.tmps.set d (.ms id), H := (id, .row e sz []) :: st.H } : St) = st')
  (k:AW P G c Q st'):AW P G c Q st:=AW.begin (d:=d) (id:=id) e sz hd hf (h ▸ k)
theorem AW.renE {c:Code} (i j:Nat) (hf:st.fresh j=true) (h:st.ren i j=st') (k:AW P G c Q st'):AW P G c Q st:=AW.ren i j hf (h ▸ k)
theorem AW.freezeE {c:Code} (i:Nat) (h:st.freeze i=st') (k:AW P G c Q st'):AW P G c Q st:=fun x M μ tmps w hg r=>by
 subst h
 obtain ⟨M',r'⟩:=r.freeze i
 exact k x M' μ tmps w hg r'
end
section
variable {P:Program} {T:Tab} {G:qK} {Q:Exit→St→Prop} {st st':St}
theorem Rel.plain {M : qQ} {w : World} {args : List PD} {vs : Array Value} (μ : Mu) (hmem : ∀ b o v, M b o = some v → w.cell? ⟨b, o, none⟩ = some v) (hsz : vs.size = args.length) (hrd : ∀ (i : Nat) u d, vs[i]? = some u → args[i]? = some d → Rd M u d) :
  Rel ⟨w.heap.size,w,M,μ,zI μ []⟩ M μ ⟨args.map .p,[],[],0⟩ vs w:=by
 refine ⟨hmem,fun _ _ _ h=>h,fun _ _ _=>rfl,⟨by simpa using hsz,fun i u x hu hx => ?_⟩,(fun _ h=>by cases h),(fun _ _ h=>by cases h),List.nodup_nil,(fun _ _ _ h=>by simp [qI] at h),(fun _ _ h=>by simp [qI] at h),Nat.le_refl _,Kept.refl _ _⟩
 rw [List.getElem?_map] at hx
 obtain ⟨d,hd,rfl⟩:=Option.map_eq_some_iff.1 hx
 exact .p (hrd i u d hu hd)
theorem qC.same {ops:Array Oper} {l:List Oper} {orc:List PD} (h:st=st') (k:qC P G ops Q l st' orc):qC P G ops Q l st orc:=h ▸ k
end
abbrev qKV:=List Nat × List Nat × List Nat × List Nat
def ndB:List (Nat × Box)→Bool
 | []=>true
 | (i,_)::r => !qI i r && ndB r
theorem zB:∀ {H:List (Nat × Box)},ndB H=true→(H.map (·.1)).Nodup
 | [],_=>List.nodup_nil
 | (i,b)::r,h=>by
  simp only [ndB,Bool.and_eq_true,Bool.not_eq_true'] at h
  simp only [List.map_cons,List.nodup_cons]
  exact ⟨fun hm=>by rw [qX.2 hm] at h; exact absurd h.1 (by simp),zB h.2⟩
section
variable {P:Program} {T:Tab} {G:qK} {Q:Exit→St→Prop} {st st' st0:St} {ops rest:List Oper} {tss:List (List Nat)} {ts:List Nat} {orc orc':List PD} {acc:yM} {o:Oper} {sm:qKV} {v:Know→Prop}
def DGo (P:Program) (T:Tab) (G:qK) (ops:List Oper) (st0:St) (l:List Oper) (tss:List (List Nat)) (st:St) (orc:List PD) (acc:yM) (K:yM→St→Prop):Prop :=
 ∃ v sms st1,zK (kn P G) T G ops st0 l tss st orc=some (v,sms,st1)∧v∧K (acc++sms.map Sm.sum) st1
variable {K:yM→St→Prop}
theorem DGo.nil (hn:ndB st.H=true) (k:K acc st):DGo P T G ops st0 [] tss st orc acc K:=⟨_,_,_,rfl,zB hn,by simpa using k⟩
def uH (C:Know) (T:Tab) (G:qK) (st0:St) (ts:List Nat) (o:Oper) (st:St) (orc:List PD):Option (Prop × St × qKV × List PD) :=
 match kZ C T G st0 (st.small ts) o orc with
 | some (v,s,orc')=>some (v,st.after o.dst s,s.sum,orc')
 | none=>none
theorem DGo.one (h : ∀ C, uH C T G st0 ts o st orc = some (v C, st', sm, orc')) (hv : v (kn P G)) (hgd : o.guard = none) (hn : ndB st.H = true) (k : DGo P T G ops st0 rest tss st' orc' (acc ++ [sm]) K) :
  DGo P T G ops st0 (o::rest) (ts::tss) st orc acc K:=by
 have h1:=h (kn P G)
 unfold uH at h1
 split at h1
 ·rename_i v1 s orc1 h2
  simp only [Option.some.injEq,Prod.mk.injEq] at h1
  obtain ⟨h3,rfl,rfl,rfl⟩:=h1
  obtain ⟨w,sms,st1,e,hw,hk⟩:=k
  exact ⟨(st.H.map (·.1)).Nodup∧v1∧w,s::sms,st1,by simp only [zK,hgd,h2,e],⟨zB hn,h3 ▸ hv,hw⟩,by simpa using hk⟩
 cases h1
def qAY (C:Know) (T:Tab) (G:qK) (st0:St) (ts:List Nat) (o:Oper) (d:Nat) (pol:Bool) (st:St) (orc:List PD):Option (Prop × St × qKV × List PD) :=
 match V.guards pol (st.tmps.getD d .dead) with
 | none=>none
 | some b=>match yT C T G (st.small ts) o.op orc with
  | some (v,x,orc') =>
   let s:Sm:=⟨.when b x,(st.small ts).H,(st.small ts).H,(st.small ts).pins,[],true⟩
   some (d<st.tmps.length∧(b=true→v)∧s.good,st.after o.dst s,s.sum,orc')
  | none=>match b with
   | true=>match kZ C T G st0 (st.small ts) o orc with
    | some (v,s,orc')=>some (d<st.tmps.length∧v,st.after o.dst { s with x := .when true s.x },({ s with x := .when true s.x }:Sm).sum,orc')
    | none=>none
   | false =>
    let s:Sm:=⟨.when false (.p (.bool false)),[],[],[],[],true⟩
    some (d<st.tmps.length,st.after o.dst s,s.sum,orc)
theorem DGo.oneIf (d : Nat) {j : Nat} {pol : Bool} (h : ∀ C, qAY C T G st0 ts o d pol st orc = some (v C, st', sm, orc')) (hv : v (kn P G)) (hgd : o.guard = some (j, pol)) (hd : (ops[j]?).bind (·.dst) = some d) (hn : ndB st.H = true)
  (k:DGo P T G ops st0 rest tss st' orc' (acc++[sm]) K):DGo P T G ops st0 (o::rest) (ts::tss) st orc acc K:=by
 have h1:=h (kn P G)
 have hn':=zB hn
 unfold qAY at h1
 obtain ⟨w,sms,st1,e,hw,hk⟩:=k
 split at h1
 ·cases h1
 rename_i b hb
 split at h1
 ·rename_i v1 x orc1 h2
  simp only [Option.some.injEq,Prod.mk.injEq] at h1
  obtain ⟨h3,rfl,rfl,rfl⟩:=h1
  have hv':=h3.symm ▸ hv
  exact ⟨(st.H.map (·.1)).Nodup∧d<st.tmps.length∧(b=true→v1)∧Sm.good ⟨.when b x,(st.small ts).H,(st.small ts).H,(st.small ts).pins,[],true⟩∧w,(⟨.when b x,(st.small ts).H,(st.small ts).H,(st.small ts).pins,[],true⟩:Sm)::sms,st1,by simp only [zK,hgd,hd,hb,h2,e],⟨hn',hv'.1,hv'.2.1,hv'.2.2,hw⟩,by simpa using hk⟩
 rename_i h2
 split at h1
 ·split at h1
  ·rename_i v1 s orc1 h4
   simp only [Option.some.injEq,Prod.mk.injEq] at h1
   obtain ⟨h3,rfl,rfl,rfl⟩:=h1
   have hv':=h3.symm ▸ hv
   exact ⟨(st.H.map (·.1)).Nodup∧d<st.tmps.length∧v1∧w,({ s with x := .when true s.x }:Sm)::sms,st1,by simp only [zK,hgd,hd,hb,h2,h4,e],⟨hn',hv'.1,hv'.2,hw⟩,by simpa using hk⟩
  cases h1
 simp only [Option.some.injEq,Prod.mk.injEq] at h1
 obtain ⟨h3,rfl,rfl,rfl⟩:=h1
 have hv':=h3.symm ▸ hv
 exact ⟨(st.H.map (·.1)).Nodup∧d<st.tmps.length∧w,(⟨.when false (.p (.bool false)),[],[],[],[],true⟩:Sm)::sms,st1,by simp only [zK,hgd,hd,hb,h2,e],⟨hn',hv',hw⟩,by simpa using hk⟩
theorem d1 (k : DGo P T G ops st0 rest tss st' orc' (acc ++ [sm]) K) (h : ∀ C, uH C T G st0 ts o st orc = some (v C, st', sm, orc') := by intro C; conv => lhs; simp) (hv : v (kn P G) := by first | with_reducible exact True.intro | omega | simp | (simp +contextual; omega)) (hgd : o.guard = none := by rfl) (hn : ndB st.H = true := by kernel_rfl) :
  DGo P T G ops st0 (o::rest) (ts::tss) st orc acc K:=DGo.one h hv hgd hn k
theorem d2 (d : Nat) {j : Nat} {pol : Bool} (hgd : o.guard = some (j, pol)) (hd : (ops[j]?).bind (·.dst) = some d) (k : DGo P T G ops st0 rest tss st' orc' (acc ++ [sm]) K) (h : ∀ C, qAY C T G st0 ts o d pol st orc = some (v C, st', sm, orc') := by intro C; conv => lhs; simp) (hv : v (kn P G) := by first | with_reducible exact True.intro | omega | simp | (simp +contextual; omega))
  (hn:ndB st.H=true:=by kernel_rfl):DGo P T G ops st0 (o::rest) (ts::tss) st orc acc K:=DGo.oneIf d h hv hgd hd hn k
theorem dq1 {A : Prop} (hA : A) (k : DGo P T G ops st0 rest tss st' orc' (acc ++ [sm]) K) (h : ∀ C, uH C T G st0 ts o st orc = some (v C, st', sm, orc') := by intro C; conv => lhs; simp) (hv : A → v (kn P G) := by intro hA; first | with_reducible exact True.intro | exact hA | exact hA.1 | exact hA.2 | exact hA.2.1 | exact hA.2.2 | (simpa using hA; done) | omega | simp | (simp +contextual; omega)) (hgd : o.guard = none := by rfl) (hn : ndB st.H = true := by kernel_rfl) :
    DGo P T G ops st0 (o::rest) (ts::tss) st orc acc K:=DGo.one h (hv hA) hgd hn k
theorem dq2 (d : Nat) {j : Nat} {pol : Bool} (hgd : o.guard = some (j, pol)) (hd : (ops[j]?).bind (·.dst) = some d) {A : Prop} (hA : A) (k : DGo P T G ops st0 rest tss st' orc' (acc ++ [sm]) K) (h : ∀ C, qAY C T G st0 ts o d pol st orc = some (v C, st', sm, orc') := by intro C; conv => lhs; simp) (hv : A → v (kn P G) := by intro hA; first | with_reducible exact True.intro | exact hA | exact hA.1 | exact hA.2 | exact hA.2.1 | exact hA.2.2 | (simpa using hA; done) | omega | simp | (simp +contextual; omega))
    (hn:ndB st.H=true:=by kernel_rfl):DGo P T G ops st0 (o::rest) (ts::tss) st orc acc K:=DGo.oneIf d h (hv hA) hgd hd hn k
theorem AW.drawS (hT : TOK P T) (hmix : P.follows .mixedOrders = true) (m : Nat) (tss : List (List Nat)) (orc orc2 : List PD) {id : Nat} {l : List Oper} (hchk : zD l m tss = true)
  (h:DGo P T G l st (l.take m) tss st orc [] fun sums st1=>yY l m sums=true∧qC P G l.toArray Q (l.drop m) st1 orc2):AW P G (.region id l.toArray true) Q st:=by
 obtain ⟨v,sms,st1,e,hv,hc,hl⟩:=h
 exact AW.runDraw0 hT hmix m tss orc hchk e hv (by simpa using hc) hl
theorem AW.seqDrawS (hT : TOK P T) (hmix : P.follows .mixedOrders = true) (m : Nat) (tss : List (List Nat)) (orc orc2 : List PD) {id : Nat} {l : List Oper} {b : Code} (hchk : zD l m tss = true)
  (h:DGo P T G l st (l.take m) tss st orc [] fun sums st1=>yY l m sums=true∧qC P G l.toArray (andThen (AW P G b Q) Q) (l.drop m) st1 orc2):AW P G (.seq (.region id l.toArray true) b) Q st :=
 AW.seq (AW.drawS hT hmix m tss orc orc2 hchk h)
attribute [simp] uH qAY Sm.sum Sm.foot Sm.tch Sm.refs
end
end Go.Proofs.YtcfcfblbpnpclaaGreatDoor.Sy
