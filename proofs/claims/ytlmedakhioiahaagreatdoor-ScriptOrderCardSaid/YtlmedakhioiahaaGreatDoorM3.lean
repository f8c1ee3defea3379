import Derived.Test.YtlmedakhioiahaaGreatDoorM2
namespace Go.Proofs.YtlmedakhioiahaaGreatDoor.Sy
open Go
def zR (i:Nat):List (Nat × V)→V
 | [] => .dead
 | (j,x)::r=>if j=i then x else zR i r
def qFB (i:Nat) (v:V):List (Nat × V)→List (Nat × V)
 | []=>[(i,v)]
 | (j,x)::r=>if j=i then (j,v)::r else (j,x)::qFB i v r
def qQL (f:V→V):List (Nat × V)→List (Nat × V)
 | []=>[]
 | (j,x)::r=>(j,f x)::qQL f r
def qLX (ks:List Nat):List (Nat × V)→List (Nat × V)
 | []=>[]
 | (j,x)::r=>if ks.contains j then (j,x)::qLX ks r else qLX ks r
def qHJ (id:Nat):List (Nat × V)→Bool
 | []=>true
 | (_,x)::r=>V.noRef id x && qHJ id r
def leA (as:List (Nat × V)):List (Nat × V)→Prop
 | []=>True
 | (j,x)::r=>VLe (zR j as) x∧leA as r
def zI (n:Nat) (as:List (Nat × V)):List V:=(List.range n).map fun i=>zR i as
@[simp] theorem qSA (n:Nat) (as:List (Nat × V)):(zI n as).length=n:=by simp [zI]
@[simp] theorem qAM (n:Nat) (as:List (Nat × V)) (i:Nat):(zI n as)[i]?=if i<n then some (zR i as) else none:=by
 simp only [zI,List.getElem?_map]
 by_cases h:i<n <;> simp [h]
theorem qHB (n:Nat) (as:List (Nat × V)) (i:Nat):(zI n as).getD i .dead=if i<n then zR i as else .dead:=by
 rw [List.getD_eq_getElem?_getD,qAM]
 split <;> rfl
@[simp] theorem zGK {n i:Nat} {as:List (Nat × V)} (h:i<(zI n as).length):(zI n as)[i]=zR i as:=by simp [zI]
theorem qOK (i j:Nat) (v:V):∀ as,zR j (qFB i v as)=if i=j then v else zR j as
 | []=>by simp [qFB,zR]
 | (k,x)::r=>by
  simp only [qFB]
  split
  ·rename_i h
   subst h
   simp only [zR]
   by_cases h2:k=j <;> simp [h2]
  rename_i h
  simp only [zR,qOK i j v r]
  by_cases h2:k=j
  ·subst h2; simp [Ne.symm h]
  simp [h2]
@[simp] theorem zMF (n:Nat) (as:List (Nat × V)) (i:Nat) (v:V):(zI n as).set i v=zI n (qFB i v as):=by
 apply List.ext_getElem?
 intro k
 rw [List.getElem?_set,qAM,qAM,qSA,qOK]
 by_cases h:i=k
 ·subst h; simp
 simp [h]
theorem qOJ {f:V→V} (hf:f .dead = .dead) (i:Nat):∀ as,zR i (qQL f as)=f (zR i as)
 | []=>by simp [qQL,zR,hf]
 | (k,x)::r=>by
  simp only [qQL,zR,qOJ hf i r]
  split <;> rfl
theorem qKH {f:V→V} (hf:f .dead = .dead) (n:Nat) (as:List (Nat × V)):(zI n as).map f=zI n (qQL f as):=by
 simp only [zI,List.map_map]
 exact List.map_congr_left fun i _=>(qOJ hf i as).symm
def qYX (id:Nat) (x:V):V:=match V.noRef id x with
 | true=>x
 | false => .dead
theorem qOL (id:Nat):∀ l,qBZ id l=l.map (qYX id)
 | []=>rfl
 | x::xs=>by
  simp only [qBZ,List.map_cons,qOL id xs]
  congr 1
@[simp] theorem zLJ (id n:Nat) (as:List (Nat × V)):qBZ id (zI n as)=zI n (qQL (qYX id) as):=by
 rw [qOL,qKH (by simp [qYX,V.noRef])]
@[simp] theorem zMH (id:Nat) (d:PD) (n:Nat) (as:List (Nat × V)):V.frzL id d (zI n as)=zI n (qQL (V.frz id d) as):=by
 rw [V.frzL_eq,qKH (by simp only [V.frz])]
@[simp] theorem zMG (i j n:Nat) (as:List (Nat × V)):V.renL i j (zI n as)=zI n (qQL (V.ren i j) as):=by
 rw [V.renL_eq,qKH (by simp only [V.ren])]
theorem qIR {id:Nat} (i:Nat):∀ {as:List (Nat × V)},qHJ id as=true→V.noRef id (zR i as)=true
 | [],_=>by simp [zR,V.noRef]
 | (k,x)::r,h=>by
  simp only [qHJ,Bool.and_eq_true] at h
  simp only [zR]
  split
  ·exact h.1
  exact qIR i h.2
@[simp] theorem qKG {id n:Nat} {as:List (Nat × V)} (h:qHJ id as=true):V.noRefL id (zI n as)=true:=by
 have key:∀ (as:List V),(∀ x∈as,V.noRef id x=true)→V.noRefL id as=true:=by
  intro as
  induction as with
  | nil=>intro _; simp only [V.noRefL]
  | cons a as ih =>
   intro h
   simp only [V.noRefL,Bool.and_eq_true]
   exact ⟨h a (by simp),ih fun x hx=>h x (by simp [hx])⟩
 refine key _ fun x hx => ?_
 obtain ⟨i,_,rfl⟩:=List.mem_map.1 hx
 exact qIR i h
@[simp] theorem zCE {id n:Nat}:V.noRefL id (zI n [])=true:=qKG rfl
theorem qEU (ks:List Nat) (i:Nat):∀ as,zR i (qLX ks as)=if ks.contains i then zR i as else .dead
 | []=>by simp [qLX,zR]
 | (k,x)::r=>by
  simp only [qLX]
  split
  ·rename_i h
   simp only [zR,qEU ks i r]
   by_cases h2:k=i
   ·subst h2; rw [if_pos rfl,if_pos rfl,if_pos h]
   rw [if_neg h2,if_neg h2]
  rename_i h
  rw [qEU ks i r]
  simp only [zR]
  by_cases h2:k=i
  ·subst h2; rw [if_neg h,if_neg h]
  rw [if_neg h2]
@[simp] theorem zLI (n:Nat) (as:List (Nat × V)) (ks:List Nat):yL (zI n as) ks=zI n (qLX ks as):=by
 apply List.ext_getElem?
 intro i
 rw [qOH,qAM,qSA,qEU,qHB]
 by_cases h:i<n <;> simp [h]
theorem qRP:∀ {as bs:List V},as.length=bs.length→(∀ t,VLe (as.getD t .dead) (bs.getD t .dead))→yW as bs
 | [],[],_,_=>trivial
 | [],_::_,h,_=>by simp at h
 | _::_,[],h,_=>by simp at h
 | a::as,b::bs,h,h'=>⟨by simpa using h' 0,qRP (by simpa using h) fun t=>by have:=h' (t+1); simpa using this⟩
theorem qUD {as:List (Nat × V)} (i:Nat):∀ {bs:List (Nat × V)},leA as bs→VLe (zR i as) (zR i bs)
 | [],_=>by simp only [zR]; exact .dead _
 | (k,x)::r,h=>by
  simp only [zR]
  split
  ·rename_i e; subst e; exact h.1
  exact qUD i h.2
theorem qE {n:Nat} {as bs:List (Nat × V)} (h:leA as bs):yW (zI n as) (zI n bs):=by
 refine qRP (by simp) fun t => ?_
 rw [qHB,qHB]
 split
 ·exact qUD t h
 exact VLe.refl _
def St.keep (ks:List Nat) (st:St):St:=⟨yL st.tmps ks,st.pins,zEG ((ks.flatMap fun t=>V.ids (st.tmps.getD t .dead))++st.pins) st.H,st.base⟩
theorem zHL (l:List V) (ks:List Nat):yW l (yL l ks):=by
 refine qRP (by rw [qAU]) fun t => ?_
 rw [qBK]
 split
 ·exact VLe.refl _
 exact VLe.dead _
theorem Rel.keep {c:Ctx} {M:qY} {μ:Mu} {st:St} {tmps:Array Value} {w:World} (r:Rel c M μ st tmps w) (ks:List Nat):Rel c M μ (st.keep ks) tmps w :=
 r.weaken ⟨zHL _ _,rfl,fun _ hp=>qFX hp,(List.Sublist.map _ (kB _ _)).nodup r.nodup⟩
def qUE (ks:List Nat):Option (Prop × St)→Option (Prop × St)
 | some (v,st)=>some (v,st.keep ks)
 | none=>none
section
variable {P:Program} {T:Tab} {G:qR} {Q:Exit→St→Prop} {st st1 st2 st':St}
theorem AW.keep {c:Code} (ks:List Nat) (k:AW P G c Q (st.keep ks)):AW P G c Q st:=fun x M μ tmps w hg r=>k x M μ tmps w hg (r.keep ks)
theorem qX.keep {ops:Array Oper} {l:List Oper} (ks:List Nat) (k:qX P G ops Q l (st.keep ks)):qX P G ops Q l st:=fun x M μ tmps w hg r=>k x M μ tmps w hg (r.keep ks)
theorem qWT {ks:List Nat} {o:Option (Prop × St)} {v:Prop} (h:qUE ks o=some (v,st')):∃ s,o=some (v,s)∧st'=s.keep ks:=by
 unfold qUE at h
 split at h
 ·rename_i v0 s
  simp only [Option.some.injEq,Prod.mk.injEq] at h
  obtain ⟨rfl,rfl⟩:=h
  exact ⟨s,rfl,rfl⟩
 cases h
def qHF (C:Know) (T:Tab) (G:qR) (f:St→St) (o:Oper) (st:St) (orc:List PD):Option (Prop × St × List PD) :=
 match uU G st o.op with
 | none=>none
 | some st=>match uQ C T G st o.op orc with
  | some (v,x,orc')=>some (v,f (st.put o.dst x),orc')
  | none=>match qIX C T G st o orc with
   | some (v,x,st',orc')=>some (v,f (st'.put o.dst x),orc')
   | none=>none
def qHE (C:Know) (T:Tab) (G:qR) (f:St→St) (o:Oper) (d:Nat) (pol:Bool) (st:St) (orc:List PD):Option (Prop × St × List PD) :=
 match uU G st o.op with
 | none=>none
 | some st=>match V.guards pol (st.tmps.getD d .dead) with
  | none=>none
  | some b=>match uQ C T G st o.op orc with
   | some (v,x,orc')=>some (d<st.tmps.length∧(b=true→v),f (st.put o.dst (.when b x)),orc')
   | none=>match b with
    | true=>match qIX C T G st o orc with
     | some (v,x,st',orc')=>some (d<st.tmps.length∧v,f (st'.put o.dst (.when true x)),orc')
     | none=>none
    | false=>some (d<st.tmps.length,f (st.put o.dst (.when false (.p (.bool false)))),orc)
theorem qX.oneF (hT : TOK P T) {f : St → St} {ops : Array Oper} {o : Oper} {rest : List Oper} {v : Know → Prop} {orc orc' : List PD} (hf : ∀ {l s}, qX P G ops Q l (f s) → qX P G ops Q l s) (h : ∀ C, qHF C T G f o st orc = some (v C, st', orc')) (hv : v (kn P G)) (hgd : o.guard = none)
  (k:qX P G ops Q rest st'):qX P G ops Q (o::rest) st:=by
 have h:=h (kn P G)
 unfold qHF at h
 split at h
 ·cases h
 rename_i st0 hpre
 refine qX.pre hpre ?_
 split at h
 ·rename_i hs
  simp only [Option.some.injEq,Prod.mk.injEq] at h
  obtain ⟨rfl,rfl,rfl⟩:=h
  exact qX.step hgd (jH hT hs hv) (hf k)
 split at h
 ·rename_i hs
  simp only [Option.some.injEq,Prod.mk.injEq] at h
  obtain ⟨rfl,rfl,rfl⟩:=h
  exact qX.step hgd (jA hT hs hv) (hf k)
 cases h
theorem qX.oneIfF (hT : TOK P T) {f : St → St} (d : Nat) {ops : Array Oper} {o : Oper} {rest : List Oper} {j : Nat} {pol : Bool} {v : Know → Prop} {orc orc' : List PD} (hf : ∀ {l s}, qX P G ops Q l (f s) → qX P G ops Q l s) (h : ∀ C, qHE C T G f o d pol st orc = some (v C, st', orc')) (hv : v (kn P G))
  (hgd:o.guard=some (j,pol)) (hd:(ops[j]?).bind (·.dst)=some d) (k:qX P G ops Q rest st'):qX P G ops Q (o::rest) st:=by
 have h:=h (kn P G)
 unfold qHE at h
 split at h
 ·cases h
 rename_i st0 hpre
 refine qX.pre hpre ?_
 split at h
 ·cases h
 rename_i b hb
 split at h
 ·rename_i hs
  simp only [Option.some.injEq,Prod.mk.injEq] at h
  obtain ⟨h1,rfl,rfl⟩:=h
  have hv':=h1.symm ▸ hv
  exact qX.stepIf hgd hd hv'.1 hb (fun hbt=>jH hT hs (hv'.2 hbt)) (hf k)
 split at h
 ·split at h
  ·rename_i hs
   simp only [Option.some.injEq,Prod.mk.injEq] at h
   obtain ⟨h1,rfl,rfl⟩:=h
   have hv':=h1.symm ▸ hv
   exact qX.stepIfT hgd hd hv'.1 hb (jA hT hs hv'.2) (hf k)
  cases h
 simp only [Option.some.injEq,Prod.mk.injEq] at h
 obtain ⟨h1,rfl,rfl⟩:=h
 have hv':=h1.symm ▸ hv
 exact qX.stepIfF hgd hd hv' hb (hf k)
def qYI (C:Know) (T:Tab) (G:qR) (ks:List Nat) (o:Oper) (st:St) (orc:List PD):Option (Prop × St × List PD):=qHF C T G (St.keep ks) o st orc
def qYH (C:Know) (T:Tab) (G:qR) (ks:List Nat) (o:Oper) (d:Nat) (pol:Bool) (st:St) (orc:List PD):Option (Prop × St × List PD):=qHE C T G (St.keep ks) o d pol st orc
def keepIf (ks:List Nat) (st:St):St:=match ks with
 | []=>st
 | _::_=>st.keep ks
theorem qX.keepIf {ops:Array Oper} {l:List Oper} (ks:List Nat) (k:qX P G ops Q l (keepIf ks st)):qX P G ops Q l st:=by
 cases ks with
 | nil=>exact k
 | cons a r=>exact qX.keep _ k
theorem qX.one (hT : TOK P T) (ks : List Nat) (orc : List PD) {ops : Array Oper} {o : Oper} {rest : List Oper} {v : Know → Prop} {orc' : List PD} (h : ∀ C, qYI C T G ks o st orc = some (v C, st', orc')) (hv : v (kn P G)) (hgd : o.guard = none)
  (k:qX P G ops Q rest st'):qX P G ops Q (o::rest) st:=qX.oneF hT (qX.keep ks) h hv hgd k
theorem qX.oneIf (hT : TOK P T) (ks : List Nat) (orc : List PD) (d : Nat) {ops : Array Oper} {o : Oper} {rest : List Oper} {j : Nat} {pol : Bool} {v : Know → Prop} {orc' : List PD} (h : ∀ C, qYH C T G ks o d pol st orc = some (v C, st', orc')) (hv : v (kn P G))
  (hgd:o.guard=some (j,pol)) (hd:(ops[j]?).bind (·.dst)=some d) (k:qX P G ops Q rest st'):qX P G ops Q (o::rest) st:=qX.oneIfF hT d (qX.keep ks) h hv hgd hd k
theorem qX.stepK (ks:List Nat) {ops:Array Oper} {o:Oper} {rest:List Oper} {x:V} (hgd:o.guard=none) (h:zE P G o st x st1) (hk:(st1.put o.dst x).keep ks=st') (k:qX P G ops Q rest st'):qX P G ops Q (o::rest) st :=
 qX.step hgd h (qX.keep ks (hk ▸ k))
theorem qX.keepEnd {ops:Array Oper} (ks:List Nat) (k:Q .normal (st.keep ks)):qX P G ops Q [] st:=qX.keep ks (qX.nil k)
def qB (P:Program) (G:qR) (ops:Array Oper) (Q:Exit→St→Prop) (l:List Oper) (st:St) (_:List PD):Prop:=qX P G ops Q l st
theorem qB.nil {ops:Array Oper} {orc:List PD} (h:Q .normal st):qB P G ops Q [] st orc:=qX.nil h
theorem qB.one (hT : TOK P T) (ks : List Nat) {orc : List PD} {ops : Array Oper} {o : Oper} {rest : List Oper} {v : Know → Prop} {orc' : List PD} (h : ∀ C, qYI C T G ks o st orc = some (v C, st', orc')) (hv : v (kn P G)) (hgd : o.guard = none)
  (k:qB P G ops Q rest st' orc'):qB P G ops Q (o::rest) st orc:=qX.one hT ks orc h hv hgd k
theorem qB.oneIf (hT : TOK P T) (ks : List Nat) {orc : List PD} (d : Nat) {ops : Array Oper} {o : Oper} {rest : List Oper} {j : Nat} {pol : Bool} {v : Know → Prop} {orc' : List PD} (h : ∀ C, qYH C T G ks o d pol st orc = some (v C, st', orc')) (hv : v (kn P G))
  (hgd:o.guard=some (j,pol)) (hd:(ops[j]?).bind (·.dst)=some d) (k:qB P G ops Q rest st' orc'):qB P G ops Q (o::rest) st orc:=qX.oneIf hT ks orc d h hv hgd hd k
theorem s1 (hT : TOK P T) (ks : List Nat) {orc : List PD} {ops : Array Oper} {o : Oper} {rest : List Oper} {v : Know → Prop} {orc' : List PD} (k : qB P G ops Q rest st' orc')
  (h:∀ C,qYI C T G ks o st orc=some (v C,st',orc'):=by intro C; conv=>lhs; simp) (hv:v (kn P G):=by first | with_reducible exact True.intro | omega | simp | (simp +contextual; omega)) (hgd:o.guard=none:=by rfl):qB P G ops Q (o::rest) st orc:=qX.one hT ks orc h hv hgd k
theorem s2 (hT : TOK P T) (ks : List Nat) (d : Nat) {orc : List PD} {ops : Array Oper} {o : Oper} {rest : List Oper} {j : Nat} {pol : Bool} {v : Know → Prop} {orc' : List PD} (hgd : o.guard = some (j, pol)) (hd : (ops[j]?).bind (·.dst) = some d) (k : qB P G ops Q rest st' orc')
  (h:∀ C,qYH C T G ks o d pol st orc=some (v C,st',orc'):=by intro C; conv=>lhs; simp) (hv:v (kn P G):=by first | with_reducible exact True.intro | omega | simp | (simp +contextual; omega)):qB P G ops Q (o::rest) st orc:=qX.oneIf hT ks orc d h hv hgd hd k
def qBF (P:Program) (G:qR) (ops:Array Oper) (Q:Exit→St→Prop) (l:List Oper) (st:St) (_:List PD) (_:List (List Nat)):Prop:=qX P G ops Q l st
theorem qB.run (kss:List (List Nat)) {orc:List PD} {ops:Array Oper} {l:List Oper} (h:qBF P G ops Q l st orc kss):qB P G ops Q l st orc:=h
theorem qK {kss:List (List Nat)} {orc:List PD} {ops:Array Oper} {l:List Oper} (h:qB P G ops Q l st orc):qBF P G ops Q l st orc kss:=h
theorem qA {kss:List (List Nat)} {ops:Array Oper} {orc:List PD} (h:Q .normal st):qBF P G ops Q [] st orc kss:=qX.nil h
theorem rgz (orc:List PD) (kss:List (List Nat)) {id:Nat} {l:List Oper} (h:qBF P G l.toArray Q l st orc kss):AW P G (.region id l.toArray false) Q st:=AW.region h
theorem rgn (orc:List PD) (kss:List (List Nat)) {id:Nat} {l:List Oper} {b:Code} (h:qBF P G l.toArray (andThen (AW P G b Q) Q) l st orc kss):AW P G (.seq (.region id l.toArray false) b) Q st:=AW.seq (AW.region h)
theorem op1 (hT : TOK P T) {ks : List Nat} {kss : List (List Nat)} {orc : List PD} {ops : Array Oper} {o : Oper} {rest : List Oper} {v : Know → Prop} {orc' : List PD} (k : qBF P G ops Q rest st' orc' kss) (hgd : o.guard = none := by rfl)
  (h:∀ C,qHF C T G (keepIf ks) o st orc=some (v C,st',orc'):=by intro C; conv=>lhs; simp) (hv:v (kn P G):=by first | with_reducible exact True.intro | omega | simp | (simp +contextual; omega)) :
  qBF P G ops Q (o::rest) st orc (ks::kss):=qX.oneF hT (qX.keepIf ks) h hv hgd k
theorem op2 (hT : TOK P T) {ks : List Nat} {kss : List (List Nat)} {d : Nat} {orc : List PD} {ops : Array Oper} {o : Oper} {rest : List Oper} {j : Nat} {pol : Bool} {v : Know → Prop} {orc' : List PD} (k : qBF P G ops Q rest st' orc' kss) (hgd : o.guard = some (j, pol) := by rfl) (hd : (ops[j]?).bind (·.dst) = some d := by rfl)
  (h:∀ C,qHE C T G (keepIf ks) o d pol st orc=some (v C,st',orc'):=by intro C; conv=>lhs; simp) (hv:v (kn P G):=by first | with_reducible exact True.intro | omega | simp | (simp +contextual; omega)):qBF P G ops Q (o::rest) st orc (ks::kss):=qX.oneIfF hT d (qX.keepIf ks) h hv hgd hd k
theorem ai {a b:Prop} (x:a) (y:b):a∧b:=⟨x,y⟩
theorem oq1 (hT : TOK P T) {ks : List Nat} {kss : List (List Nat)} {orc : List PD} {ops : Array Oper} {o : Oper} {rest : List Oper} {v : Know → Prop} {orc' : List PD} {A : Prop} (hA : A) (k : qBF P G ops Q rest st' orc' kss) (hgd : o.guard = none := by rfl)
    (h:∀ C,qHF C T G (keepIf ks) o st orc=some (v C,st',orc'):=by intro C; conv=>lhs; simp) (hv:A→v (kn P G):=by intro hA; first | with_reducible exact True.intro | exact hA | exact hA.1 | exact hA.2 | exact hA.2.1 | exact hA.2.2 | (simpa using hA; done) | omega | simp | (simp +contextual; omega)) :
    qBF P G ops Q (o::rest) st orc (ks::kss):=qX.oneF hT (qX.keepIf ks) h (hv hA) hgd k
theorem oq2 (hT : TOK P T) {ks : List Nat} {kss : List (List Nat)} {d : Nat} {orc : List PD} {ops : Array Oper} {o : Oper} {rest : List Oper} {j : Nat} {pol : Bool} {v : Know → Prop} {orc' : List PD} {A : Prop} (hA : A) (k : qBF P G ops Q rest st' orc' kss) (hgd : o.guard = some (j, pol) := by rfl) (hd : (ops[j]?).bind (·.dst) = some d := by rfl)
    (h:∀ C,qHE C T G (keepIf ks) o d pol st orc=some (v C,st',orc'):=by intro C; conv=>lhs; simp) (hv:A→v (kn P G):=by intro hA; first | with_reducible exact True.intro | exact hA | exact hA.1 | exact hA.2 | exact hA.2.1 | exact hA.2.2 | (simpa using hA; done) | omega | simp | (simp +contextual; omega)):qBF P G ops Q (o::rest) st orc (ks::kss):=qX.oneIfF hT d (qX.keepIf ks) h (hv hA) hgd hd k
theorem cnd {c:Operand} {x y:Code} {p:Prop} {b:Bool} (h1:b=true→AW P G x Q st) (h2:b=false→AW P G y Q st) (hc:st.arg G c=(p,.p (.bool b)):=by conv=>lhs; simp) (hp:p:=by exact trivial):AW P G (.cond c x y) Q st:=AW.cond hc hp h1 h2
theorem qB.stepK (ks:List Nat) {orc:List PD} {ops:Array Oper} {o:Oper} {rest:List Oper} {x:V} (h:zE P G o st x st1) (hk:(st1.put o.dst x).keep ks=st') (hgd:o.guard=none) (k:qB P G ops Q rest st' orc):qB P G ops Q (o::rest) st orc :=
 qX.stepK ks hgd h hk k
theorem AW.regionO (orc:List PD) {id:Nat} {l:List Oper} (h:qB P G l.toArray Q l st orc):AW P G (.region id l.toArray false) Q st:=AW.region h
theorem AW.seqRegionO (orc:List PD) {id:Nat} {l:List Oper} {b:Code} (h:qB P G l.toArray (andThen (AW P G b Q) Q) l st orc):AW P G (.seq (.region id l.toArray false) b) Q st:=AW.seq (AW.region h)
theorem AW.runDrawK (hT : TOK P T) (hmix : P.follows .mixedOrders = true) (ks : List Nat) (m : Nat) (tss : List (List Nat)) (orc1 orc2 : List PD) {id : Nat} {l : List Oper} {sms : List Sm} {v1 v2 : Know → Prop} (hchk : zX l m tss = true)
  (h1:∀ C,wP C T G l st (l.take m) tss st orc1=some (v1 C,sms,st1)) (hv1:v1 (kn P G)) (hconf:vS l m (sms.map Sm.sum)=true) (h2:∀ C,qUE ks (kC C T G l (l.drop m) st1 orc2)=some (v2 C,st')) (hv2:v2 (kn P G)) (k:Q .normal st') :
  AW P G (.region id l.toArray true) Q st:=by
 obtain ⟨s,hs,rfl⟩:=qWT (h2 (kn P G))
 have hlate:=wF (Q:=Q) hT l (l.drop m) [] _ orc2 _ s hs hv2 (qX.keepEnd ks k)
 rw [List.append_nil] at hlate
 exact AW.runDraw0 hT hmix m tss orc1 hchk (h1 (kn P G)) hv1 hconf hlate
theorem AW.seqRunDrawK (hT : TOK P T) (hmix : P.follows .mixedOrders = true) (ks : List Nat) (m : Nat) (tss : List (List Nat)) (orc1 orc2 : List PD) {id : Nat} {l : List Oper} {b : Code} {sms : List Sm} {v1 v2 : Know → Prop} (hchk : zX l m tss = true)
  (h1:∀ C,wP C T G l st (l.take m) tss st orc1=some (v1 C,sms,st1)) (hv1:v1 (kn P G)) (hconf:vS l m (sms.map Sm.sum)=true) (h2:∀ C,qUE ks (kC C T G l (l.drop m) st1 orc2)=some (v2 C,st')) (hv2:v2 (kn P G)) (k:AW P G b Q st') :
  AW P G (.seq (.region id l.toArray true) b) Q st:=AW.seq (AW.runDrawK hT hmix ks m tss orc1 orc2 hchk h1 hv1 hconf h2 hv2 k)
def qO (i:Nat):List V→List (Nat × V)
 | []=>[]
 | x::xs=>(i,x)::qO (i+1) xs
theorem qLT:∀ (xs:List V) (i j:Nat),zR j (qO i xs)=if i≤j then xs.getD (j-i) .dead else .dead
 | [],i,j=>by simp [qO,zR]
 | x::xs,i,j=>by
  simp only [qO,zR,qLT xs]
  by_cases h:i=j
  ·subst h; simp
  rw [if_neg h]
  by_cases h2:i+1≤j
  ·rw [if_pos h2,if_pos (by omega),show j-i=(j-(i+1))+1 by omega]; simp
  rw [if_neg h2,if_neg (by omega)]
theorem qKR (xs:List V) (n:Nat) (h:xs.length≤n):xs++List.replicate (n-xs.length) .dead=zI n (qO 0 xs):=by
 apply List.ext_getElem?
 intro i
 rw [qAM,qLT,List.getElem?_append]
 simp only [Nat.zero_le,if_true,Nat.sub_zero]
 by_cases h1:i<xs.length
 ·rw [if_pos h1,if_pos (by omega)]; simp [h1]
 rw [if_neg h1]
 by_cases h2:i<n
 ·rw [if_pos h2]; simp [show i-xs.length<n-xs.length by omega,List.getD_eq_getElem?_getD,List.getElem?_eq_none (show xs.length≤i by omega)]
 rw [if_neg h2]; simp [show ¬ i-xs.length<n-xs.length by omega]
theorem AFn.introU (hT : TOK P T) {f : FuncId} {fn : Func} {c : Code} {args : List PD} {r : PD} (hf : P.funcs[f]? = some fn) (hn : (fn.name == "runtime.NumGoroutine") = false) (hb : fn.body = some c) (hl : args.length.ble fn.ntmps = true)
  (h:AW P G c (Fin T fn.results.toList r) ⟨zI fn.ntmps (qO 0 (args.map .p)),[],[],0⟩):AFn P G f args r:=by
 refine AFn.intro hT hf hn hb ?_
 have:=qKR (args.map V.p) fn.ntmps (by simpa using Nat.le_of_ble_eq_true hl)
 simp only [List.length_map] at this
 rw [St.start,this]; exact h
theorem AX.introU (hT : TOK P T) {f : FuncId} {fn : Func} {c : Code} {xs : List V} {H : List (Nat × Box)} {r : V} {ps : List Nat} {H' : List (Nat × Box)} (base : Nat) (hf : P.funcs[f]? = some fn)
  (hn : (fn.name == "runtime.NumGoroutine") = false) (hb : fn.body = some c) (hl : xs.length.ble fn.ntmps = true) (h : AW P G c (zIQ T fn.results.toList r ps H') ⟨zI fn.ntmps (qO 0 xs), H.map (·.1), H, base⟩) : AX P G f xs H r ps H' := by
 refine AX.intro hT base hf hn hb ?_
 rw [St.startX,qKR xs fn.ntmps (Nat.le_of_ble_eq_true hl)]; exact h
theorem qXV {n i:Nat} {as:List (Nat × V)} {x:V} (h:zR i as=x) (hi:i<n):(zI n as)[i]?=some x:=by rw [qAM,if_pos hi,h]
theorem AW.strFactU {c:Code} {n i b:Nat} {s:List UInt8} {as:List (Nat × V)} {p:List Nat} {H:List (Nat × Box)} (h:zR i as = .p (.str s)) (hi:i<n) (k:s.length≤9223372036854775807→AW P G c Q ⟨zI n as,p,H,b⟩):AW P G c Q ⟨zI n as,p,H,b⟩ :=
 AW.strFact (i:=i) (qXV h hi) k
theorem AW.intFactU {c:Code} {n i b:Nat} {kd:IntKind} {z:Int} {as:List (Nat × V)} {p:List Nat} {H:List (Nat × Box)} (h:zR i as = .p (.int kd z)) (hi:i<n) (k:kH kd≤z∧z≤kI kd→AW P G c Q ⟨zI n as,p,H,b⟩):AW P G c Q ⟨zI n as,p,H,b⟩ :=
 AW.intFact (i:=i) (qXV h hi) k
attribute [simp] qYI qYH qHF qHE keepIf zR qFB qQL qLX qHJ leA qYX St.keep qUE qO
end
theorem qP {T:Tab} {rs:List ResultVar} {r:PD} {st:St} {l:List V} (h:qHH T st rs=some (True,l):=by (conv=>lhs; simp)) (k:V.fits st.H (qPR l) r:=by simp):Fin T rs r .ret st:=⟨.inr rfl,_,_,h,trivial,k⟩
theorem qV {T : Tab} {rs : List ResultVar} {r : V} {ps : List Nat} {H' : List (Nat × Box)} {st : St} {l : List V} (h : qHH T st rs = some (True, l) := by (conv => lhs; simp)) (k : VLe (qPR l) r := by simp) (a : ∀ i ∈ ps, i ∈ st.pins := by simp) (b : ∀ x ∈ H', x ∈ st.H := by simp)
  (c:(H'.map (·.1)).Nodup:=by simp):zIQ T rs r ps H' .ret st:=⟨.inr rfl,_,_,h,trivial,k,a,b,c⟩
theorem qIW {T : Tab} {rs : List ResultVar} {r : V} {ps : List Nat} {H' : List (Nat × Box)} {st : St} {l : List V} (h : qHH T st rs = some (True, l) := by (conv => lhs; simp)) (k : VLe (qPR l) r := by simp) (a : ∀ i ∈ ps, i ∈ st.pins := by simp) (b : ∀ x ∈ H', x ∈ st.H := by simp)
  (c:(H'.map (·.1)).Nodup:=by simp):zIQ T rs r ps H' .normal st:=⟨.inl rfl,_,_,h,trivial,k,a,b,c⟩
section
variable {P:Program} {T:Tab} {G:qR} {Q:Exit→St→Prop} {st st':St}
theorem qB.freeze {ops:Array Oper} {l:List Oper} {orc:List PD} (i:Nat) (h:st.freeze i=st') (k:qB P G ops Q l st' orc):qB P G ops Q l st orc:=fun x M μ tmps w hg r=>by
 subst h
 obtain ⟨M',r'⟩:=r.freeze i
 exact k x M' μ tmps w hg r'
theorem qB.take {ops:Array Oper} {l:List Oper} {orc:List PD} (i j:Nat) (h:(st.kill j).ren i j=st') (k:qB P G ops Q l st' orc):qB P G ops Q l st orc :=
 fun x M _ tmps w hg r=>(h ▸ k) x M _ tmps w hg ((r.kill j).ren (qFD st j))
def xM:List (Option Nat)→List V→List V
 | some sz::l,.nilsl::xs => .p (.sl sz [])::xM l xs
 | _::l,x::xs=>x::xM l xs
 | [],xs=>xs
 | _,[]=>[]
theorem qHS:∀ (l:List (Option Nat)) (xs:List V),(xM l xs).length=xs.length
 | [],xs=>by simp [xM]
 | none::l,[]=>by simp [xM]
 | some sz::l,[]=>by simp [xM]
 | none::l,x::xs=>by simp [xM,qHS l xs]
 | some sz::l,x::xs=>by cases x <;> simp [xM,qHS l xs]
theorem zAS {M:qY} {μ:Mu} {u:Value} (sz:Nat) (h:RV M μ u .nilsl):RV M μ u (.p (.sl sz [])):=by
 cases h
 exact .p (.sl 0 0 rfl (Nat.le_refl _) (by simp [maxLen]) (fun h=>(h rfl).elim) (fun i e h=>by simp at h) (fun i e j h=>by simp at h) (fun i e j d u h=>by simp at h))
theorem qHT {M:qY} {μ:Mu}:∀ (l:List (Option Nat)) (xs:List V) (i:Nat) (y:V),(xM l xs)[i]?=some y→∃ x,xs[i]?=some x∧∀ u,RV M μ u x→RV M μ u y
 | [],xs,i,y,h=>⟨y,by simpa [xM] using h,fun _ h=>h⟩
 | none::l,[],i,y,h=>by simp [xM] at h
 | some sz::l,[],i,y,h=>by simp [xM] at h
 | none::l,x::xs,i,y,h=>by
  cases i with
  | zero=>simp [xM] at h; subst h; exact ⟨x,by simp,fun _ h=>h⟩
  | succ i=>simp [xM] at h; obtain ⟨x',h1,h2⟩:=qHT (M:=M) (μ:=μ) l xs i y h; exact ⟨x',by simpa using h1,h2⟩
 | some sz::l,x::xs,i,y,h=>by
  cases i with
  | zero =>
   refine ⟨x,by simp, ?_⟩
   cases x <;> simp [xM] at h <;> subst h <;> first | exact fun _ h=>zAS sz h | exact fun _ h=>h
  | succ i =>
   have h':(xM l xs)[i]?=some y:=by cases x <;> simpa [xM] using h
   obtain ⟨x',h1,h2⟩:=qHT (M:=M) (μ:=μ) l xs i y h'
   exact ⟨x',by simpa using h1,h2⟩
def St.fill (st:St) (id:Nat) (l:List (Option Nat)):St :=
 match zW id st.H with
 | some (.vars e cs)=>{ st with H:=zZ id (.vars e (xM l cs)) st.H }
 | _=>st
theorem Rel.fill {c:Ctx} {M:qY} {μ:Mu} {tmps:Array Value} {w:World} (r:Rel c M μ st tmps w) (id:Nat) (l:List (Option Nat)):Rel c M μ (st.fill id l) tmps w:=by
 unfold St.fill
 split
 ·rename_i e cs hb
  have hm:=zP hb
  have hk:qM id st.H=true:=qH.2 ⟨_,hm⟩
  have hbx:=r.box id _ hm
  cases hbx with
  | @vars _ _ b arr h0 h1 h2 h3 h4 =>
   refine r.write hk h0 ⟨rfl,rfl,rfl,rfl,fun _ _=>rfl⟩ (.vars h0 h1 (by rw [qHS]; exact h2) h3 fun i u y hu hy => ?_)
   obtain ⟨x,hx,hxy⟩:=qHT (M:=M) (μ:=μ) l cs i y hy
   exact hxy u (h4 i u x hu hx)
 exact r
theorem qB.fill {ops:Array Oper} {l:List Oper} {orc:List PD} (id:Nat) (ns:List (Option Nat)) (h:st.fill id ns=st') (k:qB P G ops Q l st' orc):qB P G ops Q l st orc :=
 fun x M μ tmps w hg r=>(h ▸ k) x M μ tmps w hg (r.fill id ns)
attribute [simp] St.fill xM
end
section
variable {P:Program} {T:Tab} {G:qR} {Q:Exit→St→Prop} {st st':St}
theorem AW.beginE {c : Code} (d id : Nat) (e : TypeId) (sz : Nat) (hd : st.tmps[d]? = some .nilsl) (hf : st.fresh id = true) (h : ({ st with tmps := st.tmps.set d (.ms id), H := (id, .row e sz []) :: st.H } : St) = st')
  (k:AW P G c Q st'):AW P G c Q st:=AW.begin (d:=d) (id:=id) e sz hd hf (h ▸ k)
theorem AW.renE {c:Code} (i j:Nat) (hf:st.fresh j=true) (h:st.ren i j=st') (k:AW P G c Q st'):AW P G c Q st:=AW.ren i j hf (h ▸ k)
theorem AW.freezeE {c:Code} (i:Nat) (h:st.freeze i=st') (k:AW P G c Q st'):AW P G c Q st:=fun x M μ tmps w hg r=>by
 subst h
 obtain ⟨M',r'⟩:=r.freeze i
 exact k x M' μ tmps w hg r'
end
section
variable {P:Program} {T:Tab} {G:qR} {Q:Exit→St→Prop} {st st':St}
theorem Rel.plain {M : qY} {w : World} {args : List PD} {vs : Array Value} (μ : Mu) (hmem : ∀ b o v, M b o = some v → w.cell? ⟨b, o, none⟩ = some v) (hsz : vs.size = args.length) (hrd : ∀ (i : Nat) u d, vs[i]? = some u → args[i]? = some d → Rd M u d) :
  Rel ⟨w.heap.size,w,M,μ,yA μ []⟩ M μ ⟨args.map .p,[],[],0⟩ vs w:=by
 refine ⟨hmem,fun _ _ _ h=>h,fun _ _ _=>rfl,⟨by simpa using hsz,fun i u x hu hx => ?_⟩,(fun _ h=>by cases h),(fun _ _ h=>by cases h),List.nodup_nil,(fun _ _ _ h=>by simp [qM] at h),(fun _ _ h=>by simp [qM] at h),Nat.le_refl _,Kept.refl _ _⟩
 rw [List.getElem?_map] at hx
 obtain ⟨d,hd,rfl⟩:=Option.map_eq_some_iff.1 hx
 exact .p (hrd i u d hu hd)
theorem AR.of_AX {f:FuncId} {args:List PD} {k e sz:Nat} {es:List PD} (h:AX P G f (args.map .p) [] (.ms k) [] [(k,.row e sz es)]):AR P G f args e sz es:=by
 refine ⟨h.1,fun M w vs hg hmem hsz hrd=>(h.2 M (fun _=>default) w vs hg (Rel.plain _ hmem hsz hrd)).mono ?_⟩
 rintro e' w' ⟨v,M',μ',rfl,r'⟩
 have hno:∀ b, ¬ yA (fun _=>(default:Loc)) [] b:=fun b ⟨i,hi,_⟩=>by simp [qM] at hi
 have hk:qM k [(k,Box.row e sz es)]=true:=by simp [qM]
 have hv:=r'.slots.2 0 v (.ms k) (by simp) (by simp)
 cases hv with
 | ms hval hone =>
 have hbx:=r'.box k (.row e sz es) (List.mem_singleton.2 rfl)
 refine ⟨v,M',rfl,r'.mem,r'.ext,fun b o hb=>r'.old b o fun hm=>hm.elim (fun h=>by simp at h; omega) (hno b),⟨r'.below.os,r'.below.tape,r'.below.output,r'.below.size,fun j hj=>r'.below.block j fun hm=>hm.elim (fun h=>by simp at h; omega) (hno j)⟩,
  μ' k,hval.symm,hone, ?_,fun b hb => ?_⟩
 ·cases hbx with
  | row h0 hv h1 h2 h3 h4 h5 h6 h7=>exact .row h0 hv h1 h2 h3 h4 h5 h6 h7
  | rowN h0 hv=>exact .rowN h0 hv
 obtain ⟨h1,h2,h3⟩:=r'.own k b hk hb
 exact ⟨h1.elim (fun h=>h) fun h=>(hno b h).elim,h2,h3⟩
theorem qRA (k:Nat) {t e:TypeId} (hd:P.underlying t=some (.slice e)) (a:Option Addr) (n c:Nat) (w:World):(Op.equalIn (k+1) t (.slice a n c) (.slice none 0 0)).run P w = .ok a.isNone w:=by
 cases a <;> simp [Op.equalIn,run_underlying hd]
theorem qB.nilEq {ops : Array Oper} {o : Oper} {rest : List Oper} {orc : List PD} (hT : TOK P T) (ks : List Nat) {t ty e sz : Nat} {x : Operand} {p : Prop} {es : List PD} (ho : o.op = .binOp .eql t x (.const (.slice none 0 0)) ty) (ht : wE T t = some (.sl e))
  (ha:st.arg G x=(p,.p (.sl sz es))) (hp:p) (hgd:o.guard=none) (k:∀ b:Bool,(es≠[]→b=false)→qB P G ops Q rest ((st.put o.dst (.p (.bool b))).keep ks) orc):qB P G ops Q (o::rest) st orc:=by
 intro c M μ tmps w hg r
 have h1:=(qF hg r ha hp).p_inv
 have hd:=hT.sl ht
 generalize hu:Act.eval ⟨tmps,[]⟩ x=u at h1
 cases h1 with
 | @sl a n cc _ _ b o' hn hnc hcm hab h5 h6 h7 =>
 have he:(Op.equal t (.slice a n cc) (.slice none 0 0)).run P w = .ok a.isNone w:=by
  exact qRA 9999 hd a n cc w
 have e1:(execOp (Act.eval ⟨tmps,[]⟩) o).run P w = .ok (.value (.bool a.isNone)) w:=by
  have hg:(eqGuard .eql t x (.const (.slice none 0 0)) (.slice a n cc) (.slice none 0 0)).run P w = .ok () w:=by simp only [eqGuard]; rfl
  have hb2:(binOp .eql t (.slice a n cc) (.slice none 0 0)).run P w = .ok (.bool a.isNone) w:=by
   show (do pure (.bool (← Op.equal t (.slice a n cc) (.slice none 0 0))):Sem Value).run P w=_
   simp only [Sem.run_bind,he,Result.andThen]; rfl
  simp [execOp,ho,hu,hg,hb2,show Act.eval ⟨tmps,[]⟩ (.const (.slice none 0 0)) = .slice none 0 0 from rfl]
 have hb:es≠[]→a.isNone=false:=fun he=>by
  have:n≠0:=by rw [hn]; exact fun h=>he (List.eq_nil_of_length_eq_zero h)
  rw [hab this]; rfl
 refine wpList_plain hgd fun K hK=>jR (next:=fun v w'=>v = .bool a.isNone∧w'=w) (by rw [e1]; exact ⟨rfl,rfl⟩) ?_
 rintro u w' ⟨rfl,rfl⟩
 apply hK
 rw [Act.put_tmps]
 exact qX.keep ks (k _ hb) c M μ _ w' hg (r.put (.p (.bool _)) o.dst)
theorem qB.same {ops:Array Oper} {l:List Oper} {orc:List PD} (h:st=st') (k:qB P G ops Q l st' orc):qB P G ops Q l st orc:=h ▸ k
end
abbrev zIM:=List Nat × List Nat × List Nat × List Nat
def ndB:List (Nat × Box)→Bool
 | []=>true
 | (i,_)::r => !qM i r && ndB r
theorem yT:∀ {H:List (Nat × Box)},ndB H=true→(H.map (·.1)).Nodup
 | [],_=>List.nodup_nil
 | (i,b)::r,h=>by
  simp only [ndB,Bool.and_eq_true,Bool.not_eq_true'] at h
  simp only [List.map_cons,List.nodup_cons]
  exact ⟨fun hm=>by rw [zN.2 hm] at h; exact absurd h.1 (by simp),yT h.2⟩
section
variable {P:Program} {T:Tab} {G:qR} {Q:Exit→St→Prop} {st st' st0:St} {ops rest:List Oper} {tss:List (List Nat)} {ts:List Nat} {orc orc':List PD} {acc:qDG} {o:Oper} {sm:zIM} {v:Know→Prop}
def DGo (P:Program) (T:Tab) (G:qR) (ops:List Oper) (st0:St) (l:List Oper) (tss:List (List Nat)) (st:St) (orc:List PD) (acc:qDG) (K:qDG→St→Prop):Prop :=
 ∃ v sms st1,wP (kn P G) T G ops st0 l tss st orc=some (v,sms,st1)∧v∧K (acc++sms.map Sm.sum) st1
variable {K:qDG→St→Prop}
theorem DGo.nil (hn:ndB st.H=true) (k:K acc st):DGo P T G ops st0 [] tss st orc acc K:=⟨_,_,_,rfl,yT hn,by simpa using k⟩
def qIY (C:Know) (T:Tab) (G:qR) (st0:St) (ts:List Nat) (o:Oper) (st:St) (orc:List PD):Option (Prop × St × zIM × List PD) :=
 match qBQ C T G st0 (st.small ts) o orc with
 | some (v,s,orc')=>some (v,st.after o.dst s,s.sum,orc')
 | none=>none
theorem DGo.one (h : ∀ C, qIY C T G st0 ts o st orc = some (v C, st', sm, orc')) (hv : v (kn P G)) (hgd : o.guard = none) (hn : ndB st.H = true) (k : DGo P T G ops st0 rest tss st' orc' (acc ++ [sm]) K) :
  DGo P T G ops st0 (o::rest) (ts::tss) st orc acc K:=by
 have h1:=h (kn P G)
 unfold qIY at h1
 split at h1
 ·rename_i v1 s orc1 h2
  simp only [Option.some.injEq,Prod.mk.injEq] at h1
  obtain ⟨h3,rfl,rfl,rfl⟩:=h1
  obtain ⟨w,sms,st1,e,hw,hk⟩:=k
  exact ⟨(st.H.map (·.1)).Nodup∧v1∧w,s::sms,st1,by simp only [wP,hgd,h2,e],⟨yT hn,h3 ▸ hv,hw⟩,by simpa using hk⟩
 cases h1
def qMH (C:Know) (T:Tab) (G:qR) (st0:St) (ts:List Nat) (o:Oper) (d:Nat) (pol:Bool) (st:St) (orc:List PD):Option (Prop × St × zIM × List PD) :=
 match V.guards pol (st.tmps.getD d .dead) with
 | none=>none
 | some b=>match uD C T G (st.small ts) o.op orc with
  | some (v,x,orc') =>
   let s:Sm:=⟨.when b x,(st.small ts).H,(st.small ts).H,(st.small ts).pins,[],true⟩
   some (d<st.tmps.length∧(b=true→v)∧s.good,st.after o.dst s,s.sum,orc')
  | none=>match b with
   | true=>match qBQ C T G st0 (st.small ts) o orc with
    | some (v,s,orc')=>some (d<st.tmps.length∧v,st.after o.dst { s with x := .when true s.x },({ s with x := .when true s.x }:Sm).sum,orc')
    | none=>none
   | false =>
    let s:Sm:=⟨.when false (.p (.bool false)),[],[],[],[],true⟩
    some (d<st.tmps.length,st.after o.dst s,s.sum,orc)
theorem DGo.oneIf (d : Nat) {j : Nat} {pol : Bool} (h : ∀ C, qMH C T G st0 ts o d pol st orc = some (v C, st', sm, orc')) (hv : v (kn P G)) (hgd : o.guard = some (j, pol)) (hd : (ops[j]?).bind (·.dst) = some d) (hn : ndB st.H = true)
  (k:DGo P T G ops st0 rest tss st' orc' (acc++[sm]) K):DGo P T G ops st0 (o::rest) (ts::tss) st orc acc K:=by
 have h1:=h (kn P G)
 have hn':=yT hn
 unfold qMH at h1
 obtain ⟨w,sms,st1,e,hw,hk⟩:=k
 split at h1
 ·cases h1
 rename_i b hb
 split at h1
 ·rename_i v1 x orc1 h2
  simp only [Option.some.injEq,Prod.mk.injEq] at h1
  obtain ⟨h3,rfl,rfl,rfl⟩:=h1
  have hv':=h3.symm ▸ hv
  exact ⟨(st.H.map (·.1)).Nodup∧d<st.tmps.length∧(b=true→v1)∧Sm.good ⟨.when b x,(st.small ts).H,(st.small ts).H,(st.small ts).pins,[],true⟩∧w,(⟨.when b x,(st.small ts).H,(st.small ts).H,(st.small ts).pins,[],true⟩:Sm)::sms,st1,by simp only [wP,hgd,hd,hb,h2,e],⟨hn',hv'.1,hv'.2.1,hv'.2.2,hw⟩,by simpa using hk⟩
 rename_i h2
 split at h1
 ·split at h1
  ·rename_i v1 s orc1 h4
   simp only [Option.some.injEq,Prod.mk.injEq] at h1
   obtain ⟨h3,rfl,rfl,rfl⟩:=h1
   have hv':=h3.symm ▸ hv
   exact ⟨(st.H.map (·.1)).Nodup∧d<st.tmps.length∧v1∧w,({ s with x := .when true s.x }:Sm)::sms,st1,by simp only [wP,hgd,hd,hb,h2,h4,e],⟨hn',hv'.1,hv'.2,hw⟩,by simpa using hk⟩
  cases h1
 simp only [Option.some.injEq,Prod.mk.injEq] at h1
 obtain ⟨h3,rfl,rfl,rfl⟩:=h1
 have hv':=h3.symm ▸ hv
 exact ⟨(st.H.map (·.1)).Nodup∧d<st.tmps.length∧w,(⟨.when false (.p (.bool false)),[],[],[],[],true⟩:Sm)::sms,st1,by simp only [wP,hgd,hd,hb,h2,e],⟨hn',hv',hw⟩,by simpa using hk⟩
theorem d1 (k : DGo P T G ops st0 rest tss st' orc' (acc ++ [sm]) K) (h : ∀ C, qIY C T G st0 ts o st orc = some (v C, st', sm, orc') := by intro C; conv => lhs; simp) (hv : v (kn P G) := by first | with_reducible exact True.intro | omega | simp | (simp +contextual; omega)) (hgd : o.guard = none := by rfl) (hn : ndB st.H = true := by kernel_rfl) :
  DGo P T G ops st0 (o::rest) (ts::tss) st orc acc K:=DGo.one h hv hgd hn k
theorem d2 (d : Nat) {j : Nat} {pol : Bool} (hgd : o.guard = some (j, pol)) (hd : (ops[j]?).bind (·.dst) = some d) (k : DGo P T G ops st0 rest tss st' orc' (acc ++ [sm]) K) (h : ∀ C, qMH C T G st0 ts o d pol st orc = some (v C, st', sm, orc') := by intro C; conv => lhs; simp) (hv : v (kn P G) := by first | with_reducible exact True.intro | omega | simp | (simp +contextual; omega))
  (hn:ndB st.H=true:=by kernel_rfl):DGo P T G ops st0 (o::rest) (ts::tss) st orc acc K:=DGo.oneIf d h hv hgd hd hn k
theorem dq1 {A : Prop} (hA : A) (k : DGo P T G ops st0 rest tss st' orc' (acc ++ [sm]) K) (h : ∀ C, qIY C T G st0 ts o st orc = some (v C, st', sm, orc') := by intro C; conv => lhs; simp) (hv : A → v (kn P G) := by intro hA; first | with_reducible exact True.intro | exact hA | exact hA.1 | exact hA.2 | exact hA.2.1 | exact hA.2.2 | (simpa using hA; done) | omega | simp | (simp +contextual; omega)) (hgd : o.guard = none := by rfl) (hn : ndB st.H = true := by kernel_rfl) :
    DGo P T G ops st0 (o::rest) (ts::tss) st orc acc K:=DGo.one h (hv hA) hgd hn k
theorem dq2 (d : Nat) {j : Nat} {pol : Bool} (hgd : o.guard = some (j, pol)) (hd : (ops[j]?).bind (·.dst) = some d) {A : Prop} (hA : A) (k : DGo P T G ops st0 rest tss st' orc' (acc ++ [sm]) K) (h : ∀ C, qMH C T G st0 ts o d pol st orc = some (v C, st', sm, orc') := by intro C; conv => lhs; simp) (hv : A → v (kn P G) := by intro hA; first | with_reducible exact True.intro | exact hA | exact hA.1 | exact hA.2 | exact hA.2.1 | exact hA.2.2 | (simpa using hA; done) | omega | simp | (simp +contextual; omega))
    (hn:ndB st.H=true:=by kernel_rfl):DGo P T G ops st0 (o::rest) (ts::tss) st orc acc K:=DGo.oneIf d h (hv hA) hgd hd hn k
theorem AW.drawS (hT : TOK P T) (hmix : P.follows .mixedOrders = true) (m : Nat) (tss : List (List Nat)) (orc orc2 : List PD) {id : Nat} {l : List Oper} (hchk : zX l m tss = true)
  (h:DGo P T G l st (l.take m) tss st orc [] fun qVP st1=>vS l m qVP=true∧qB P G l.toArray Q (l.drop m) st1 orc2):AW P G (.region id l.toArray true) Q st:=by
 obtain ⟨v,sms,st1,e,hv,hc,hl⟩:=h
 exact AW.runDraw0 hT hmix m tss orc hchk e hv (by simpa using hc) hl
theorem AW.seqDrawS (hT : TOK P T) (hmix : P.follows .mixedOrders = true) (m : Nat) (tss : List (List Nat)) (orc orc2 : List PD) {id : Nat} {l : List Oper} {b : Code} (hchk : zX l m tss = true)
  (h:DGo P T G l st (l.take m) tss st orc [] fun qVP st1=>vS l m qVP=true∧qB P G l.toArray (andThen (AW P G b Q) Q) (l.drop m) st1 orc2):AW P G (.seq (.region id l.toArray true) b) Q st :=
 AW.seq (AW.drawS hT hmix m tss orc orc2 hchk h)
attribute [simp] qIY qMH Sm.sum Sm.foot Sm.tch Sm.refs
end
end Go.Proofs.YtlmedakhioiahaaGreatDoor.Sy
