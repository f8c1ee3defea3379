import Derived.Test.YtgcbapchinideaaGreatDoorM2
namespace Go.Proofs.YtgcbapchinideaaGreatDoor.Sy
open Go
def wH (i:Nat):List (Nat × V)→V
 | [] => .dead
 | (j,x)::r=>if j=i then x else wH i r
def qSV (i:Nat) (v:V):List (Nat × V)→List (Nat × V)
 | []=>[(i,v)]
 | (j,x)::r=>if j=i then (j,v)::r else (j,x)::qSV i v r
def qKO (f:V→V):List (Nat × V)→List (Nat × V)
 | []=>[]
 | (j,x)::r=>(j,f x)::qKO f r
def qGY (ks:List Nat):List (Nat × V)→List (Nat × V)
 | []=>[]
 | (j,x)::r=>if ks.contains j then (j,x)::qGY ks r else qGY ks r
def qIY (id:Nat):List (Nat × V)→Bool
 | []=>true
 | (_,x)::r=>V.noRef id x && qIY id r
def leA (as:List (Nat × V)):List (Nat × V)→Prop
 | []=>True
 | (j,x)::r=>VLe (wH j as) x∧leA as r
def qS (n:Nat) (as:List (Nat × V)):List V:=(List.range n).map fun i=>wH i as
@[simp] theorem qOT (n:Nat) (as:List (Nat × V)):(qS n as).length=n:=by simp [qS]
@[simp] theorem uJ (n:Nat) (as:List (Nat × V)) (i:Nat):(qS n as)[i]?=if i<n then some (wH i as) else none:=by
 simp only [qS,List.getElem?_map]
 by_cases h:i<n <;> simp [h]
theorem qFE (n:Nat) (as:List (Nat × V)) (i:Nat):(qS n as).getD i .dead=if i<n then wH i as else .dead:=by
 rw [List.getD_eq_getElem?_getD,uJ]
 split <;> rfl
@[simp] theorem zCE {n i:Nat} {as:List (Nat × V)} (h:i<(qS n as).length):(qS n as)[i]=wH i as:=by simp [qS]
theorem qLS (i j:Nat) (v:V):∀ as,wH j (qSV i v as)=if i=j then v else wH j as
 | []=>by simp [qSV,wH]
 | (k,x)::r=>by
  simp only [qSV]
  split
  ·rename_i h
   subst h
   simp only [wH]
   by_cases h2:k=j <;> simp [h2]
  rename_i h
  simp only [wH,qLS i j v r]
  by_cases h2:k=j
  ·subst h2; simp [Ne.symm h]
  simp [h2]
@[simp] theorem qYM (n:Nat) (as:List (Nat × V)) (i:Nat) (v:V):(qS n as).set i v=qS n (qSV i v as):=by
 apply List.ext_getElem?
 intro k
 rw [List.getElem?_set,uJ,uJ,qOT,qLS]
 by_cases h:i=k
 ·subst h; simp
 simp [h]
theorem qLR {f:V→V} (hf:f .dead = .dead) (i:Nat):∀ as,wH i (qKO f as)=f (wH i as)
 | []=>by simp [qKO,wH,hf]
 | (k,x)::r=>by
  simp only [qKO,wH,qLR hf i r]
  split <;> rfl
theorem qDQ {f:V→V} (hf:f .dead = .dead) (n:Nat) (as:List (Nat × V)):(qS n as).map f=qS n (qKO f as):=by
 simp only [qS,List.map_map]
 exact List.map_congr_left fun i _=>(qLR hf i as).symm
def qUU (id:Nat) (x:V):V:=match V.noRef id x with
 | true=>x
 | false => .dead
theorem qLX (id:Nat):∀ l,qAZ id l=l.map (qUU id)
 | []=>rfl
 | x::xs=>by
  simp only [qAZ,List.map_cons,qLX id xs]
  congr 1
@[simp] theorem zGL (id n:Nat) (as:List (Nat × V)):qAZ id (qS n as)=qS n (qKO (qUU id) as):=by
 rw [qLX,qDQ (by simp [qUU,V.noRef])]
@[simp] theorem zHJ (id:Nat) (d:PD) (n:Nat) (as:List (Nat × V)):V.frzL id d (qS n as)=qS n (qKO (V.frz id d) as):=by
 rw [V.frzL_eq,qDQ (by simp only [V.frz])]
@[simp] theorem zHI (i j n:Nat) (as:List (Nat × V)):V.renL i j (qS n as)=qS n (qKO (V.ren i j) as):=by
 rw [V.renL_eq,qDQ (by simp only [V.ren])]
theorem qGV {id:Nat} (i:Nat):∀ {as:List (Nat × V)},qIY id as=true→V.noRef id (wH i as)=true
 | [],_=>by simp [wH,V.noRef]
 | (k,x)::r,h=>by
  simp only [qIY,Bool.and_eq_true] at h
  simp only [wH]
  split
  ·exact h.1
  exact qGV i h.2
@[simp] theorem qRQ {id n:Nat} {as:List (Nat × V)} (h:qIY id as=true):V.noRefL id (qS n as)=true:=by
 have key:∀ (as:List V),(∀ x∈as,V.noRef id x=true)→V.noRefL id as=true:=by
  intro as
  induction as with
  | nil=>intro _; simp only [V.noRefL]
  | cons a as ih =>
   intro h
   simp only [V.noRefL,Bool.and_eq_true]
   exact ⟨h a (by simp),ih fun x hx=>h x (by simp [hx])⟩
 refine key _ fun x hx => ?_
 obtain ⟨i,_,rfl⟩:=List.mem_map.1 hx
 exact qGV i h
@[simp] theorem qYN {id n:Nat}:V.noRefL id (qS n [])=true:=qRQ rfl
theorem qDG (ks:List Nat) (i:Nat):∀ as,wH i (qGY ks as)=if ks.contains i then wH i as else .dead
 | []=>by simp [qGY,wH]
 | (k,x)::r=>by
  simp only [qGY]
  split
  ·rename_i h
   simp only [wH,qDG ks i r]
   by_cases h2:k=i
   ·subst h2; rw [if_pos rfl,if_pos rfl,if_pos h]
   rw [if_neg h2,if_neg h2]
  rename_i h
  rw [qDG ks i r]
  simp only [wH]
  by_cases h2:k=i
  ·subst h2; rw [if_neg h,if_neg h]
  rw [if_neg h2]
@[simp] theorem qVO (n:Nat) (as:List (Nat × V)) (ks:List Nat):wE (qS n as) ks=qS n (qGY ks as):=by
 apply List.ext_getElem?
 intro i
 rw [qLO,uJ,qOT,qDG,qFE]
 by_cases h:i<n <;> simp [h]
theorem qOG:∀ {as bs:List V},as.length=bs.length→(∀ t,VLe (as.getD t .dead) (bs.getD t .dead))→yE as bs
 | [],[],_,_=>trivial
 | [],_::_,h,_=>by simp at h
 | _::_,[],h,_=>by simp at h
 | a::as,b::bs,h,h'=>⟨by simpa using h' 0,qOG (by simpa using h) fun t=>by have:=h' (t+1); simpa using this⟩
theorem qQD {as:List (Nat × V)} (i:Nat):∀ {bs:List (Nat × V)},leA as bs→VLe (wH i as) (wH i bs)
 | [],_=>by simp only [wH]; exact .dead _
 | (k,x)::r,h=>by
  simp only [wH]
  split
  ·rename_i e; subst e; exact h.1
  exact qQD i h.2
theorem qB {n:Nat} {as bs:List (Nat × V)} (h:leA as bs):yE (qS n as) (qS n bs):=by
 refine qOG (by simp) fun t => ?_
 rw [qFE,qFE]
 split
 ·exact qQD t h
 exact VLe.refl _
def St.keep (ks:List Nat) (st:St):St:=⟨wE st.tmps ks,st.pins,zAF ((ks.flatMap fun t=>V.ids (st.tmps.getD t .dead))++st.pins) st.H,st.base⟩
theorem qUQ (l:List V) (ks:List Nat):yE l (wE l ks):=by
 refine qOG (by rw [uR]) fun t => ?_
 rw [qAI]
 split
 ·exact VLe.refl _
 exact VLe.dead _
theorem Rel.keep {c:Ctx} {M:qT} {μ:Mu} {st:St} {tmps:Array Value} {w:World} (r:Rel c M μ st tmps w) (ks:List Nat):Rel c M μ (st.keep ks) tmps w :=
 r.weaken ⟨qUQ _ _,rfl,fun _ hp=>qEB hp,(List.Sublist.map _ (yG _ _)).nodup r.nodup⟩
def qQF (ks:List Nat):Option (Prop × St)→Option (Prop × St)
 | some (v,st)=>some (v,st.keep ks)
 | none=>none
section
variable {P:Program} {T:Tab} {G:qK} {Q:Exit→St→Prop} {st st1 st2 st':St}
theorem AW.keep {c:Code} (ks:List Nat) (k:AW P G c Q (st.keep ks)):AW P G c Q st:=fun x M μ tmps w hg r=>k x M μ tmps w hg (r.keep ks)
theorem qX.keep {ops:Array Oper} {l:List Oper} (ks:List Nat) (k:qX P G ops Q l (st.keep ks)):qX P G ops Q l st:=fun x M μ tmps w hg r=>k x M μ tmps w hg (r.keep ks)
theorem qSS {ks:List Nat} {o:Option (Prop × St)} {v:Prop} (h:qQF ks o=some (v,st')):∃ s,o=some (v,s)∧st'=s.keep ks:=by
 unfold qQF at h
 split at h
 ·rename_i v0 s
  simp only [Option.some.injEq,Prod.mk.injEq] at h
  obtain ⟨rfl,rfl⟩:=h
  exact ⟨s,rfl,rfl⟩
 cases h
def qFL (C:Know) (T:Tab) (G:qK) (f:St→St) (o:Oper) (st:St) (orc:List PD):Option (Prop × St × List PD) :=
 match vV G st o.op with
 | none=>none
 | some st=>match vT C T G st o.op orc with
  | some (v,x,orc')=>some (v,f (st.put o.dst x),orc')
  | none=>match qHA C T G st o orc with
   | some (v,x,st',orc')=>some (v,f (st'.put o.dst x),orc')
   | none=>none
def qFK (C:Know) (T:Tab) (G:qK) (f:St→St) (o:Oper) (d:Nat) (pol:Bool) (st:St) (orc:List PD):Option (Prop × St × List PD) :=
 match vV G st o.op with
 | none=>none
 | some st=>match V.guards pol (st.tmps.getD d .dead) with
  | none=>none
  | some b=>match vT C T G st o.op orc with
   | some (v,x,orc')=>some (d<st.tmps.length∧(b=true→v),f (st.put o.dst (.when b x)),orc')
   | none=>match b with
    | true=>match qHA C T G st o orc with
     | some (v,x,st',orc')=>some (d<st.tmps.length∧v,f (st'.put o.dst (.when true x)),orc')
     | none=>none
    | false=>some (d<st.tmps.length,f (st.put o.dst (.when false (.p (.bool false)))),orc)
theorem qX.oneF (hT : TOK P T) {f : St → St} {ops : Array Oper} {o : Oper} {rest : List Oper} {v : Know → Prop} {orc orc' : List PD} (hf : ∀ {l s}, qX P G ops Q l (f s) → qX P G ops Q l s) (h : ∀ C, qFL C T G f o st orc = some (v C, st', orc')) (hv : v (kn P G)) (hgd : o.guard = none)
  (k:qX P G ops Q rest st'):qX P G ops Q (o::rest) st:=by
 have h:=h (kn P G)
 unfold qFL at h
 split at h
 ·cases h
 rename_i st0 hpre
 refine qX.pre hpre ?_
 split at h
 ·rename_i hs
  simp only [Option.some.injEq,Prod.mk.injEq] at h
  obtain ⟨rfl,rfl,rfl⟩:=h
  exact qX.step hgd (kH hT hs hv) (hf k)
 split at h
 ·rename_i hs
  simp only [Option.some.injEq,Prod.mk.injEq] at h
  obtain ⟨rfl,rfl,rfl⟩:=h
  exact qX.step hgd (yY hT hs hv) (hf k)
 cases h
theorem qX.oneIfF (hT : TOK P T) {f : St → St} (d : Nat) {ops : Array Oper} {o : Oper} {rest : List Oper} {j : Nat} {pol : Bool} {v : Know → Prop} {orc orc' : List PD} (hf : ∀ {l s}, qX P G ops Q l (f s) → qX P G ops Q l s) (h : ∀ C, qFK C T G f o d pol st orc = some (v C, st', orc')) (hv : v (kn P G))
  (hgd:o.guard=some (j,pol)) (hd:(ops[j]?).bind (·.dst)=some d) (k:qX P G ops Q rest st'):qX P G ops Q (o::rest) st:=by
 have h:=h (kn P G)
 unfold qFK at h
 split at h
 ·cases h
 rename_i st0 hpre
 refine qX.pre hpre ?_
 split at h
 ·cases h
 rename_i b hb
 split at h
 ·rename_i hs
  simp only [Option.some.injEq,Prod.mk.injEq] at h
  obtain ⟨h1,rfl,rfl⟩:=h
  have hv':=h1.symm ▸ hv
  exact qX.stepIf hgd hd hv'.1 hb (fun hbt=>kH hT hs (hv'.2 hbt)) (hf k)
 split at h
 ·split at h
  ·rename_i hs
   simp only [Option.some.injEq,Prod.mk.injEq] at h
   obtain ⟨h1,rfl,rfl⟩:=h
   have hv':=h1.symm ▸ hv
   exact qX.stepIfT hgd hd hv'.1 hb (yY hT hs hv'.2) (hf k)
  cases h
 simp only [Option.some.injEq,Prod.mk.injEq] at h
 obtain ⟨h1,rfl,rfl⟩:=h
 have hv':=h1.symm ▸ hv
 exact qX.stepIfF hgd hd hv' hb (hf k)
def qUC (C:Know) (T:Tab) (G:qK) (ks:List Nat) (o:Oper) (st:St) (orc:List PD):Option (Prop × St × List PD):=qFL C T G (St.keep ks) o st orc
def qUB (C:Know) (T:Tab) (G:qK) (ks:List Nat) (o:Oper) (d:Nat) (pol:Bool) (st:St) (orc:List PD):Option (Prop × St × List PD):=qFK C T G (St.keep ks) o d pol st orc
def keepIf (ks:List Nat) (st:St):St:=match ks with
 | []=>st
 | _::_=>st.keep ks
theorem qX.keepIf {ops:Array Oper} {l:List Oper} (ks:List Nat) (k:qX P G ops Q l (keepIf ks st)):qX P G ops Q l st:=by
 cases ks with
 | nil=>exact k
 | cons a r=>exact qX.keep _ k
theorem qX.one (hT : TOK P T) (ks : List Nat) (orc : List PD) {ops : Array Oper} {o : Oper} {rest : List Oper} {v : Know → Prop} {orc' : List PD} (h : ∀ C, qUC C T G ks o st orc = some (v C, st', orc')) (hv : v (kn P G)) (hgd : o.guard = none)
  (k:qX P G ops Q rest st'):qX P G ops Q (o::rest) st:=qX.oneF hT (qX.keep ks) h hv hgd k
theorem qX.oneIf (hT : TOK P T) (ks : List Nat) (orc : List PD) (d : Nat) {ops : Array Oper} {o : Oper} {rest : List Oper} {j : Nat} {pol : Bool} {v : Know → Prop} {orc' : List PD} (h : ∀ C, qUB C T G ks o d pol st orc = some (v C, st', orc')) (hv : v (kn P G))
  (hgd:o.guard=some (j,pol)) (hd:(ops[j]?).bind (·.dst)=some d) (k:qX P G ops Q rest st'):qX P G ops Q (o::rest) st:=qX.oneIfF hT d (qX.keep ks) h hv hgd hd k
theorem qX.stepK (ks:List Nat) {ops:Array Oper} {o:Oper} {rest:List Oper} {x:V} (hgd:o.guard=none) (h:qW P G o st x st1) (hk:(st1.put o.dst x).keep ks=st') (k:qX P G ops Q rest st'):qX P G ops Q (o::rest) st :=
 qX.step hgd h (qX.keep ks (hk ▸ k))
theorem qX.keepEnd {ops:Array Oper} (ks:List Nat) (k:Q .normal (st.keep ks)):qX P G ops Q [] st:=qX.keep ks (qX.nil k)
def qF (P:Program) (G:qK) (ops:Array Oper) (Q:Exit→St→Prop) (l:List Oper) (st:St) (_:List PD):Prop:=qX P G ops Q l st
theorem qF.nil {ops:Array Oper} {orc:List PD} (h:Q .normal st):qF P G ops Q [] st orc:=qX.nil h
theorem qF.one (hT : TOK P T) (ks : List Nat) {orc : List PD} {ops : Array Oper} {o : Oper} {rest : List Oper} {v : Know → Prop} {orc' : List PD} (h : ∀ C, qUC C T G ks o st orc = some (v C, st', orc')) (hv : v (kn P G)) (hgd : o.guard = none)
  (k:qF P G ops Q rest st' orc'):qF P G ops Q (o::rest) st orc:=qX.one hT ks orc h hv hgd k
theorem qF.oneIf (hT : TOK P T) (ks : List Nat) {orc : List PD} (d : Nat) {ops : Array Oper} {o : Oper} {rest : List Oper} {j : Nat} {pol : Bool} {v : Know → Prop} {orc' : List PD} (h : ∀ C, qUB C T G ks o d pol st orc = some (v C, st', orc')) (hv : v (kn P G))
  (hgd:o.guard=some (j,pol)) (hd:(ops[j]?).bind (·.dst)=some d) (k:qF P G ops Q rest st' orc'):qF P G ops Q (o::rest) st orc:=qX.oneIf hT ks orc d h hv hgd hd k
theorem s1 (hT : TOK P T) (ks : List Nat) {orc : List PD} {ops : Array Oper} {o : Oper} {rest : List Oper} {v : Know → Prop} {orc' : List PD} (k : qF P G ops Q rest st' orc')
  (h:∀ C,qUC C T G ks o st orc=some (v C,st',orc'):=by intro C; conv=>lhs; simp) (hv:v (kn P G):=by first | with_reducible exact True.intro | omega | simp | (simp +contextual; omega)) (hgd:o.guard=none:=by rfl):qF P G ops Q (o::rest) st orc:=qX.one hT ks orc h hv hgd k
theorem s2 (hT : TOK P T) (ks : List Nat) (d : Nat) {orc : List PD} {ops : Array Oper} {o : Oper} {rest : List Oper} {j : Nat} {pol : Bool} {v : Know → Prop} {orc' : List PD} (hgd : o.guard = some (j, pol)) (hd : (ops[j]?).bind (·.dst) = some d) (k : qF P G ops Q rest st' orc')
  (h:∀ C,qUB C T G ks o d pol st orc=some (v C,st',orc'):=by intro C; conv=>lhs; simp) (hv:v (kn P G):=by first | with_reducible exact True.intro | omega | simp | (simp +contextual; omega)):qF P G ops Q (o::rest) st orc:=qX.oneIf hT ks orc d h hv hgd hd k
def qAC (P:Program) (G:qK) (ops:Array Oper) (Q:Exit→St→Prop) (l:List Oper) (st:St) (_:List PD) (_:List (List Nat)):Prop:=qX P G ops Q l st
theorem qF.run (kss:List (List Nat)) {orc:List PD} {ops:Array Oper} {l:List Oper} (h:qAC P G ops Q l st orc kss):qF P G ops Q l st orc:=h
theorem zX {kss:List (List Nat)} {orc:List PD} {ops:Array Oper} {l:List Oper} (h:qF P G ops Q l st orc):qAC P G ops Q l st orc kss:=h
theorem qA {kss:List (List Nat)} {ops:Array Oper} {orc:List PD} (h:Q .normal st):qAC P G ops Q [] st orc kss:=qX.nil h
theorem rgz (orc:List PD) (kss:List (List Nat)) {id:Nat} {l:List Oper} (h:qAC P G l.toArray Q l st orc kss):AW P G (.region id l.toArray false) Q st:=AW.region h
theorem rgn (orc:List PD) (kss:List (List Nat)) {id:Nat} {l:List Oper} {b:Code} (h:qAC P G l.toArray (andThen (AW P G b Q) Q) l st orc kss):AW P G (.seq (.region id l.toArray false) b) Q st:=AW.seq (AW.region h)
theorem op1 (hT : TOK P T) {ks : List Nat} {kss : List (List Nat)} {orc : List PD} {ops : Array Oper} {o : Oper} {rest : List Oper} {v : Know → Prop} {orc' : List PD} (k : qAC P G ops Q rest st' orc' kss) (hgd : o.guard = none := by rfl)
  (h:∀ C,qFL C T G (keepIf ks) o st orc=some (v C,st',orc'):=by intro C; conv=>lhs; simp) (hv:v (kn P G):=by first | with_reducible exact True.intro | omega | simp | (simp +contextual; omega)) :
  qAC P G ops Q (o::rest) st orc (ks::kss):=qX.oneF hT (qX.keepIf ks) h hv hgd k
theorem op2 (hT : TOK P T) {ks : List Nat} {kss : List (List Nat)} {d : Nat} {orc : List PD} {ops : Array Oper} {o : Oper} {rest : List Oper} {j : Nat} {pol : Bool} {v : Know → Prop} {orc' : List PD} (k : qAC P G ops Q rest st' orc' kss) (hgd : o.guard = some (j, pol) := by rfl) (hd : (ops[j]?).bind (·.dst) = some d := by rfl)
  (h:∀ C,qFK C T G (keepIf ks) o d pol st orc=some (v C,st',orc'):=by intro C; conv=>lhs; simp) (hv:v (kn P G):=by first | with_reducible exact True.intro | omega | simp | (simp +contextual; omega)):qAC P G ops Q (o::rest) st orc (ks::kss):=qX.oneIfF hT d (qX.keepIf ks) h hv hgd hd k
theorem ai {a b:Prop} (x:a) (y:b):a∧b:=⟨x,y⟩
theorem oq1 (hT : TOK P T) {ks : List Nat} {kss : List (List Nat)} {orc : List PD} {ops : Array Oper} {o : Oper} {rest : List Oper} {v : Know → Prop} {orc' : List PD} {A : Prop} (hA : A) (k : qAC P G ops Q rest st' orc' kss) (hgd : o.guard = none := by rfl)
    (h:∀ C,qFL C T G (keepIf ks) o st orc=some (v C,st',orc'):=by intro C; conv=>lhs; simp) (hv:A→v (kn P G):=by intro hA; first | with_reducible exact True.intro | exact hA | exact hA.1 | exact hA.2 | exact hA.2.1 | exact hA.2.2 | (simpa using hA; done) | omega | simp | (simp +contextual; omega)) :
    qAC P G ops Q (o::rest) st orc (ks::kss):=qX.oneF hT (qX.keepIf ks) h (hv hA) hgd k
theorem oq2 (hT : TOK P T) {ks : List Nat} {kss : List (List Nat)} {d : Nat} {orc : List PD} {ops : Array Oper} {o : Oper} {rest : List Oper} {j : Nat} {pol : Bool} {v : Know → Prop} {orc' : List PD} {A : Prop} (hA : A) (k : qAC P G ops Q rest st' orc' kss) (hgd : o.guard = some (j, pol) := by rfl) (hd : (ops[j]?).bind (·.dst) = some d := by rfl)
    (h:∀ C,qFK C T G (keepIf ks) o d pol st orc=some (v C,st',orc'):=by intro C; conv=>lhs; simp) (hv:A→v (kn P G):=by intro hA; first | with_reducible exact True.intro | exact hA | exact hA.1 | exact hA.2 | exact hA.2.1 | exact hA.2.2 | (simpa using hA; done) | omega | simp | (simp +contextual; omega)):qAC P G ops Q (o::rest) st orc (ks::kss):=qX.oneIfF hT d (qX.keepIf ks) h (hv hA) hgd hd k
theorem cnd {c:Operand} {x y:Code} {p:Prop} {b:Bool} (h1:b=true→AW P G x Q st) (h2:b=false→AW P G y Q st) (hc:st.arg G c=(p,.p (.bool b)):=by conv=>lhs; simp) (hp:p:=by exact trivial):AW P G (.cond c x y) Q st:=AW.cond hc hp h1 h2
theorem qF.stepK (ks:List Nat) {orc:List PD} {ops:Array Oper} {o:Oper} {rest:List Oper} {x:V} (h:qW P G o st x st1) (hk:(st1.put o.dst x).keep ks=st') (hgd:o.guard=none) (k:qF P G ops Q rest st' orc):qF P G ops Q (o::rest) st orc :=
 qX.stepK ks hgd h hk k
theorem AW.seqRegionO (orc:List PD) {id:Nat} {l:List Oper} {b:Code} (h:qF P G l.toArray (andThen (AW P G b Q) Q) l st orc):AW P G (.seq (.region id l.toArray false) b) Q st:=AW.seq (AW.region h)
theorem AW.runDrawK (hT : TOK P T) (hmix : P.follows .mixedOrders = true) (ks : List Nat) (m : Nat) (tss : List (List Nat)) (orc1 orc2 : List PD) {id : Nat} {l : List Oper} {sms : List Sm} {v1 v2 : Know → Prop} (hchk : zO l m tss = true)
  (h1:∀ C,wG C T G l st (l.take m) tss st orc1=some (v1 C,sms,st1)) (hv1:v1 (kn P G)) (hconf:xG l m (sms.map Sm.sum)=true) (h2:∀ C,qQF ks (yO C T G l (l.drop m) st1 orc2)=some (v2 C,st')) (hv2:v2 (kn P G)) (k:Q .normal st') :
  AW P G (.region id l.toArray true) Q st:=by
 obtain ⟨s,hs,rfl⟩:=qSS (h2 (kn P G))
 have hlate:=wF (Q:=Q) hT l (l.drop m) [] _ orc2 _ s hs hv2 (qX.keepEnd ks k)
 rw [List.append_nil] at hlate
 exact AW.runDraw0 hT hmix m tss orc1 hchk (h1 (kn P G)) hv1 hconf hlate
theorem AW.seqRunDrawK (hT : TOK P T) (hmix : P.follows .mixedOrders = true) (ks : List Nat) (m : Nat) (tss : List (List Nat)) (orc1 orc2 : List PD) {id : Nat} {l : List Oper} {b : Code} {sms : List Sm} {v1 v2 : Know → Prop} (hchk : zO l m tss = true)
  (h1:∀ C,wG C T G l st (l.take m) tss st orc1=some (v1 C,sms,st1)) (hv1:v1 (kn P G)) (hconf:xG l m (sms.map Sm.sum)=true) (h2:∀ C,qQF ks (yO C T G l (l.drop m) st1 orc2)=some (v2 C,st')) (hv2:v2 (kn P G)) (k:AW P G b Q st') :
  AW P G (.seq (.region id l.toArray true) b) Q st:=AW.seq (AW.runDrawK hT hmix ks m tss orc1 orc2 hchk h1 hv1 hconf h2 hv2 k)
def qH (i:Nat):List V→List (Nat × V)
 | []=>[]
 | x::xs=>(i,x)::qH (i+1) xs
theorem qJC:∀ (xs:List V) (i j:Nat),wH j (qH i xs)=if i≤j then xs.getD (j-i) .dead else .dead
 | [],i,j=>by simp [qH,wH]
 | x::xs,i,j=>by
  simp only [qH,wH,qJC xs]
  by_cases h:i=j
  ·subst h; simp
  rw [if_neg h]
  by_cases h2:i+1≤j
  ·rw [if_pos h2,if_pos (by omega),show j-i=(j-(i+1))+1 by omega]; simp
  rw [if_neg h2,if_neg (by omega)]
theorem qIG (xs:List V) (n:Nat) (h:xs.length≤n):xs++List.replicate (n-xs.length) .dead=qS n (qH 0 xs):=by
 apply List.ext_getElem?
 intro i
 rw [uJ,qJC,List.getElem?_append]
 simp only [Nat.zero_le,if_true,Nat.sub_zero]
 by_cases h1:i<xs.length
 ·rw [if_pos h1,if_pos (by omega)]; simp [h1]
 rw [if_neg h1]
 by_cases h2:i<n
 ·rw [if_pos h2]; simp [show i-xs.length<n-xs.length by omega,List.getD_eq_getElem?_getD,List.getElem?_eq_none (show xs.length≤i by omega)]
 rw [if_neg h2]; simp [show ¬ i-xs.length<n-xs.length by omega]
theorem AFn.introU (hT : TOK P T) {f : FuncId} {fn : Func} {c : Code} {args : List PD} {r : PD} (hf : P.funcs[f]? = some fn) (hn : (fn.name == "runtime.NumGoroutine") = false) (hb : fn.body = some c) (hl : args.length.ble fn.ntmps = true)
  (h:AW P G c (Fin T fn.results.toList r) ⟨qS fn.ntmps (qH 0 (args.map .p)),[],[],0⟩):AFn P G f args r:=by
 refine AFn.intro hT hf hn hb ?_
 have:=qIG (args.map V.p) fn.ntmps (by simpa using Nat.le_of_ble_eq_true hl)
 simp only [List.length_map] at this
 rw [St.start,this]; exact h
theorem AX.introU (hT : TOK P T) {f : FuncId} {fn : Func} {c : Code} {xs : List V} {H : List (Nat × Box)} {r : V} {ps : List Nat} {H' : List (Nat × Box)} (base : Nat) (hf : P.funcs[f]? = some fn)
  (hn : (fn.name == "runtime.NumGoroutine") = false) (hb : fn.body = some c) (hl : xs.length.ble fn.ntmps = true) (h : AW P G c (zDZ T fn.results.toList r ps H') ⟨qS fn.ntmps (qH 0 xs), H.map (·.1), H, base⟩) : AX P G f xs H r ps H' := by
 refine AX.intro hT base hf hn hb ?_
 rw [St.startX,qIG xs fn.ntmps (Nat.le_of_ble_eq_true hl)]; exact h
theorem qMS {n i:Nat} {as:List (Nat × V)} {x:V} (h:wH i as=x) (hi:i<n):(qS n as)[i]?=some x:=by rw [uJ,if_pos hi,h]
theorem AW.slFactU {c:Code} {n i sz b:Nat} {es:List PD} {as:List (Nat × V)} {p:List Nat} {H:List (Nat × Box)} (h:wH i as = .p (.sl sz es)) (hi:i<n) (k:es.length≤9223372036854775807→AW P G c Q ⟨qS n as,p,H,b⟩):AW P G c Q ⟨qS n as,p,H,b⟩ :=
 AW.slFact (i:=i) (qMS h hi) k
theorem AW.strFactU {c:Code} {n i b:Nat} {s:List UInt8} {as:List (Nat × V)} {p:List Nat} {H:List (Nat × Box)} (h:wH i as = .p (.str s)) (hi:i<n) (k:s.length≤9223372036854775807→AW P G c Q ⟨qS n as,p,H,b⟩):AW P G c Q ⟨qS n as,p,H,b⟩ :=
 AW.strFact (i:=i) (qMS h hi) k
theorem AW.intFactU {c:Code} {n i b:Nat} {kd:IntKind} {z:Int} {as:List (Nat × V)} {p:List Nat} {H:List (Nat × Box)} (h:wH i as = .p (.int kd z)) (hi:i<n) (k:yS kd≤z∧z≤yT kd→AW P G c Q ⟨qS n as,p,H,b⟩):AW P G c Q ⟨qS n as,p,H,b⟩ :=
 AW.intFact (i:=i) (qMS h hi) k
attribute [simp] qUC qUB qFL qFK keepIf wH qSV qKO qGY qIY leA qUU St.keep qQF qH
end
theorem qG {T:Tab} {rs:List ResultVar} {r:PD} {st:St} {l:List V} (h:qFN T st rs=some (True,l):=by (conv=>lhs; simp)) (k:V.fits st.H (qMT l) r:=by simp):Fin T rs r .ret st:=⟨.inr rfl,_,_,h,trivial,k⟩
theorem uU {T : Tab} {rs : List ResultVar} {r : V} {ps : List Nat} {H' : List (Nat × Box)} {st : St} {l : List V} (h : qFN T st rs = some (True, l) := by (conv => lhs; simp)) (k : VLe (qMT l) r := by simp) (a : ∀ i ∈ ps, i ∈ st.pins := by simp) (b : ∀ x ∈ H', x ∈ st.H := by simp)
  (c:(H'.map (·.1)).Nodup:=by simp):zDZ T rs r ps H' .ret st:=⟨.inr rfl,_,_,h,trivial,k,a,b,c⟩
theorem qCV {T : Tab} {rs : List ResultVar} {r : V} {ps : List Nat} {H' : List (Nat × Box)} {st : St} {l : List V} (h : qFN T st rs = some (True, l) := by (conv => lhs; simp)) (k : VLe (qMT l) r := by simp) (a : ∀ i ∈ ps, i ∈ st.pins := by simp) (b : ∀ x ∈ H', x ∈ st.H := by simp)
  (c:(H'.map (·.1)).Nodup:=by simp):zDZ T rs r ps H' .normal st:=⟨.inl rfl,_,_,h,trivial,k,a,b,c⟩
section
variable {P:Program} {T:Tab} {G:qK} {Q:Exit→St→Prop} {st st':St}
theorem qF.freeze {ops:Array Oper} {l:List Oper} {orc:List PD} (i:Nat) (h:st.freeze i=st') (k:qF P G ops Q l st' orc):qF P G ops Q l st orc:=fun x M μ tmps w hg r=>by
 subst h
 obtain ⟨M',r'⟩:=r.freeze i
 exact k x M' μ tmps w hg r'
theorem qF.take {ops:Array Oper} {l:List Oper} {orc:List PD} (i j:Nat) (h:(st.kill j).ren i j=st') (k:qF P G ops Q l st' orc):qF P G ops Q l st orc :=
 fun x M _ tmps w hg r=>(h ▸ k) x M _ tmps w hg ((r.kill j).ren (vK st j))
def jJ:List (Option Nat)→List V→List V
 | some sz::l,.nilsl::xs => .p (.sl sz [])::jJ l xs
 | _::l,x::xs=>x::jJ l xs
 | [],xs=>xs
 | _,[]=>[]
theorem qFW:∀ (l:List (Option Nat)) (xs:List V),(jJ l xs).length=xs.length
 | [],xs=>by simp [jJ]
 | none::l,[]=>by simp [jJ]
 | some sz::l,[]=>by simp [jJ]
 | none::l,x::xs=>by simp [jJ,qFW l xs]
 | some sz::l,x::xs=>by cases x <;> simp [jJ,qFW l xs]
theorem qWM {M:qT} {μ:Mu} {u:Value} (sz:Nat) (h:RV M μ u .nilsl):RV M μ u (.p (.sl sz [])):=by
 cases h
 exact .p (.sl 0 0 rfl (Nat.le_refl _) (by simp [maxLen]) (fun h=>(h rfl).elim) (fun i e h=>by simp at h) (fun i e j h=>by simp at h) (fun i e j d u h=>by simp at h))
theorem qFX {M:qT} {μ:Mu}:∀ (l:List (Option Nat)) (xs:List V) (i:Nat) (y:V),(jJ l xs)[i]?=some y→∃ x,xs[i]?=some x∧∀ u,RV M μ u x→RV M μ u y
 | [],xs,i,y,h=>⟨y,by simpa [jJ] using h,fun _ h=>h⟩
 | none::l,[],i,y,h=>by simp [jJ] at h
 | some sz::l,[],i,y,h=>by simp [jJ] at h
 | none::l,x::xs,i,y,h=>by
  cases i with
  | zero=>simp [jJ] at h; subst h; exact ⟨x,by simp,fun _ h=>h⟩
  | succ i=>simp [jJ] at h; obtain ⟨x',h1,h2⟩:=qFX (M:=M) (μ:=μ) l xs i y h; exact ⟨x',by simpa using h1,h2⟩
 | some sz::l,x::xs,i,y,h=>by
  cases i with
  | zero =>
   refine ⟨x,by simp, ?_⟩
   cases x <;> simp [jJ] at h <;> subst h <;> first | exact fun _ h=>qWM sz h | exact fun _ h=>h
  | succ i =>
   have h':(jJ l xs)[i]?=some y:=by cases x <;> simpa [jJ] using h
   obtain ⟨x',h1,h2⟩:=qFX (M:=M) (μ:=μ) l xs i y h'
   exact ⟨x',by simpa using h1,h2⟩
def St.fill (st:St) (id:Nat) (l:List (Option Nat)):St :=
 match zW id st.H with
 | some (.vars e cs)=>{ st with H:=wB id (.vars e (jJ l cs)) st.H }
 | _=>st
theorem Rel.fill {c:Ctx} {M:qT} {μ:Mu} {tmps:Array Value} {w:World} (r:Rel c M μ st tmps w) (id:Nat) (l:List (Option Nat)):Rel c M μ (st.fill id l) tmps w:=by
 unfold St.fill
 split
 ·rename_i e cs hb
  have hm:=zG hb
  have hk:qI id st.H=true:=qE.2 ⟨_,hm⟩
  have hbx:=r.box id _ hm
  cases hbx with
  | @vars _ _ b arr h0 h1 h2 h3 h4 =>
   refine r.write hk h0 ⟨rfl,rfl,rfl,rfl,fun _ _=>rfl⟩ (.vars h0 h1 (by rw [qFW]; exact h2) h3 fun i u y hu hy => ?_)
   obtain ⟨x,hx,hxy⟩:=qFX (M:=M) (μ:=μ) l cs i y hy
   exact hxy u (h4 i u x hu hx)
 exact r
theorem qF.fill {ops:Array Oper} {l:List Oper} {orc:List PD} (id:Nat) (ns:List (Option Nat)) (h:st.fill id ns=st') (k:qF P G ops Q l st' orc):qF P G ops Q l st orc :=
 fun x M μ tmps w hg r=>(h ▸ k) x M μ tmps w hg (r.fill id ns)
attribute [simp] St.fill jJ
end
mutual
def V.frv (id:Nat) (ds:List PD):V→V
 | .ms i=>if i=id then .dead else .ms i
 | .agg cs => .agg (V.frvL id ds cs)
 | .when b x => .when b (V.frv id ds x)
 | .func f a b => .func f (V.frvL id ds a) (V.frvL id ds b)
 | .tuple cs => .tuple (V.frvL id ds cs)
 | .ptr i o=>if i=id then .cptr (ds.drop o) else .ptr i o
 | .rptr i n s o=>if i=id then .dead else .rptr i n s o
 | .tl i n s=>if i=id then .dead else .tl i n s
 | .it i=>if i=id then .dead else .it i
 | .p d => .p d
 | .dead => .dead
 | .nilsl => .nilsl
 | .cptr cs => .cptr cs
def V.frvL (id:Nat) (ds:List PD):List V→List V
 | []=>[]
 | x::xs=>V.frv id ds x::V.frvL id ds xs
end
theorem V.frvL_eq (id:Nat) (ds:List PD):∀ l,V.frvL id ds l=l.map (V.frv id ds)
 | []=>by simp only [V.frvL,List.map_nil]
 | x::xs=>by simp only [V.frvL,List.map_cons,V.frvL_eq id ds xs]
theorem RV.frv {M M' : qT} {μ : Mu} {id : Nat} {ds : List PD} (hM : ∀ b o v, M b o = some v → M' b o = some v) (hd : ∀ b, (μ id).blk = some b → (∀ (j : Nat) d, ds[j]? = some d → ∃ u, M' b j = some u ∧ u.oneCell' = true) ∧ (∀ (j : Nat) d u, ds[j]? = some d → M' b j = some u → Rd M' u d))
  {u:Value} {x:V} (r:RV M μ u x):RV M' μ u (x.frv id ds):=by
 induction r with
 | p r=>simp only [V.frv]; exact .p (r.mono hM)
 | dead=>simp only [V.frv]; exact .dead
 | nilsl=>simp only [V.frv]; exact .nilsl
 | @ptr i off b h1 =>
  simp only [V.frv]; split
  ·rename_i e; subst e
   obtain ⟨h2,h3⟩:=hd b h1
   exact .cptr (fun j d hj=>h2 _ d (by rw [List.getElem?_drop] at hj; exact hj)) (fun j d u hj hu=>h3 _ d u (by rw [List.getElem?_drop] at hj; exact hj) hu)
  exact .ptr h1
 | rptr h1 =>
  simp only [V.frv]; split
  ·exact .dead
  exact .rptr h1
 | tl h1 h2 h3 =>
  simp only [V.frv]; split
  ·exact .dead
  exact .tl h1 h2 h3
 | cptr h1 h2 =>
  simp only [V.frv]
  refine .cptr (fun j d hd => ?_) (fun j d u hd hu => ?_)
  ·obtain ⟨u,hu,hc⟩:=h1 j d hd; exact ⟨u,hM _ _ _ hu,hc⟩
  obtain ⟨u',hu',_⟩:=h1 j d hd
  have:=hM _ _ _ hu'
  rw [this] at hu; cases hu
  exact (h2 j d _ hd hu').mono hM
 | ms h1 h2 =>
  simp only [V.frv]; split
  ·exact .dead
  exact .ms h1 h2
 | it h1 =>
  simp only [V.frv]; split
  ·exact .dead
  exact .it h1
 | func h1 h2 _ _ ih1 ih2 =>
  simp only [V.frv,V.frvL_eq]
  refine .func (by simpa using h1) (by simpa using h2) (fun i u x hu hx => ?_) (fun i u x hu hx => ?_)
  ·rw [List.getElem?_map] at hx
   obtain ⟨y,hy,rfl⟩:=Option.map_eq_some_iff.1 hx
   exact ih1 i u y hu hy
  rw [List.getElem?_map] at hx
  obtain ⟨y,hy,rfl⟩:=Option.map_eq_some_iff.1 hx
  exact ih2 i u y hu hy
 | agg h1 h2 _ ih =>
  simp only [V.frv,V.frvL_eq]
  refine .agg (by simpa using h1) h2 (fun i u x hu hx => ?_)
  rw [List.getElem?_map] at hx
  obtain ⟨y,hy,rfl⟩:=Option.map_eq_some_iff.1 hx
  exact ih i u y hu hy
 | tuple h1 _ ih =>
  simp only [V.frv,V.frvL_eq]
  refine .tuple (by simpa using h1) (fun i u x hu hx => ?_)
  rw [List.getElem?_map] at hx
  obtain ⟨y,hy,rfl⟩:=Option.map_eq_some_iff.1 hx
  exact ih i u y hu hy
 | when _ h2 ih=>simp only [V.frv]; exact .when (fun hb=>ih hb) h2
def Box.frv (id:Nat) (ds:List PD):Box→Box
 | .vars e cs => .vars e (V.frvL id ds cs)
 | .row e sz es => .row e sz es
 | .iter s pos => .iter s pos
 | .mp ks vs => .mp ks (V.frvL id ds vs)
 | .mpx ks vs => .mpx ks (V.frvL id ds vs)
 | .obj b v o rs => .obj b v o rs
 | .brow e bs => .brow e bs
theorem RBox.frv {M M' : qT} {μ : Mu} {w : World} {id i : Nat} {ds : List PD} (hM : ∀ b o v, M b o = some v → M' b o = some v) (hd : ∀ b, (μ id).blk = some b → (∀ (j : Nat) d, ds[j]? = some d → ∃ u, M' b j = some u ∧ u.oneCell' = true) ∧ (∀ (j : Nat) d u, ds[j]? = some d → M' b j = some u → Rd M' u d))
  {bx:Box} (r:RBox M μ w i bx):RBox M' μ w i (bx.frv id ds):=by
 cases r with
 | vars h0 h1 h2 h3 h4 =>
  simp only [Box.frv,V.frvL_eq]
  refine .vars h0 h1 (by simpa using h2) h3 fun i u x hu hx => ?_
  rw [List.getElem?_map] at hx
  obtain ⟨y,hy,rfl⟩:=Option.map_eq_some_iff.1 hx
  exact (h4 i u y hu hy).frv hM hd
 | row h0 hv h1 h2 h3 h4 h5 h6 h7=>exact .row h0 hv h1 h2 h3 h4 h5 h6 fun i e' j d u he hd hu=>(h7 i e' j d u he hd hu).mono hM
 | rowN h0 hv=>exact .rowN h0 hv
 | iter h0 h1 h2 h3=>exact .iter h0 h1 h2 h3
 | obj h0 hv h1=>exact .obj h0 hv h1
 | brow h0 hv h1 h2 h3 h4 h5 h6=>exact .brow h0 hv h1 h2 h3 h4 h5 h6
 | mpx h0 hv h1 hB hl h2 h3 =>
  simp only [Box.frv,V.frvL_eq]
  refine .mpx h0 hv h1 hB (by simpa using hl) (fun e he => ?_) h3
  obtain ⟨i,ba,g1,g2,g3,g4⟩:=h2 e he
  refine ⟨i,ba,g1,g2,g3,fun x hx => ?_⟩
  rw [List.getElem?_map] at hx
  obtain ⟨y,hy,rfl⟩:=Option.map_eq_some_iff.1 hx
  exact (g4 y hy).frv hM hd
 | mp h0 hv h1 hB h2 h3 h4 h5 =>
  simp only [Box.frv,V.frvL_eq]
  refine .mp h0 hv h1 hB h2 (by simpa using h3) h4 fun i e x he hx => ?_
  rw [List.getElem?_map] at hx
  obtain ⟨y,hy,rfl⟩:=Option.map_eq_some_iff.1 hx
  exact (h5 i e y he hy).frv hM hd
def qKR (id:Nat) (ds:List PD):List (Nat × Box)→List (Nat × Box)
 | []=>[]
 | (i,b)::r=>if i=id then qKR id ds r else (i,b.frv id ds)::qKR id ds r
theorem qER {id:Nat} {ds:List PD}:∀ {H:List (Nat × Box)} {i:Nat} {b:Box},(i,b)∈qKR id ds H→i≠id∧∃ b',(i,b')∈H∧b=b'.frv id ds
 | (j,c)::r,i,b,h=>by
  simp only [qKR] at h
  split at h
  ·obtain ⟨h1,b',h2,h3⟩:=qER h; exact ⟨h1,b',List.mem_cons.2 (.inr h2),h3⟩
  rename_i hj
  rcases List.mem_cons.1 h with e | e
  ·cases e; exact ⟨hj,c,by simp,rfl⟩
  obtain ⟨h1,b',h2,h3⟩:=qER e; exact ⟨h1,b',List.mem_cons.2 (.inr h2),h3⟩
theorem qFV (id:Nat) (ds:List PD):∀ H:List (Nat × Box),(qKR id ds H).map (·.1)=(H.map (·.1)).filter (· ≠ id)
 | []=>rfl
 | (j,c)::r=>by
  simp only [qKR]
  split
  ·rename_i h; simp [h,qFV id ds r]
  rename_i h; simp [h,qFV id ds r]
theorem qDL {id i:Nat} {ds:List PD} {H:List (Nat × Box)} (h:qI i (qKR id ds H)=true):i≠id∧qI i H=true:=by
 obtain ⟨b,hb⟩:=qE.1 h
 obtain ⟨h1,b',h2,_⟩:=qER hb
 exact ⟨h1,qE.2 ⟨b',h2⟩⟩
def St.freezeV (st:St) (id:Nat):St :=
 match zW id st.H with
 | some (.vars _ cs)=>match vM cs with
  | some ds=>{ st with tmps:=V.frvL id ds st.tmps,pins:=st.pins.filter (· != id),H:=qKR id ds st.H }
  | none=>st
 | _=>st
theorem Rel.freezeV {c:Ctx} {M:qT} {μ:Mu} {st:St} {tmps:Array Value} {w:World} (r:Rel c M μ st tmps w) (id:Nat):∃ M',Rel c M' μ (st.freezeV id) tmps w:=by
 unfold St.freezeV
 split
 ·rename_i e cs hb
  split
  ·rename_i ds hds
   have hm:=zG hb
   have hk:qI id st.H=true:=qE.2 ⟨_,hm⟩
   let M2:qT:=fun b o=>if (μ id).blk=some b then w.cell? ⟨b,o,none⟩ else M b o
   have e1:∀ b o,(μ id).blk=some b→M2 b o=w.cell? ⟨b,o,none⟩:=fun b o h=>if_pos h
   have e2:∀ b o,(μ id).blk≠some b→M2 b o=M b o:=fun b o h=>if_neg h
   have hM:∀ b o v,M b o=some v→M2 b o=some v:=by
    intro b o v hv
    by_cases h:(μ id).blk=some b
    ·rw [e1 b o h]; exact r.mem b o v hv
    rw [e2 b o h]; exact hv
   have hfit:=xH (H:=[]) hds
   have hd:∀ b,(μ id).blk=some b→(∀ (j:Nat) d,ds[j]?=some d→∃ u,M2 b j=some u∧u.oneCell'=true)∧(∀ (j:Nat) d u,ds[j]?=some d→M2 b j=some u→Rd M2 u d):=by
    intro b hbk
    have hbx:=r.box id _ hm
    cases hbx with
    | @vars _ _ b' arr h0 h1 h2 h3 h4 =>
     rw [hbk] at h0
     cases h0
     have hl:=V.fitsL_len hfit
     have hcell:∀ j,w.cell? ⟨b,j,none⟩=arr[j]?:=fun j=>wP h1
     refine ⟨fun j d hj => ?_,fun j d u hj hu => ?_⟩
     ·have hlt:j<arr.size:=by rw [h2,hl]; exact (List.getElem?_eq_some_iff.1 hj).1
      exact ⟨arr[j],by rw [e1 b j hbk,hcell]; simp [hlt],h3 j _ (by simp [hlt])⟩
     rw [e1 b j hbk,hcell] at hu
     have hlt:j<cs.length:=by rw [hl]; exact (List.getElem?_eq_some_iff.1 hj).1
     have hx:cs[j]?=some cs[j]:=by simp [hlt]
     exact (kX (h4 j u _ hu hx) (V.fitsL_get hfit hx hj)).mono hM
   refine ⟨M2, ?_,fun b o v hv=>hM _ _ _ (r.ext b o v hv),fun b o hb => ?_,⟨by simp [V.frvL_eq,r.slots.1],fun i u x hu hx => ?_⟩,fun i hi=>r.pins i (List.mem_filter.1 hi).1,fun i b hi => ?_, ?_,fun i j b hi hj => ?_,fun i b hi hib => ?_,r.size,r.below⟩
   ·intro b o v hv
    by_cases h:(μ id).blk=some b
    ·rw [e1 b o h] at hv; exact hv
    rw [e2 b o h] at hv; exact r.mem b o v hv
   ·rw [e2 b o fun h=>hb (r.own id b hk h).1]; exact r.old b o hb
   ·simp only [V.frvL_eq] at hx
    rw [List.getElem?_map] at hx
    obtain ⟨y,hy,rfl⟩:=Option.map_eq_some_iff.1 hx
    exact (r.slots.2 i u y hu hy).frv hM hd
   ·obtain ⟨_,b',h2,rfl⟩:=qER hi
    exact (r.box i b' h2).frv hM hd
   ·show ((qKR id ds st.H).map (·.1)).Nodup
    rw [qFV]; exact r.nodup.filter _
   ·exact r.inj i j b (qDL hi).2 (qDL hj).2
   obtain ⟨h1,h2⟩:=qDL hi
   have h3:=r.own i b h2 hib
   exact ⟨h3.1,h3.2.1,fun o=>by rw [e2 b o fun h=>h1 (r.inj i id b h2 hk hib h)]; exact h3.2.2 o⟩
  exact ⟨M,r⟩
 exact ⟨M,r⟩
section
variable {P:Program} {T:Tab} {G:qK} {Q:Exit→St→Prop} {st st':St}
theorem qF.freezeV {ops:Array Oper} {l:List Oper} {orc:List PD} (i:Nat) (h:st.freezeV i=st') (k:qF P G ops Q l st' orc):qF P G ops Q l st orc:=fun x M μ tmps w hg r=>by
 subst h
 obtain ⟨M',r'⟩:=r.freezeV i
 exact k x M' μ tmps w hg r'
theorem AW.freezeV {c:Code} (i:Nat) (h:st.freezeV i=st') (k:AW P G c Q st'):AW P G c Q st:=fun x M μ tmps w hg r=>by
 subst h
 obtain ⟨M',r'⟩:=r.freezeV i
 exact k x M' μ tmps w hg r'
theorem AW.beginE {c : Code} (d id : Nat) (e : TypeId) (sz : Nat) (hd : st.tmps[d]? = some .nilsl) (hf : st.fresh id = true) (h : ({ st with tmps := st.tmps.set d (.ms id), H := (id, .row e sz []) :: st.H } : St) = st')
  (k:AW P G c Q st'):AW P G c Q st:=AW.begin (d:=d) (id:=id) e sz hd hf (h ▸ k)
theorem AW.renE {c:Code} (i j:Nat) (hf:st.fresh j=true) (h:st.ren i j=st') (k:AW P G c Q st'):AW P G c Q st:=AW.ren i j hf (h ▸ k)
theorem AW.freezeE {c:Code} (i:Nat) (h:st.freeze i=st') (k:AW P G c Q st'):AW P G c Q st:=fun x M μ tmps w hg r=>by
 subst h
 obtain ⟨M',r'⟩:=r.freeze i
 exact k x M' μ tmps w hg r'
@[simp] theorem zHK (id:Nat) (ds:List PD) (n:Nat) (as:List (Nat × V)):V.frvL id ds (qS n as)=qS n (qKO (V.frv id ds) as):=by
 rw [V.frvL_eq,qDQ (by simp only [V.frv])]
attribute [simp] V.frv V.frvL Box.frv qKR St.freezeV
end
section
variable {P:Program} {T:Tab} {G:qK} {Q:Exit→St→Prop} {st st':St}
theorem Rel.plain {M : qT} {w : World} {args : List PD} {vs : Array Value} (μ : Mu) (hmem : ∀ b o v, M b o = some v → w.cell? ⟨b, o, none⟩ = some v) (hsz : vs.size = args.length) (hrd : ∀ (i : Nat) u d, vs[i]? = some u → args[i]? = some d → Rd M u d) :
  Rel ⟨w.heap.size,w,M,μ,wY μ []⟩ M μ ⟨args.map .p,[],[],0⟩ vs w:=by
 refine ⟨hmem,fun _ _ _ h=>h,fun _ _ _=>rfl,⟨by simpa using hsz,fun i u x hu hx => ?_⟩,(fun _ h=>by cases h),(fun _ _ h=>by cases h),List.nodup_nil,(fun _ _ _ h=>by simp [qI] at h),(fun _ _ h=>by simp [qI] at h),Nat.le_refl _,Kept.refl _ _⟩
 rw [List.getElem?_map] at hx
 obtain ⟨d,hd,rfl⟩:=Option.map_eq_some_iff.1 hx
 exact .p (hrd i u d hu hd)
theorem AR.of_AX {f:FuncId} {args:List PD} {k e sz:Nat} {es:List PD} (h:AX P G f (args.map .p) [] (.ms k) [] [(k,.row e sz es)]):AR P G f args e sz es:=by
 refine ⟨h.1,fun M w vs hg hmem hsz hrd=>(h.2 M (fun _=>default) w vs hg (Rel.plain _ hmem hsz hrd)).mono ?_⟩
 rintro e' w' ⟨v,M',μ',rfl,r'⟩
 have hno:∀ b, ¬ wY (fun _=>(default:Loc)) [] b:=fun b ⟨i,hi,_⟩=>by simp [qI] at hi
 have hk:qI k [(k,Box.row e sz es)]=true:=by simp [qI]
 have hv:=r'.slots.2 0 v (.ms k) (by simp) (by simp)
 cases hv with
 | ms hval hone =>
 have hbx:=r'.box k (.row e sz es) (List.mem_singleton.2 rfl)
 refine ⟨v,M',rfl,r'.mem,r'.ext,fun b o hb=>r'.old b o fun hm=>hm.elim (fun h=>by simp at h; omega) (hno b),⟨r'.below.os,r'.below.tape,r'.below.output,r'.below.size,fun j hj=>r'.below.block j fun hm=>hm.elim (fun h=>by simp at h; omega) (hno j)⟩,
  μ' k,hval.symm,hone, ?_,fun b hb => ?_⟩
 ·cases hbx with
  | row h0 hv h1 h2 h3 h4 h5 h6 h7=>exact .row h0 hv h1 h2 h3 h4 h5 h6 h7
  | rowN h0 hv=>exact .rowN h0 hv
 obtain ⟨h1,h2,h3⟩:=r'.own k b hk hb
 exact ⟨h1.elim (fun h=>h) fun h=>(hno b h).elim,h2,h3⟩
theorem qNT (k:Nat) {t e:TypeId} (hd:P.underlying t=some (.slice e)) (a:Option Addr) (n c:Nat) (w:World):(Op.equalIn (k+1) t (.slice a n c) (.slice none 0 0)).run P w = .ok a.isNone w:=by
 cases a <;> simp [Op.equalIn,run_underlying hd]
theorem qF.nilEq {ops : Array Oper} {o : Oper} {rest : List Oper} {orc : List PD} (hT : TOK P T) (ks : List Nat) {t ty e sz : Nat} {x : Operand} {p : Prop} {es : List PD} (ho : o.op = .binOp .eql t x (.const (.slice none 0 0)) ty) (ht : wA T t = some (.sl e))
  (ha:st.arg G x=(p,.p (.sl sz es))) (hp:p) (hgd:o.guard=none) (k:∀ b:Bool,(es≠[]→b=false)→qF P G ops Q rest ((st.put o.dst (.p (.bool b))).keep ks) orc):qF P G ops Q (o::rest) st orc:=by
 intro c M μ tmps w hg r
 have h1:=(qC hg r ha hp).p_inv
 have hd:=hT.sl ht
 generalize hu:Act.eval ⟨tmps,[]⟩ x=u at h1
 cases h1 with
 | @sl a n cc _ _ b o' hn hnc hcm hab h5 h6 h7 =>
 have he:(Op.equal t (.slice a n cc) (.slice none 0 0)).run P w = .ok a.isNone w:=by
  exact qNT 9999 hd a n cc w
 have e1:(execOp (Act.eval ⟨tmps,[]⟩) o).run P w = .ok (.value (.bool a.isNone)) w:=by
  have hg:(eqGuard .eql t x (.const (.slice none 0 0)) (.slice a n cc) (.slice none 0 0)).run P w = .ok () w:=by simp only [eqGuard]; rfl
  have hb2:(binOp .eql t (.slice a n cc) (.slice none 0 0)).run P w = .ok (.bool a.isNone) w:=by
   show (do pure (.bool (← Op.equal t (.slice a n cc) (.slice none 0 0))):Sem Value).run P w=_
   simp only [Sem.run_bind,he,Result.andThen]; rfl
  simp [execOp,ho,hu,hg,hb2,show Act.eval ⟨tmps,[]⟩ (.const (.slice none 0 0)) = .slice none 0 0 from rfl]
 have hb:es≠[]→a.isNone=false:=fun he=>by
  have:n≠0:=by rw [hn]; exact fun h=>he (List.eq_nil_of_length_eq_zero h)
  rw [hab this]; rfl
 refine wpList_plain hgd fun K hK=>yV (next:=fun v w'=>v = .bool a.isNone∧w'=w) (by rw [e1]; exact ⟨rfl,rfl⟩) ?_
 rintro u w' ⟨rfl,rfl⟩
 apply hK
 rw [Act.put_tmps]
 exact qX.keep ks (k _ hb) c M μ _ w' hg (r.put (.p (.bool _)) o.dst)
theorem qF.same {ops:Array Oper} {l:List Oper} {orc:List PD} (h:st=st') (k:qF P G ops Q l st' orc):qF P G ops Q l st orc:=h ▸ k
end
abbrev zDU:=List Nat × List Nat × List Nat × List Nat
def ndB:List (Nat × Box)→Bool
 | []=>true
 | (i,_)::r => !qI i r && ndB r
theorem wQ:∀ {H:List (Nat × Box)},ndB H=true→(H.map (·.1)).Nodup
 | [],_=>List.nodup_nil
 | (i,b)::r,h=>by
  simp only [ndB,Bool.and_eq_true,Bool.not_eq_true'] at h
  simp only [List.map_cons,List.nodup_cons]
  exact ⟨fun hm=>by rw [zL.2 hm] at h; exact absurd h.1 (by simp),wQ h.2⟩
section
variable {P:Program} {T:Tab} {G:qK} {Q:Exit→St→Prop} {st st' st0:St} {ops rest:List Oper} {tss:List (List Nat)} {ts:List Nat} {orc orc':List PD} {acc:uH} {o:Oper} {sm:zDU} {v:Know→Prop}
def DGo (P:Program) (T:Tab) (G:qK) (ops:List Oper) (st0:St) (l:List Oper) (tss:List (List Nat)) (st:St) (orc:List PD) (acc:uH) (K:uH→St→Prop):Prop :=
 ∃ v sms st1,wG (kn P G) T G ops st0 l tss st orc=some (v,sms,st1)∧v∧K (acc++sms.map Sm.sum) st1
variable {K:uH→St→Prop}
theorem DGo.nil (hn:ndB st.H=true) (k:K acc st):DGo P T G ops st0 [] tss st orc acc K:=⟨_,_,_,rfl,wQ hn,by simpa using k⟩
def qHB (C:Know) (T:Tab) (G:qK) (st0:St) (ts:List Nat) (o:Oper) (st:St) (orc:List PD):Option (Prop × St × zDU × List PD) :=
 match qAO C T G st0 (st.small ts) o orc with
 | some (v,s,orc')=>some (v,st.after o.dst s,s.sum,orc')
 | none=>none
theorem DGo.one (h : ∀ C, qHB C T G st0 ts o st orc = some (v C, st', sm, orc')) (hv : v (kn P G)) (hgd : o.guard = none) (hn : ndB st.H = true) (k : DGo P T G ops st0 rest tss st' orc' (acc ++ [sm]) K) :
  DGo P T G ops st0 (o::rest) (ts::tss) st orc acc K:=by
 have h1:=h (kn P G)
 unfold qHB at h1
 split at h1
 ·rename_i v1 s orc1 h2
  simp only [Option.some.injEq,Prod.mk.injEq] at h1
  obtain ⟨h3,rfl,rfl,rfl⟩:=h1
  obtain ⟨w,sms,st1,e,hw,hk⟩:=k
  exact ⟨(st.H.map (·.1)).Nodup∧v1∧w,s::sms,st1,by simp only [wG,hgd,h2,e],⟨wQ hn,h3 ▸ hv,hw⟩,by simpa using hk⟩
 cases h1
def qJN (C:Know) (T:Tab) (G:qK) (st0:St) (ts:List Nat) (o:Oper) (d:Nat) (pol:Bool) (st:St) (orc:List PD):Option (Prop × St × zDU × List PD) :=
 match V.guards pol (st.tmps.getD d .dead) with
 | none=>none
 | some b=>match vD C T G (st.small ts) o.op orc with
  | some (v,x,orc') =>
   let s:Sm:=⟨.when b x,(st.small ts).H,(st.small ts).H,(st.small ts).pins,[],true⟩
   some (d<st.tmps.length∧(b=true→v)∧s.good,st.after o.dst s,s.sum,orc')
  | none=>match b with
   | true=>match qAO C T G st0 (st.small ts) o orc with
    | some (v,s,orc')=>some (d<st.tmps.length∧v,st.after o.dst { s with x := .when true s.x },({ s with x := .when true s.x }:Sm).sum,orc')
    | none=>none
   | false =>
    let s:Sm:=⟨.when false (.p (.bool false)),[],[],[],[],true⟩
    some (d<st.tmps.length,st.after o.dst s,s.sum,orc)
theorem DGo.oneIf (d : Nat) {j : Nat} {pol : Bool} (h : ∀ C, qJN C T G st0 ts o d pol st orc = some (v C, st', sm, orc')) (hv : v (kn P G)) (hgd : o.guard = some (j, pol)) (hd : (ops[j]?).bind (·.dst) = some d) (hn : ndB st.H = true)
  (k:DGo P T G ops st0 rest tss st' orc' (acc++[sm]) K):DGo P T G ops st0 (o::rest) (ts::tss) st orc acc K:=by
 have h1:=h (kn P G)
 have hn':=wQ hn
 unfold qJN at h1
 obtain ⟨w,sms,st1,e,hw,hk⟩:=k
 split at h1
 ·cases h1
 rename_i b hb
 split at h1
 ·rename_i v1 x orc1 h2
  simp only [Option.some.injEq,Prod.mk.injEq] at h1
  obtain ⟨h3,rfl,rfl,rfl⟩:=h1
  have hv':=h3.symm ▸ hv
  exact ⟨(st.H.map (·.1)).Nodup∧d<st.tmps.length∧(b=true→v1)∧Sm.good ⟨.when b x,(st.small ts).H,(st.small ts).H,(st.small ts).pins,[],true⟩∧w,(⟨.when b x,(st.small ts).H,(st.small ts).H,(st.small ts).pins,[],true⟩:Sm)::sms,st1,by simp only [wG,hgd,hd,hb,h2,e],⟨hn',hv'.1,hv'.2.1,hv'.2.2,hw⟩,by simpa using hk⟩
 rename_i h2
 split at h1
 ·split at h1
  ·rename_i v1 s orc1 h4
   simp only [Option.some.injEq,Prod.mk.injEq] at h1
   obtain ⟨h3,rfl,rfl,rfl⟩:=h1
   have hv':=h3.symm ▸ hv
   exact ⟨(st.H.map (·.1)).Nodup∧d<st.tmps.length∧v1∧w,({ s with x := .when true s.x }:Sm)::sms,st1,by simp only [wG,hgd,hd,hb,h2,h4,e],⟨hn',hv'.1,hv'.2,hw⟩,by simpa using hk⟩
  cases h1
 simp only [Option.some.injEq,Prod.mk.injEq] at h1
 obtain ⟨h3,rfl,rfl,rfl⟩:=h1
 have hv':=h3.symm ▸ hv
 exact ⟨(st.H.map (·.1)).Nodup∧d<st.tmps.length∧w,(⟨.when false (.p (.bool false)),[],[],[],[],true⟩:Sm)::sms,st1,by simp only [wG,hgd,hd,hb,h2,e],⟨hn',hv',hw⟩,by simpa using hk⟩
theorem d1 (k : DGo P T G ops st0 rest tss st' orc' (acc ++ [sm]) K) (h : ∀ C, qHB C T G st0 ts o st orc = some (v C, st', sm, orc') := by intro C; conv => lhs; simp) (hv : v (kn P G) := by first | with_reducible exact True.intro | omega | simp | (simp +contextual; omega)) (hgd : o.guard = none := by rfl) (hn : ndB st.H = true := by kernel_rfl) :
  DGo P T G ops st0 (o::rest) (ts::tss) st orc acc K:=DGo.one h hv hgd hn k
theorem d2 (d : Nat) {j : Nat} {pol : Bool} (hgd : o.guard = some (j, pol)) (hd : (ops[j]?).bind (·.dst) = some d) (k : DGo P T G ops st0 rest tss st' orc' (acc ++ [sm]) K) (h : ∀ C, qJN C T G st0 ts o d pol st orc = some (v C, st', sm, orc') := by intro C; conv => lhs; simp) (hv : v (kn P G) := by first | with_reducible exact True.intro | omega | simp | (simp +contextual; omega))
  (hn:ndB st.H=true:=by kernel_rfl):DGo P T G ops st0 (o::rest) (ts::tss) st orc acc K:=DGo.oneIf d h hv hgd hd hn k
theorem dq1 {A : Prop} (hA : A) (k : DGo P T G ops st0 rest tss st' orc' (acc ++ [sm]) K) (h : ∀ C, qHB C T G st0 ts o st orc = some (v C, st', sm, orc') := by intro C; conv => lhs; simp) (hv : A → v (kn P G) := by intro hA; first | with_reducible exact True.intro | exact hA | exact hA.1 | exact hA.2 | exact hA.2.1 | exact hA.2.2 | (simpa using hA; done) | omega | simp | (simp +contextual; omega)) (hgd : o.guard = none := by rfl) (hn : ndB st.H = true := by kernel_rfl) :
    DGo P T G ops st0 (o::rest) (ts::tss) st orc acc K:=DGo.one h (hv hA) hgd hn k
theorem dq2 (d : Nat) {j : Nat} {pol : Bool} (hgd : o.guard = some (j, pol)) (hd : (ops[j]?).bind (·.dst) = some d) {A : Prop} (hA : A) (k : DGo P T G ops st0 rest tss st' orc' (acc ++ [sm]) K) (h : ∀ C, qJN C T G st0 ts o d pol st orc = some (v C, st', sm, orc') := by intro C; conv => lhs; simp) (hv : A → v (kn P G) := by intro hA; first | with_reducible exact True.intro | exact hA | exact hA.1 | exact hA.2 | exact hA.2.1 | exact hA.2.2 | (simpa using hA; done) | omega | simp | (simp +contextual; omega))
    (hn:ndB st.H=true:=by kernel_rfl):DGo P T G ops st0 (o::rest) (ts::tss) st orc acc K:=DGo.oneIf d h (hv hA) hgd hd hn k
theorem AW.drawS (hT : TOK P T) (hmix : P.follows .mixedOrders = true) (m : Nat) (tss : List (List Nat)) (orc orc2 : List PD) {id : Nat} {l : List Oper} (hchk : zO l m tss = true)
  (h:DGo P T G l st (l.take m) tss st orc [] fun qOW st1=>xG l m qOW=true∧qF P G l.toArray Q (l.drop m) st1 orc2):AW P G (.region id l.toArray true) Q st:=by
 obtain ⟨v,sms,st1,e,hv,hc,hl⟩:=h
 exact AW.runDraw0 hT hmix m tss orc hchk e hv (by simpa using hc) hl
theorem AW.seqDrawS (hT : TOK P T) (hmix : P.follows .mixedOrders = true) (m : Nat) (tss : List (List Nat)) (orc orc2 : List PD) {id : Nat} {l : List Oper} {b : Code} (hchk : zO l m tss = true)
  (h:DGo P T G l st (l.take m) tss st orc [] fun qOW st1=>xG l m qOW=true∧qF P G l.toArray (andThen (AW P G b Q) Q) (l.drop m) st1 orc2):AW P G (.seq (.region id l.toArray true) b) Q st :=
 AW.seq (AW.drawS hT hmix m tss orc orc2 hchk h)
attribute [simp] qHB qJN Sm.sum Sm.foot Sm.tch Sm.refs
end
end Go.Proofs.YtgcbapchinideaaGreatDoor.Sy
