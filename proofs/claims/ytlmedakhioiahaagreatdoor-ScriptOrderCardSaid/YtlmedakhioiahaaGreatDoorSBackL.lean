import Derived.Test.YtlmedakhioiahaaGreatDoorSBackA
namespace Go.Proofs.YtlmedakhioiahaaGreatDoor
open Sy Go
set_option linter.unusedSimpArgs false
set_option linter.unusedVariables false
theorem qMI:∀ (l:List Val) (m:Nat),uN m l=max m (uN 0 l)
 | [],m=>by simp
 | v::l,m=>by simp only [uN]; rw [qMI l (max m (qCV v)),qMI l (max 0 (qCV v))]; omega
theorem qBC (v:Val) (l:List Val):uN 0 (v::l)=max (qCV v) (uN 0 l):=by
 simp only [uN]; rw [qMI]; omega
mutual
def uL:Val→Bool
 | .mk k _ _ _ _ vs _=>decide (k=8) || zAG vs
def zAG:List Val→Bool
 | []=>false
 | v::vs=>uL v || zAG vs
end
theorem qTJ:∀ l,zAG l=l.any uL
 | []=>by simp [zAG]
 | v::vs=>by simp [zAG,qTJ vs]
theorem qBI (v:Val):uL v=(decide (v.kind=8) || v.kids.any uL):=by
 cases v; simp only [uL,qTJ,Val.kids,Val.kind]; rfl
theorem qQE {v k:Val} (h:uL v=false) (hk:k∈v.kids):uL k=false:=by
 rw [qBI,Bool.or_eq_false_iff] at h
 have:=List.any_eq_false.1 h.2 k hk
 simpa using this
theorem qLL {v:Val} (h:uL v=false):v.kind≠8:=by
 rw [qBI,Bool.or_eq_false_iff] at h
 simpa using h.1
theorem qDR {v : Val} (h : wC v = true) (hc : v.kind ≠ 8) : v.code = 0 ∧ v.kids.length ≤ 200 ∧
  ((v.kind=1∧v.num=dc0∧v.text=[]∧v.keys=[]∧v.kids=[])∨(v.kind=2∧v.num=dc0∧v.text=[]∧v.keys=[]∧v.kids=[])∨(v.kind=3∧v.num=dc0∧v.text=[]∧v.keys=[]∧v.kids=[]) ∨
   (v.kind=4∧wH v.num=true∧v.text=[]∧v.keys=[]∧v.kids=[])∨(v.kind=5∧v.num=dc0∧xE v.text=true∧v.keys=[]∧v.kids=[]) ∨
   (v.kind=6∧v.num=dc0∧v.text=[]∧v.keys=[])∨(v.kind=7∧v.num=dc0∧v.text=[]∧v.keys.length=v.kids.length∧kY v.keys=true)):=by
 rw [qGF] at h
 simp only [Bool.and_eq_true,vF,vN,decide_eq_true_eq] at h
 obtain ⟨⟨⟨b1,b2,b3⟩,⟨⟨⟨⟨c1,c2⟩,c3⟩,c4⟩,c5⟩⟩,_⟩:=h
 have hcode:v.code=0:=by
  unfold qCY at c1
  simp [hc] at c1
  exact c1
 refine ⟨hcode,b3, ?_⟩
 unfold qJL at c2
 unfold qEC at c3
 unfold qHK at c4
 unfold qOM at c5
 have hnum:v.kind≠4→v.num=dc0:=fun h4=>by
  rw [if_neg h4] at c2
  simp only [decide_eq_true_eq] at c2
  exact Dc.ext' c2.1 c2.2.1 c2.2.2
 have htxt:v.kind≠5→v.text=[]:=fun h4=>by rw [if_neg h4] at c3; simpa using c3
 have hkey:v.kind≠7→v.keys=[]:=fun h4=>by rw [if_neg h4] at c4; simpa using c4
 have hkid:v.kind≠6→v.kind≠7→v.kids=[]:=fun h6 h7=>by simpa [h6,h7] using c5
 have hk:v.kind=1∨v.kind=2∨v.kind=3∨v.kind=4∨v.kind=5∨v.kind=6∨v.kind=7:=by omega
 rcases hk with k | k | k | k | k | k | k
 ·exact .inl ⟨k,hnum (by omega),htxt (by omega),hkey (by omega),hkid (by omega) (by omega)⟩
 ·exact .inr (.inl ⟨k,hnum (by omega),htxt (by omega),hkey (by omega),hkid (by omega) (by omega)⟩)
 ·exact .inr (.inr (.inl ⟨k,hnum (by omega),htxt (by omega),hkey (by omega),hkid (by omega) (by omega)⟩))
 ·rw [if_pos k] at c2
  exact .inr (.inr (.inr (.inl ⟨k,c2,htxt (by omega),hkey (by omega),hkid (by omega) (by omega)⟩)))
 ·rw [if_pos k] at c3
  exact .inr (.inr (.inr (.inr (.inl ⟨k,hnum (by omega),c3,hkey (by omega),hkid (by omega) (by omega)⟩))))
 ·exact .inr (.inr (.inr (.inr (.inr (.inl ⟨k,hnum (by omega),htxt (by omega),hkey (by omega)⟩)))))
 rw [if_pos k] at c4
 simp only [Bool.and_eq_true,decide_eq_true_eq] at c4
 exact .inr (.inr (.inr (.inr (.inr (.inr ⟨k,hnum (by omega),htxt (by omega),by omega,c4.2⟩)))))
theorem qAD {v:Val} {k:Int} {n:Dc} {t:List UInt8} {ks:List (List UInt8)} (h0:v.code=0) (h1:v.kind=k) (h2:v.num=n) (h3:v.text=t) (h4:v.keys=ks):yV v = .mk k 0 n t ks (v.kids.map yV) 0:=by
 refine Val.ext ?_ ?_ ?_ ?_ ?_ ?_ ?_ <;> simp [h0,h1,h2,h3,h4]
theorem qEP {v:Val} (h:wC v=true):∃ b t,qI v=b::t∧wR b=false∧b≠93∧b≠125:=by
 rw [yS]
 by_cases h1:v.kind=1
 ·rw [if_pos h1]; exact ⟨_,_,rfl,by decide⟩
 rw [if_neg h1]
 by_cases h2:v.kind=2
 ·rw [if_pos h2]; exact ⟨_,_,rfl,by decide⟩
 rw [if_neg h2]
 by_cases h3:v.kind=3
 ·rw [if_pos h3]; exact ⟨_,_,rfl,by decide⟩
 rw [if_neg h3]
 by_cases h4:v.kind=4
 ·rw [if_pos h4]
  have:=qFY (qYT h h4)
  obtain ⟨_,b,t,e,hb⟩:=qOD (s:=yI v.num) (by rw [this]; simp)
  have:=zET hb
  exact ⟨b,t,e,this.1,this.2.2.2.2.2.2.2.1,this.2.2.2.2.2.2.2.2.1⟩
 rw [if_neg h4]
 by_cases h5:v.kind=5
 ·rw [if_pos h5]; exact ⟨_,_,rfl,by decide⟩
 rw [if_neg h5]
 by_cases h8:v.kind=8
 ·rw [if_pos h8]; exact ⟨_,_,rfl,by decide⟩
 rw [if_neg h8]
 by_cases h7:v.kind=7
 ·rw [if_pos h7]; exact ⟨_,_,rfl,by decide⟩
 rw [if_neg h7]; exact ⟨_,_,rfl,by decide⟩
def RB (v : Val) : Prop := ∀ (n : Nat) (ws : List UInt8) (st : RS) (d : Nat) (rest : List UInt8), st.left = ws ++ (qI v ++ rest) → ws.all wR = true → st.bad = false → (∀ b, rest.head? = some b → zY b = false) → 2 * (qI v).length ≤ n →
  qS n st d=(⟨rest,st.nodes+Val.sz v,false,st.deep || decide (12<d+qCV v-1),st.big || decide (400<st.nodes+Val.sz v)⟩,yV v)
theorem qOV (x:Bool) {d a b m:Nat} (hm:m=max a b) (ha:1≤a):((x || decide (12<d+a-1)) || decide (12<d+b-1))=(x || decide (12<d+m-1)):=by
 cases x
 ·rw [Bool.false_or,Bool.false_or,Bool.eq_iff_iff]
  simp only [Bool.or_eq_true,decide_eq_true_eq]
  rcases Nat.le_total a b with h | h
  ·rw [Nat.max_eq_right h] at hm; omega
  rw [Nat.max_eq_left h] at hm; omega
 rfl
theorem qUK (x:Bool) {n a b m:Nat} (hm:m=a+b):((x || decide (400<n+a)) || decide (400<n+a+b))=(x || decide (400<n+m)):=by
 cases x
 ·rw [Bool.false_or,Bool.false_or,Bool.eq_iff_iff]
  simp only [Bool.or_eq_true,decide_eq_true_eq]
  omega
 rfl
theorem qFE (x:Bool) {d a:Nat} (ha:1≤a):((x || decide (12<d)) || decide (12<d+1+a-1))=(x || decide (12<d+(a+1)-1)):=by
 cases x
 ·rw [Bool.false_or,Bool.false_or,Bool.eq_iff_iff]
  simp only [Bool.or_eq_true,decide_eq_true_eq]
  omega
 rfl
theorem qHP (x:Bool) {n a:Nat}:((x || decide (400<n+1)) || decide (400<n+1+a))=(x || decide (400<n+(1+a))):=by
 cases x
 ·rw [Bool.false_or,Bool.false_or,Bool.eq_iff_iff]
  simp only [Bool.or_eq_true,decide_eq_true_eq]
  omega
 rfl
theorem qZZ (l : List Val) : l ≠ [] → (∀ k ∈ l, RB k) → ∀ (n : Nat) (st : RS) (d many : Nat) (vs : List Val) (rest : List UInt8), st.left = Lib.join (l.map qI) [44] ++ 93 :: rest → st.bad = false → many + l.length ≤ 201 → 2 * (Lib.join (l.map qI) [44]).length + 2 ≤ n →
  yN n st d many vs=(⟨rest,st.nodes+Val.szL l,false,st.deep || decide (12<d+uN 0 l-1),st.big || decide (400<st.nodes+Val.szL l)⟩,vs++l.map yV):=by
 induction l with
 | nil=>intro h0; exact absurd rfl h0
 | cons v l IH =>
  intro _ ih n st d many vs rest hl hb hm hn
  obtain ⟨n,rfl⟩:∃ k,n=k+1:=⟨n-1,by omega⟩
  cases l with
  | nil =>
   simp only [List.map_cons,List.map_nil,Lib.join_one] at hl hn
   have h1:=ih v (by simp) n [] st d (93::rest) hl rfl hb (by intro b hb; simp at hb; subst hb; rfl) (by omega)
   simp only [yN,hb,Bool.false_eq_true,if_false]
   rw [h1,qYJ (ws:=[]) (rest:=rest) rfl rfl rfl (by decide) (by simp at hm; omega)]
   simp [uN]
  | cons w l =>
   simp only [List.map_cons,kZ] at hl hn
   rw [List.append_assoc,List.append_assoc] at hl
   rw [List.length_append,List.length_append] at hn
   have h1:=ih v (by simp) n [] st d _ hl rfl hb (by intro b hb; simp at hb; subst hb; rfl) (by simp at hn; omega)
   simp only [yN,hb,Bool.false_eq_true,if_false]
   rw [h1,qSU (ws:=[]) rfl rfl rfl (by decide) (by simp at hm; omega)]
   simp only [Bool.false_eq_true,if_false]
   rw [IH (by simp) (fun k hk=>ih k (List.mem_cons_of_mem _ hk)) n _ d (many+1) _ rest (by simp) rfl (by simp at hm ⊢; omega) (by simp only [List.map_cons]; simp at hn; omega)]
   refine Prod.ext ?_ (by simp)
   simp only [RS.mk.injEq,true_and]
   exact ⟨by simp only [Val.szL]; omega,qOV _ (qBC v (w::l)) (qGN v),qUK _ (by simp only [Val.szL])⟩
theorem qYP {n : Nat} {st : RS} {d many : Nat} {ks : List (List UInt8)} {vs : List Val} {key ws1 ws2 ws3 R : List UInt8} {v : Val} (hv : RB v) (hk : xE key = true) (hl : st.left = ws1 ++ (zQ key ++ (ws2 ++ 58 :: (ws3 ++ (qI v ++ R)))))
  (hw1:ws1.all wR=true) (hw2:ws2.all wR=true) (hw3:ws3.all wR=true) (hb:st.bad=false) (hR:∀ b,R.head?=some b→zY b=false) (hn:2 * (qI v).length≤n) :
  wN (n+1) st d many ks vs=(let a:RS:=⟨R,st.nodes+Val.sz v,false,st.deep || decide (12<d+qCV v-1),st.big || decide (400<st.nodes+Val.sz v)⟩
   if (wJ 125 many a).1=true then ((wJ 125 many a).2,kW ks vs key (yV v)) else wN n (wJ 125 many a).2 d (many+1) (kW ks vs key (yV v)).1 (kW ks vs key (yV v)).2):=by
 obtain ⟨left,nodes,bad,deep,big⟩:=st
 simp only at hl hb
 subst hb
 have hq:=qIL (st:=⟨left,nodes,false,deep,big⟩) hl hw1 hk
 have hc:qQ ⟨ws2++58::(ws3++(qI v++R)),nodes,false,deep,big⟩=⟨ws3++(qI v++R),nodes,false,deep,big⟩:=qXD rfl hw2 rfl
 have h1:=hv n ws3 ⟨ws3++(qI v++R),nodes,false,deep,big⟩ d R rfl hw3 rfl hR hn
 simp only at hq hc h1
 simp only [wN,hq,hc,h1,Bool.false_eq_true,if_false]
theorem qTF {ks:List (List UInt8)} {vs:List Val} {key:List UInt8} {v:Val} (h:key ∉ ks):kW ks vs key v=(ks++[key],vs++[v]):=by unfold kW; rw [if_neg h]
theorem qUR (key:List UInt8) (keys:List (List UInt8)) (p:List UInt8) (ps:List (List UInt8)):kM (key::keys) (p::ps)=(zQ key++[58]++p)::kM keys ps:=rfl
theorem qTC (l : List Val) : ∀ (keys : List (List UInt8)), keys.length = l.length → l ≠ [] → (∀ k ∈ l, RB k) → (∀ s ∈ keys, xE s = true) → ∀ (n : Nat) (st : RS) (d many : Nat) (ks : List (List UInt8)) (vs : List Val) (rest : List UInt8), (ks ++ keys).Nodup →
  st.left=Lib.join (kM keys (l.map qI)) [44]++125::rest→st.bad=false→many+l.length≤201→2 * (Lib.join (kM keys (l.map qI)) [44]).length+2≤n →
  wN n st d many ks vs=(⟨rest,st.nodes+Val.szL l,false,st.deep || decide (12<d+uN 0 l-1),st.big || decide (400<st.nodes+Val.szL l)⟩,ks++keys,vs++l.map yV):=by
 induction l with
 | nil=>intro _ _ h0; exact absurd rfl h0
 | cons v l IH =>
  intro keys hlen _ ih hk n st d many ks vs rest hnd hl hb hm hn
  obtain ⟨n,rfl⟩:∃ k,n=k+1:=⟨n-1,by omega⟩
  cases keys with
  | nil=>simp at hlen
  | cons key keys =>
   have hnk:key ∉ ks:=fun hin=>(List.nodup_append.1 hnd).2.2 key hin key (by simp) rfl
   cases l with
   | nil =>
    obtain rfl:keys=[]:=by simpa using hlen
    simp only [List.map_cons,List.map_nil] at hl hn
    rw [qUR] at hl hn
    rw [show kM [] []=[] from rfl,Lib.join_one] at hl hn
    rw [qYP (ws1:=[]) (ws2:=[]) (ws3:=[]) (R:=125::rest) (ih v (by simp)) (hk key (by simp)) (by rw [hl]; simp) rfl rfl rfl hb (by intro b hb; simp at hb; subst hb; rfl) (by simp at hn; omega)]
    simp only
    rw [qYJ (ws:=[]) (rest:=rest) rfl rfl rfl (by decide) (by simp at hm; omega),qTF hnk]
    simp [uN]
   | cons w l =>
    cases keys with
    | nil=>simp at hlen
    | cons key2 keys =>
     have hE:kM (key::key2::keys) ((v::w::l).map qI)=(zQ key++[58]++qI v)::(zQ key2++[58]++qI w)::kM keys (l.map qI):=rfl
     have hE2:kM (key2::keys) ((w::l).map qI)=(zQ key2++[58]++qI w)::kM keys (l.map qI):=rfl
     rw [hE,kZ,← hE2] at hl hn
     generalize hJ:Lib.join (kM (key2::keys) ((w::l).map qI)) [44]=J at *
     rw [qYP (ws1:=[]) (ws2:=[]) (ws3:=[]) (R:=44::(J++125::rest)) (ih v (by simp)) (hk key (by simp)) (by rw [hl]; simp) rfl rfl rfl hb (by intro b hb; simp at hb; subst hb; rfl) (by simp at hn; omega)]
     simp only
     rw [qSU (ws:=[]) (rest:=J++125::rest) rfl rfl rfl (by decide) (by simp at hm; omega),qTF hnk]
     simp only [Bool.false_eq_true,if_false]
     rw [IH (key2::keys) (by simpa using hlen) (by simp) (fun k hk=>ih k (List.mem_cons_of_mem _ hk)) (fun s hs=>hk s (List.mem_cons_of_mem _ hs)) n _ d (many+1) _ _ rest (by simpa using hnd) (by rw [hJ]) rfl (by simp at hm ⊢; omega) (by rw [hJ]; simp at hn; omega)]
     refine Prod.ext ?_ (by simp)
     simp only [RS.mk.injEq,true_and]
     exact ⟨by simp only [Val.szL]; omega,qOV _ (qBC v (w::l)) (qGN v),qUK _ (by simp only [Val.szL])⟩
theorem zDH {v:Val} (k:v.kind=1):qI v=yY:=by rw [yS,if_pos k]
theorem zDG {v:Val} (k:v.kind=2):qI v=wZ:=by rw [yS,if_neg (by omega),if_pos k]
theorem zDF {v:Val} (k:v.kind=3):qI v=kE:=by rw [yS,if_neg (by omega),if_neg (by omega),if_pos k]
theorem zDE {v:Val} (k:v.kind=4):qI v=yI v.num:=by rw [yS,if_neg (by omega),if_neg (by omega),if_neg (by omega),if_pos k]
theorem zDD {v:Val} (k:v.kind=5):qI v=zQ v.text:=by rw [yS,if_neg (by omega),if_neg (by omega),if_neg (by omega),if_neg (by omega),if_pos k]
theorem zJT {v:Val} (k:v.kind=8):qI v=33::uV v.code:=by rw [yS,if_neg (by omega),if_neg (by omega),if_neg (by omega),if_neg (by omega),if_neg (by omega),if_pos k]
theorem qWD {v:Val} (k:v.kind=7):qI v=[123]++Lib.join (kM v.keys (v.kids.map qI)) [44]++[125]:=by rw [yS,if_neg (by omega),if_neg (by omega),if_neg (by omega),if_neg (by omega),if_neg (by omega),if_neg (by omega),if_pos k]
theorem zDC {v:Val} (k:v.kind=6):qI v=[91]++Lib.join (v.kids.map qI) [44]++[93]:=by rw [yS,if_neg (by omega),if_neg (by omega),if_neg (by omega),if_neg (by omega),if_neg (by omega),if_neg (by omega),if_neg (by omega)]
theorem qHN {l:List (List UInt8)} (hne:l≠[]) (rest:List UInt8) (P:UInt8→Prop) (h:∀ s∈l, ∃ b t,s=b::t∧P b):∃ b t,Lib.join l [44]++rest=b::t∧P b:=by
 match l,hne with
 | [s],_ =>
  obtain ⟨b,t,e,hP⟩:=h s (by simp)
  exact ⟨b,t++rest,by rw [Lib.join_one,e]; rfl,hP⟩
 | s::s2::l,_ =>
  obtain ⟨b,t,e,hP⟩:=h s (by simp)
  exact ⟨b,_,by rw [kZ,e]; rfl,hP⟩
theorem uH {ws l : List UInt8} {b : UInt8} {st : RS} (d : Nat) (h : st.left = ws ++ b :: l) (hw : ws.all wR = true) (hn : wR b = false) :
  qT st d=⟨b::l,st.nodes+1,st.bad,st.deep || decide (12<d),st.big || decide (400<st.nodes+1)⟩:=by
 unfold qT; rw [h,qFM hw hn]
theorem zAB (v:Val):wC v=true→uL v=false→RB v:=by
 induction v using Val.induct with
 | h v ih =>
  intro hm hp n ws st d rest hl hw hb hr hn
  obtain ⟨hcode,hkl,hc⟩:=qDR hm (qLL hp)
  have ihk:∀ k∈v.kids,RB k:=fun k hk=>ih k hk (qGE hm hk) (qQE hp hk)
  obtain ⟨b0,t0,e0,hb0⟩:=qEP hm
  obtain ⟨n,rfl⟩:∃ k,n=k+1:=⟨n-1,by rw [e0] at hn; simp at hn; omega⟩
  rw [qII,qDU]
  rcases hc with ⟨k,h1,h2,h3,h4⟩ | ⟨k,h1,h2,h3,h4⟩ | ⟨k,h1,h2,h3,h4⟩ | ⟨k,h1,h2,h3,h4⟩ | ⟨k,h1,h2,h3,h4⟩ | ⟨k,h1,h2,h3⟩ | ⟨k,h1,h2,h3,h4⟩
  ·rw [qAD hcode k h1 h2 h3,h4]
   rw [zDH k] at hl hn
   have he:=uH d (show st.left=ws++110::([117,108,108]++rest) from hl) hw (by decide)
   simp only [qS,he,qLK]
   rw [if_neg (by decide),if_neg (by decide)]
   unfold wT
   rw [if_pos (by simp [yY,List.isPrefixOf])]
   simp [qW,hb]
  ·rw [qAD hcode k h1 h2 h3,h4]
   rw [zDG k] at hl hn
   have he:=uH d (show st.left=ws++102::([97,108,115,101]++rest) from hl) hw (by decide)
   simp only [qS,he,qLK]
   rw [if_neg (by decide),if_neg (by decide)]
   unfold wT
   rw [if_neg (by simp [yY,List.isPrefixOf]),if_neg (by simp [kE,List.isPrefixOf]),if_pos (by simp [wZ,List.isPrefixOf])]
   simp [qW,hb]
  ·rw [qAD hcode k h1 h2 h3,h4]
   rw [zDF k] at hl hn
   have he:=uH d (show st.left=ws++116::([114,117,101]++rest) from hl) hw (by decide)
   simp only [qS,he,qLK]
   rw [if_neg (by decide),if_neg (by decide)]
   unfold wT
   rw [if_neg (by simp [yY,List.isPrefixOf]),if_pos (by simp [kE,List.isPrefixOf])]
   simp [qW,hb]
  ·rw [qAD hcode k rfl h2 h3,h4]
   rw [zDE k] at hl hn
   have hpp:=qFY h1
   rw [zCZ n d hl hw (by rw [hpp]; simp) hr,hpp]
   simp [hb,zNX]
  ·rw [qAD hcode k h1 rfl h3,h4]
   rw [zDD k] at hl hn
   have he:=uH d (show st.left=ws++34::((wL v.text++[34])++rest) from hl) hw (by decide)
   simp only [qS,he,qLK]
   rw [if_neg (by decide),if_neg (by decide)]
   unfold wT
   rw [if_neg (by simp [yY,List.isPrefixOf]),if_neg (by simp [kE,List.isPrefixOf]),if_neg (by simp [wZ,List.isPrefixOf]),if_pos (by simp [List.isPrefixOf])]
   rw [qIL (ws:=[]) (key:=v.text) (rest:=rest) rfl rfl h2]
   simp [hb]
  ·rw [qAD hcode k h1 h2 h3]
   rw [zDC k] at hl hn
   rw [show ws++([91]++Lib.join (v.kids.map qI) [44]++[93]++rest)=ws++91::(Lib.join (v.kids.map qI) [44]++93::rest) by simp] at hl
   have he:=uH d hl hw (by decide)
   simp only [qS,he,qLK]
   rw [if_pos (by decide)]
   simp only [qW,List.drop_succ_cons,List.drop_zero]
   by_cases hk0:v.kids=[]
   ·rw [hk0]
    rw [qKO (ws:=[]) (rest:=rest) (w:=93) (by rfl) rfl (by decide)]
    simp [hb]
   obtain ⟨b,t,e,p1,p2,p3⟩:=qHN (l:=v.kids.map qI) (by simpa using hk0) (93::rest) (fun b=>wR b=false∧b≠93∧b≠125) (by
    intro s hs
    obtain ⟨k,hk,rfl⟩:=List.mem_map.1 hs
    exact qEP (qGE hm hk))
   rw [qJR (ws:=[]) (w:=93) e rfl p1 p2]
   simp only [Bool.false_eq_true,if_false]
   rw [qZZ v.kids hk0 ihk n ⟨b::t,st.nodes+1,st.bad,st.deep || decide (12<d),st.big || decide (400<st.nodes+1)⟩ (d+1) 1 [] rest e.symm hb (by omega) (by simp only [List.length_append,List.length_cons,List.length_nil] at hn; omega)]
   have hd:1≤uN 0 v.kids:=by
    cases hkk:v.kids with
    | nil=>exact absurd hkk hk0
    | cons a l=>rw [qBC]; have:=qGN a; omega
   refine Prod.ext ?_ (by simp)
   simp only [RS.mk.injEq,true_and]
   exact ⟨by omega,qFE _ hd,qHP _⟩
  rw [qAD hcode k h1 h2 rfl]
  rw [qWD k] at hl hn
  rw [show ws++([123]++Lib.join (kM v.keys (v.kids.map qI)) [44]++[125]++rest)=ws++123::(Lib.join (kM v.keys (v.kids.map qI)) [44]++125::rest) by simp] at hl
  have he:=uH d hl hw (by decide)
  simp only [qS,he,qLK]
  rw [if_neg (by decide),if_pos (by decide)]
  simp only [qW,List.drop_succ_cons,List.drop_zero]
  have hkw:(∀ s∈v.keys,xE s=true)∧v.keys.Nodup:=by
   unfold kY at h4
   simp only [Bool.and_eq_true,List.all_eq_true,decide_eq_true_eq] at h4
   exact h4
  by_cases hk0:v.kids=[]
  ·have hkk:v.keys=[]:=by rw [hk0] at h3; exact List.length_eq_zero_iff.1 h3
   rw [hk0,hkk]
   rw [qKO (ws:=[]) (rest:=rest) (w:=125) (by rfl) rfl (by decide)]
   simp [hb]
  obtain ⟨b, t, e, p1, p2, p3⟩ := qHN (l := kM v.keys (v.kids.map qI)) (by
    intro e0
    have:=congrArg List.length e0
    simp [kM,h3] at this
    exact hk0 this) (125::rest) (fun b=>wR b=false∧b≠93∧b≠125) (by
   intro s hs
   obtain ⟨i,hi,rfl⟩:=List.mem_iff_getElem.1 hs
   simp only [kM,List.getElem_zipWith]
   exact ⟨34,_,rfl,by decide⟩)
  rw [qJR (ws:=[]) (w:=125) e rfl p1 p3]
  simp only [Bool.false_eq_true,if_false]
  rw [qTC v.kids v.keys h3 hk0 ihk hkw.1 n ⟨b::t,st.nodes+1,st.bad,st.deep || decide (12<d),st.big || decide (400<st.nodes+1)⟩ (d+1) 1 [] [] rest (by simpa using hkw.2) e.symm hb (by omega) (by simp only [List.length_append,List.length_cons,List.length_nil] at hn; omega)]
  have hd:1≤uN 0 v.kids:=by
   cases hkk:v.kids with
   | nil=>exact absurd hkk hk0
   | cons a l=>rw [qBC]; have:=qGN a; omega
  refine Prod.ext ?_ (by simp)
  simp only [RS.mk.injEq,true_and]
  exact ⟨by omega,qFE _ hd,qHP _⟩
end Go.Proofs.YtlmedakhioiahaaGreatDoor
