import Derived.Test.YtlmedakhioiahaaGreatDoorSBackA
namespace Go.Proofs.YtlmedakhioiahaaGreatDoor
open Sy Go
set_option linter.unusedSimpArgs false
set_option linter.unusedVariables false
theorem qKC:∀ (l:List Val) (m:Nat),vD m l=max m (vD 0 l)
 | [],m=>by simp
 | v::l,m=>by simp only [vD]; rw [qKC l (max m (qBD v)),qKC l (max 0 (qBD v))]; omega
theorem uK (v:Val) (l:List Val):vD 0 (v::l)=max (qBD v) (vD 0 l):=by
 simp only [vD]; rw [qKC]; omega
mutual
def xU:Val→Bool
 | .mk k _ _ _ _ vs _=>decide (k=8) || qXC vs
def qXC:List Val→Bool
 | []=>false
 | v::vs=>xU v || qXC vs
end
theorem qQU:∀ l,qXC l=l.any xU
 | []=>by simp [qXC]
 | v::vs=>by simp [qXC,qQU vs]
theorem uR (v:Val):xU v=(decide (v.kind=8) || v.kids.any xU):=by
 cases v; simp only [xU,qQU,Val.kids,Val.kind]; rfl
theorem qEE {v k:Val} (h:xU v=false) (hk:k∈v.kids):xU k=false:=by
 rw [uR,Bool.or_eq_false_iff] at h
 have:=List.any_eq_false.1 h.2 k hk
 simpa using this
theorem qED {v:Val} (h:xU v=false):v.kind≠8:=by
 rw [uR,Bool.or_eq_false_iff] at h
 simpa using h.1
theorem uD {v : Val} (h : zU v = true) (hc : v.kind ≠ 8) : v.code = 0 ∧ v.kids.length ≤ 200 ∧
  ((v.kind=1∧v.num=dc0∧v.text=[]∧v.keys=[]∧v.kids=[])∨(v.kind=2∧v.num=dc0∧v.text=[]∧v.keys=[]∧v.kids=[])∨(v.kind=3∧v.num=dc0∧v.text=[]∧v.keys=[]∧v.kids=[]) ∨
   (v.kind=4∧zY v.num=true∧v.text=[]∧v.keys=[]∧v.kids=[])∨(v.kind=5∧v.num=dc0∧yV v.text=true∧v.keys=[]∧v.kids=[]) ∨
   (v.kind=6∧v.num=dc0∧v.text=[]∧v.keys=[])∨(v.kind=7∧v.num=dc0∧v.text=[]∧v.keys.length=v.kids.length∧yZ v.keys=true)):=by
 rw [qEJ] at h
 simp only [Bool.and_eq_true,jW,xC,decide_eq_true_eq] at h
 obtain ⟨⟨⟨b1,b2,b3⟩,⟨⟨⟨⟨c1,c2⟩,c3⟩,c4⟩,c5⟩⟩,_⟩:=h
 have hcode:v.code=0:=by
  unfold qBF at c1
  simp [hc] at c1
  exact c1
 refine ⟨hcode,b3, ?_⟩
 unfold qHG at c2
 unfold qCI at c3
 unfold qFQ at c4
 unfold qMH at c5
 have hnum:v.kind≠4→v.num=dc0:=fun h4=>by
  rw [if_neg h4] at c2
  simp only [decide_eq_true_eq] at c2
  exact Dc.ext' c2.1 c2.2.1 c2.2.2
 have htxt:v.kind≠5→v.text=[]:=fun h4=>by rw [if_neg h4] at c3; simpa using c3
 have hkey:v.kind≠7→v.keys=[]:=fun h4=>by rw [if_neg h4] at c4; simpa using c4
 have hkid:v.kind≠6→v.kind≠7→v.kids=[]:=fun h6 h7=>by simpa [h6,h7] using c5
 have hk:v.kind=1∨v.kind=2∨v.kind=3∨v.kind=4∨v.kind=5∨v.kind=6∨v.kind=7:=by omega
 rcases hk with k | k | k | k | k | k | k
 ·exact .inl ⟨k,hnum (by omega),htxt (by omega),hkey (by omega),hkid (by omega) (by omega)⟩
 ·exact .inr (.inl ⟨k,hnum (by omega),htxt (by omega),hkey (by omega),hkid (by omega) (by omega)⟩)
 ·exact .inr (.inr (.inl ⟨k,hnum (by omega),htxt (by omega),hkey (by omega),hkid (by omega) (by omega)⟩))
 ·rw [if_pos k] at c2
  exact .inr (.inr (.inr (.inl ⟨k,c2,htxt (by omega),hkey (by omega),hkid (by omega) (by omega)⟩)))
 ·rw [if_pos k] at c3
  exact .inr (.inr (.inr (.inr (.inl ⟨k,hnum (by omega),c3,hkey (by omega),hkid (by omega) (by omega)⟩))))
 ·exact .inr (.inr (.inr (.inr (.inr (.inl ⟨k,hnum (by omega),htxt (by omega),hkey (by omega)⟩)))))
 rw [if_pos k] at c4
 simp only [Bool.and_eq_true,decide_eq_true_eq] at c4
 exact .inr (.inr (.inr (.inr (.inr (.inr ⟨k,hnum (by omega),htxt (by omega),by omega,c4.2⟩)))))
theorem vP {v:Val} {k:Int} {n:Dc} {t:List UInt8} {ks:List (List UInt8)} (h0:v.code=0) (h1:v.kind=k) (h2:v.num=n) (h3:v.text=t) (h4:v.keys=ks):yE v = .mk k 0 n t ks (v.kids.map yE) 0:=by
 refine Val.ext ?_ ?_ ?_ ?_ ?_ ?_ ?_ <;> simp [h0,h1,h2,h3,h4]
theorem xT {v:Val} (h:zU v=true):∃ b t,qF v=b::t∧wC b=false∧b≠93∧b≠125:=by
 rw [yS]
 by_cases h1:v.kind=1
 ·rw [if_pos h1]; exact ⟨_,_,rfl,by decide⟩
 rw [if_neg h1]
 by_cases h2:v.kind=2
 ·rw [if_pos h2]; exact ⟨_,_,rfl,by decide⟩
 rw [if_neg h2]
 by_cases h3:v.kind=3
 ·rw [if_pos h3]; exact ⟨_,_,rfl,by decide⟩
 rw [if_neg h3]
 by_cases h4:v.kind=4
 ·rw [if_pos h4]
  have:=uS (qVU h h4)
  obtain ⟨_,b,t,e,hb⟩:=qFO (s:=yG v.num) (by rw [this]; simp)
  have:=qUE hb
  exact ⟨b,t,e,this.1,this.2.2.2.2.2.2.2.1,this.2.2.2.2.2.2.2.2.1⟩
 rw [if_neg h4]
 by_cases h5:v.kind=5
 ·rw [if_pos h5]; exact ⟨_,_,rfl,by decide⟩
 rw [if_neg h5]
 by_cases h8:v.kind=8
 ·rw [if_pos h8]; exact ⟨_,_,rfl,by decide⟩
 rw [if_neg h8]
 by_cases h7:v.kind=7
 ·rw [if_pos h7]; exact ⟨_,_,rfl,by decide⟩
 rw [if_neg h7]; exact ⟨_,_,rfl,by decide⟩
def RB (v : Val) : Prop := ∀ (n : Nat) (ws : List UInt8) (st : RS) (d : Nat) (rest : List UInt8), st.left = ws ++ (qF v ++ rest) → ws.all wC = true → st.bad = false → (∀ b, rest.head? = some b → kO b = false) → 2 * (qF v).length ≤ n →
  qN n st d=(⟨rest,st.nodes+Val.sz v,false,st.deep || decide (12<d+qBD v-1),st.big || decide (400<st.nodes+Val.sz v)⟩,yE v)
theorem qMO (x:Bool) {d a b m:Nat} (hm:m=max a b) (ha:1≤a):((x || decide (12<d+a-1)) || decide (12<d+b-1))=(x || decide (12<d+m-1)):=by
 cases x
 ·rw [Bool.false_or,Bool.false_or,Bool.eq_iff_iff]
  simp only [Bool.or_eq_true,decide_eq_true_eq]
  rcases Nat.le_total a b with h | h
  ·rw [Nat.max_eq_right h] at hm; omega
  rw [Nat.max_eq_left h] at hm; omega
 rfl
theorem qRR (x:Bool) {n a b m:Nat} (hm:m=a+b):((x || decide (400<n+a)) || decide (400<n+a+b))=(x || decide (400<n+m)):=by
 cases x
 ·rw [Bool.false_or,Bool.false_or,Bool.eq_iff_iff]
  simp only [Bool.or_eq_true,decide_eq_true_eq]
  omega
 rfl
theorem qDI (x:Bool) {d a:Nat} (ha:1≤a):((x || decide (12<d)) || decide (12<d+1+a-1))=(x || decide (12<d+(a+1)-1)):=by
 cases x
 ·rw [Bool.false_or,Bool.false_or,Bool.eq_iff_iff]
  simp only [Bool.or_eq_true,decide_eq_true_eq]
  omega
 rfl
theorem qFV (x:Bool) {n a:Nat}:((x || decide (400<n+1)) || decide (400<n+1+a))=(x || decide (400<n+(1+a))):=by
 cases x
 ·rw [Bool.false_or,Bool.false_or,Bool.eq_iff_iff]
  simp only [Bool.or_eq_true,decide_eq_true_eq]
  omega
 rfl
theorem qWW (l : List Val) : l ≠ [] → (∀ k ∈ l, RB k) → ∀ (n : Nat) (st : RS) (d many : Nat) (vs : List Val) (rest : List UInt8), st.left = Lib.join (l.map qF) [44] ++ 93 :: rest → st.bad = false → many + l.length ≤ 201 → 2 * (Lib.join (l.map qF) [44]).length + 2 ≤ n →
  wM n st d many vs=(⟨rest,st.nodes+Val.szL l,false,st.deep || decide (12<d+vD 0 l-1),st.big || decide (400<st.nodes+Val.szL l)⟩,vs++l.map yE):=by
 induction l with
 | nil=>intro h0; exact absurd rfl h0
 | cons v l IH =>
  intro _ ih n st d many vs rest hl hb hm hn
  obtain ⟨n,rfl⟩:∃ k,n=k+1:=⟨n-1,by omega⟩
  cases l with
  | nil =>
   simp only [List.map_cons,List.map_nil,Lib.join_one] at hl hn
   have h1:=ih v (by simp) n [] st d (93::rest) hl rfl hb (by intro b hb; simp at hb; subst hb; rfl) (by omega)
   simp only [wM,hb,Bool.false_eq_true,if_false]
   rw [h1,qVL (ws:=[]) (rest:=rest) rfl rfl rfl (by decide) (by simp at hm; omega)]
   simp [vD]
  | cons w l =>
   simp only [List.map_cons,kE] at hl hn
   rw [List.append_assoc,List.append_assoc] at hl
   rw [List.length_append,List.length_append] at hn
   have h1:=ih v (by simp) n [] st d _ hl rfl hb (by intro b hb; simp at hb; subst hb; rfl) (by simp at hn; omega)
   simp only [wM,hb,Bool.false_eq_true,if_false]
   rw [h1,qDX (ws:=[]) rfl rfl rfl (by decide) (by simp at hm; omega)]
   simp only [Bool.false_eq_true,if_false]
   rw [IH (by simp) (fun k hk=>ih k (List.mem_cons_of_mem _ hk)) n _ d (many+1) _ rest (by simp) rfl (by simp at hm ⊢; omega) (by simp only [List.map_cons]; simp at hn; omega)]
   refine Prod.ext ?_ (by simp)
   simp only [RS.mk.injEq,true_and]
   exact ⟨by simp only [Val.szL]; omega,qMO _ (uK v (w::l)) (qER v),qRR _ (by simp only [Val.szL])⟩
theorem qOA {n : Nat} {st : RS} {d many : Nat} {ks : List (List UInt8)} {vs : List Val} {key ws1 ws2 ws3 R : List UInt8} {v : Val} (hv : RB v) (hk : yV key = true) (hl : st.left = ws1 ++ (zK key ++ (ws2 ++ 58 :: (ws3 ++ (qF v ++ R)))))
  (hw1:ws1.all wC=true) (hw2:ws2.all wC=true) (hw3:ws3.all wC=true) (hb:st.bad=false) (hR:∀ b,R.head?=some b→kO b=false) (hn:2 * (qF v).length≤n) :
  zZ (n+1) st d many ks vs=(let a:RS:=⟨R,st.nodes+Val.sz v,false,st.deep || decide (12<d+qBD v-1),st.big || decide (400<st.nodes+Val.sz v)⟩
   if (wF 125 many a).1=true then ((wF 125 many a).2,uQ ks vs key (yE v)) else zZ n (wF 125 many a).2 d (many+1) (uQ ks vs key (yE v)).1 (uQ ks vs key (yE v)).2):=by
 obtain ⟨left,nodes,bad,deep,big⟩:=st
 simp only at hl hb
 subst hb
 have hq:=qAS (st:=⟨left,nodes,false,deep,big⟩) hl hw1 hk
 have hc:qK ⟨ws2++58::(ws3++(qF v++R)),nodes,false,deep,big⟩=⟨ws3++(qF v++R),nodes,false,deep,big⟩:=qKG rfl hw2 rfl
 have h1:=hv n ws3 ⟨ws3++(qF v++R),nodes,false,deep,big⟩ d R rfl hw3 rfl hR hn
 simp only at hq hc h1
 simp only [zZ,hq,hc,h1,Bool.false_eq_true,if_false]
theorem qQS {ks:List (List UInt8)} {vs:List Val} {key:List UInt8} {v:Val} (h:key ∉ ks):uQ ks vs key v=(ks++[key],vs++[v]):=by unfold uQ; rw [if_neg h]
theorem qJY (key:List UInt8) (keys:List (List UInt8)) (p:List UInt8) (ps:List (List UInt8)):wI (key::keys) (p::ps)=(zK key++[58]++p)::wI keys ps:=rfl
theorem qQP (l : List Val) : ∀ (keys : List (List UInt8)), keys.length = l.length → l ≠ [] → (∀ k ∈ l, RB k) → (∀ s ∈ keys, yV s = true) → ∀ (n : Nat) (st : RS) (d many : Nat) (ks : List (List UInt8)) (vs : List Val) (rest : List UInt8), (ks ++ keys).Nodup →
  st.left=Lib.join (wI keys (l.map qF)) [44]++125::rest→st.bad=false→many+l.length≤201→2 * (Lib.join (wI keys (l.map qF)) [44]).length+2≤n →
  zZ n st d many ks vs=(⟨rest,st.nodes+Val.szL l,false,st.deep || decide (12<d+vD 0 l-1),st.big || decide (400<st.nodes+Val.szL l)⟩,ks++keys,vs++l.map yE):=by
 induction l with
 | nil=>intro _ _ h0; exact absurd rfl h0
 | cons v l IH =>
  intro keys hlen _ ih hk n st d many ks vs rest hnd hl hb hm hn
  obtain ⟨n,rfl⟩:∃ k,n=k+1:=⟨n-1,by omega⟩
  cases keys with
  | nil=>simp at hlen
  | cons key keys =>
   have hnk:key ∉ ks:=fun hin=>(List.nodup_append.1 hnd).2.2 key hin key (by simp) rfl
   cases l with
   | nil =>
    obtain rfl:keys=[]:=by simpa using hlen
    simp only [List.map_cons,List.map_nil] at hl hn
    rw [qJY] at hl hn
    rw [show wI [] []=[] from rfl,Lib.join_one] at hl hn
    rw [qOA (ws1:=[]) (ws2:=[]) (ws3:=[]) (R:=125::rest) (ih v (by simp)) (hk key (by simp)) (by rw [hl]; simp) rfl rfl rfl hb (by intro b hb; simp at hb; subst hb; rfl) (by simp at hn; omega)]
    simp only
    rw [qVL (ws:=[]) (rest:=rest) rfl rfl rfl (by decide) (by simp at hm; omega),qQS hnk]
    simp [vD]
   | cons w l =>
    cases keys with
    | nil=>simp at hlen
    | cons key2 keys =>
     have hE:wI (key::key2::keys) ((v::w::l).map qF)=(zK key++[58]++qF v)::(zK key2++[58]++qF w)::wI keys (l.map qF):=rfl
     have hE2:wI (key2::keys) ((w::l).map qF)=(zK key2++[58]++qF w)::wI keys (l.map qF):=rfl
     rw [hE,kE,← hE2] at hl hn
     generalize hJ:Lib.join (wI (key2::keys) ((w::l).map qF)) [44]=J at *
     rw [qOA (ws1:=[]) (ws2:=[]) (ws3:=[]) (R:=44::(J++125::rest)) (ih v (by simp)) (hk key (by simp)) (by rw [hl]; simp) rfl rfl rfl hb (by intro b hb; simp at hb; subst hb; rfl) (by simp at hn; omega)]
     simp only
     rw [qDX (ws:=[]) (rest:=J++125::rest) rfl rfl rfl (by decide) (by simp at hm; omega),qQS hnk]
     simp only [Bool.false_eq_true,if_false]
     rw [IH (key2::keys) (by simpa using hlen) (by simp) (fun k hk=>ih k (List.mem_cons_of_mem _ hk)) (fun s hs=>hk s (List.mem_cons_of_mem _ hs)) n _ d (many+1) _ _ rest (by simpa using hnd) (by rw [hJ]) rfl (by simp at hm ⊢; omega) (by rw [hJ]; simp at hn; omega)]
     refine Prod.ext ?_ (by simp)
     simp only [RS.mk.injEq,true_and]
     exact ⟨by simp only [Val.szL]; omega,qMO _ (uK v (w::l)) (qER v),qRR _ (by simp only [Val.szL])⟩
theorem qTH {v:Val} (k:v.kind=1):qF v=kC:=by rw [yS,if_pos k]
theorem qTG {v:Val} (k:v.kind=2):qF v=wU:=by rw [yS,if_neg (by omega),if_pos k]
theorem qTF {v:Val} (k:v.kind=3):qF v=kM:=by rw [yS,if_neg (by omega),if_neg (by omega),if_pos k]
theorem qTE {v:Val} (k:v.kind=4):qF v=yG v.num:=by rw [yS,if_neg (by omega),if_neg (by omega),if_neg (by omega),if_pos k]
theorem qTD {v:Val} (k:v.kind=5):qF v=zK v.text:=by rw [yS,if_neg (by omega),if_neg (by omega),if_neg (by omega),if_neg (by omega),if_pos k]
theorem zFX {v:Val} (k:v.kind=8):qF v=33::qCN v.code:=by rw [yS,if_neg (by omega),if_neg (by omega),if_neg (by omega),if_neg (by omega),if_neg (by omega),if_pos k]
theorem qNT {v:Val} (k:v.kind=7):qF v=[123]++Lib.join (wI v.keys (v.kids.map qF)) [44]++[125]:=by rw [yS,if_neg (by omega),if_neg (by omega),if_neg (by omega),if_neg (by omega),if_neg (by omega),if_neg (by omega),if_pos k]
theorem qTC {v:Val} (k:v.kind=6):qF v=[91]++Lib.join (v.kids.map qF) [44]++[93]:=by rw [yS,if_neg (by omega),if_neg (by omega),if_neg (by omega),if_neg (by omega),if_neg (by omega),if_neg (by omega),if_neg (by omega)]
theorem uH {l:List (List UInt8)} (hne:l≠[]) (rest:List UInt8) (P:UInt8→Prop) (h:∀ s∈l, ∃ b t,s=b::t∧P b):∃ b t,Lib.join l [44]++rest=b::t∧P b:=by
 match l,hne with
 | [s],_ =>
  obtain ⟨b,t,e,hP⟩:=h s (by simp)
  exact ⟨b,t++rest,by rw [Lib.join_one,e]; rfl,hP⟩
 | s::s2::l,_ =>
  obtain ⟨b,t,e,hP⟩:=h s (by simp)
  exact ⟨b,_,by rw [kE,e]; rfl,hP⟩
theorem jZ {ws l : List UInt8} {b : UInt8} {st : RS} (d : Nat) (h : st.left = ws ++ b :: l) (hw : ws.all wC = true) (hn : wC b = false) :
  qQ st d=⟨b::l,st.nodes+1,st.bad,st.deep || decide (12<d),st.big || decide (400<st.nodes+1)⟩:=by
 unfold qQ; rw [h,qDR hw hn]
theorem qFN (v:Val):zU v=true→xU v=false→RB v:=by
 induction v using Val.induct with
 | h v ih =>
  intro hm hp n ws st d rest hl hw hb hr hn
  obtain ⟨hcode,hkl,hc⟩:=uD hm (qED hp)
  have ihk:∀ k∈v.kids,RB k:=fun k hk=>ih k hk (vJ hm hk) (qEE hp hk)
  obtain ⟨b0,t0,e0,hb0⟩:=xT hm
  obtain ⟨n,rfl⟩:∃ k,n=k+1:=⟨n-1,by rw [e0] at hn; simp at hn; omega⟩
  rw [qGL,qCB]
  rcases hc with ⟨k,h1,h2,h3,h4⟩ | ⟨k,h1,h2,h3,h4⟩ | ⟨k,h1,h2,h3,h4⟩ | ⟨k,h1,h2,h3,h4⟩ | ⟨k,h1,h2,h3,h4⟩ | ⟨k,h1,h2,h3⟩ | ⟨k,h1,h2,h3,h4⟩
  ·rw [vP hcode k h1 h2 h3,h4]
   rw [qTH k] at hl hn
   have he:=jZ d (show st.left=ws++110::([117,108,108]++rest) from hl) hw (by decide)
   simp only [qN,he,qCU]
   rw [if_neg (by decide),if_neg (by decide)]
   unfold wK
   rw [if_pos (by simp [kC,List.isPrefixOf])]
   simp [qT,hb]
  ·rw [vP hcode k h1 h2 h3,h4]
   rw [qTG k] at hl hn
   have he:=jZ d (show st.left=ws++102::([97,108,115,101]++rest) from hl) hw (by decide)
   simp only [qN,he,qCU]
   rw [if_neg (by decide),if_neg (by decide)]
   unfold wK
   rw [if_neg (by simp [kC,List.isPrefixOf]),if_neg (by simp [kM,List.isPrefixOf]),if_pos (by simp [wU,List.isPrefixOf])]
   simp [qT,hb]
  ·rw [vP hcode k h1 h2 h3,h4]
   rw [qTF k] at hl hn
   have he:=jZ d (show st.left=ws++116::([114,117,101]++rest) from hl) hw (by decide)
   simp only [qN,he,qCU]
   rw [if_neg (by decide),if_neg (by decide)]
   unfold wK
   rw [if_neg (by simp [kC,List.isPrefixOf]),if_pos (by simp [kM,List.isPrefixOf])]
   simp [qT,hb]
  ·rw [vP hcode k rfl h2 h3,h4]
   rw [qTE k] at hl hn
   have hpp:=uS h1
   rw [qZR n d hl hw (by rw [hpp]; simp) hr,hpp]
   simp [hb,zJV]
  ·rw [vP hcode k h1 rfl h3,h4]
   rw [qTD k] at hl hn
   have he:=jZ d (show st.left=ws++34::((yB v.text++[34])++rest) from hl) hw (by decide)
   simp only [qN,he,qCU]
   rw [if_neg (by decide),if_neg (by decide)]
   unfold wK
   rw [if_neg (by simp [kC,List.isPrefixOf]),if_neg (by simp [kM,List.isPrefixOf]),if_neg (by simp [wU,List.isPrefixOf]),if_pos (by simp [List.isPrefixOf])]
   rw [qAS (ws:=[]) (key:=v.text) (rest:=rest) rfl rfl h2]
   simp [hb]
  ·rw [vP hcode k h1 h2 h3]
   rw [qTC k] at hl hn
   rw [show ws++([91]++Lib.join (v.kids.map qF) [44]++[93]++rest)=ws++91::(Lib.join (v.kids.map qF) [44]++93::rest) by simp] at hl
   have he:=jZ d hl hw (by decide)
   simp only [qN,he,qCU]
   rw [if_pos (by decide)]
   simp only [qT,List.drop_succ_cons,List.drop_zero]
   by_cases hk0:v.kids=[]
   ·rw [hk0]
    rw [qIF (ws:=[]) (rest:=rest) (w:=93) (by rfl) rfl (by decide)]
    simp [hb]
   obtain ⟨b,t,e,p1,p2,p3⟩:=uH (l:=v.kids.map qF) (by simpa using hk0) (93::rest) (fun b=>wC b=false∧b≠93∧b≠125) (by
    intro s hs
    obtain ⟨k,hk,rfl⟩:=List.mem_map.1 hs
    exact xT (vJ hm hk))
   rw [qBR (ws:=[]) (w:=93) e rfl p1 p2]
   simp only [Bool.false_eq_true,if_false]
   rw [qWW v.kids hk0 ihk n ⟨b::t,st.nodes+1,st.bad,st.deep || decide (12<d),st.big || decide (400<st.nodes+1)⟩ (d+1) 1 [] rest e.symm hb (by omega) (by simp only [List.length_append,List.length_cons,List.length_nil] at hn; omega)]
   have hd:1≤vD 0 v.kids:=by
    cases hkk:v.kids with
    | nil=>exact absurd hkk hk0
    | cons a l=>rw [uK]; have:=qER a; omega
   refine Prod.ext ?_ (by simp)
   simp only [RS.mk.injEq,true_and]
   exact ⟨by omega,qDI _ hd,qFV _⟩
  rw [vP hcode k h1 h2 rfl]
  rw [qNT k] at hl hn
  rw [show ws++([123]++Lib.join (wI v.keys (v.kids.map qF)) [44]++[125]++rest)=ws++123::(Lib.join (wI v.keys (v.kids.map qF)) [44]++125::rest) by simp] at hl
  have he:=jZ d hl hw (by decide)
  simp only [qN,he,qCU]
  rw [if_neg (by decide),if_pos (by decide)]
  simp only [qT,List.drop_succ_cons,List.drop_zero]
  have hkw:(∀ s∈v.keys,yV s=true)∧v.keys.Nodup:=by
   unfold yZ at h4
   simp only [Bool.and_eq_true,List.all_eq_true,decide_eq_true_eq] at h4
   exact h4
  by_cases hk0:v.kids=[]
  ·have hkk:v.keys=[]:=by rw [hk0] at h3; exact List.length_eq_zero_iff.1 h3
   rw [hk0,hkk]
   rw [qIF (ws:=[]) (rest:=rest) (w:=125) (by rfl) rfl (by decide)]
   simp [hb]
  obtain ⟨b, t, e, p1, p2, p3⟩ := uH (l := wI v.keys (v.kids.map qF)) (by
    intro e0
    have:=congrArg List.length e0
    simp [wI,h3] at this
    exact hk0 this) (125::rest) (fun b=>wC b=false∧b≠93∧b≠125) (by
   intro s hs
   obtain ⟨i,hi,rfl⟩:=List.mem_iff_getElem.1 hs
   simp only [wI,List.getElem_zipWith]
   exact ⟨34,_,rfl,by decide⟩)
  rw [qBR (ws:=[]) (w:=125) e rfl p1 p3]
  simp only [Bool.false_eq_true,if_false]
  rw [qQP v.kids v.keys h3 hk0 ihk hkw.1 n ⟨b::t,st.nodes+1,st.bad,st.deep || decide (12<d),st.big || decide (400<st.nodes+1)⟩ (d+1) 1 [] [] rest (by simpa using hkw.2) e.symm hb (by omega) (by simp only [List.length_append,List.length_cons,List.length_nil] at hn; omega)]
  have hd:1≤vD 0 v.kids:=by
   cases hkk:v.kids with
   | nil=>exact absurd hkk hk0
   | cons a l=>rw [uK]; have:=qER a; omega
  refine Prod.ext ?_ (by simp)
  simp only [RS.mk.injEq,true_and]
  exact ⟨by omega,qDI _ hd,qFV _⟩
end Go.Proofs.YtlmedakhioiahaaGreatDoor
