import Derived.Test.YtbhhphabggcacaaGreatDoorSBackX
namespace Go.Proofs.YtbhhphabggcacaaGreatDoor
open Sy Go
set_option maxRecDepth 100000
set_option maxHeartbeats 1000000
set_option linter.unusedSimpArgs false
set_option linter.unusedVariables false
mutual
theorem Tr.ind {P:Tr→Prop} (h:∀ x ts,(∀ t∈ts,P t)→P (.mk x ts)):∀ t,P t
 | .mk x ts=>h x ts (Tr.indL h ts)
theorem Tr.indL {P:Tr→Prop} (h:∀ x ts,(∀ t∈ts,P t)→P (.mk x ts)):∀ ts:List Tr, ∀ t∈ts,P t
 | []=>fun t ht=>by cases ht
 | u::us=>fun t ht=>(List.mem_cons.1 ht).elim (fun e=>e ▸ Tr.ind h u) (fun g=>Tr.indL h us t g)
end
mutual
def Tr.text:Tr→List UInt8
 | .mk x ts=>wP x (Tr.textL ts)
def Tr.textL:List Tr→List (List UInt8)
 | []=>[]
 | t::ts=>t.text::Tr.textL ts
end
inductive Tr.may:Tr→Prop
 | mk (x:Nd) (ts:List Tr) (h:NdOK x) (ho:zC x ts.length=true) (hk:∀ t∈ts,t.may):Tr.may (.mk x ts)
def jZ:List (List UInt8)→List (List Tok)→List Tok
 | k::ks,v::vs=>tx k::sg [58]::(v++(if ks=[] then [] else sg [44]::jZ ks vs))
 | _,_=>[]
def wR (x:Nd) (ks:List (List Tok)):List Tok :=
 let a:=ks.getD 0 []
 let b:=ks.getD 1 []
 let c:=ks.getD 2 []
 if x.op=1 then [sg [46]]
 else if x.op=2 then (if x.n=1 then [wd [110,117,108,108]] else if x.n=3 then [wd [116,114,117,101]] else if x.n=2 then [wd [102,97,108,115,101]] else if x.n=4 then qDI x.num else [tx x.text])
 else if x.op=3 then [vr x.text]
 else if x.op=9 then sg [91]::(ks.flatten++[sg [93]])
 else if x.op=10 then sg [123]::(jZ x.keys ks++[sg [125]])
 else if x.op=18 then (if 0<x.keys.length then [wd x.text,sg [40],tx (x.keys.getD 0 []),sg [41]] else [wd x.text])
 else if x.op=4 then sg [40]::(a++[sg [41],ky x.text])
 else if x.op=5 then sg [40]::(a++sg [41]::sg [91]::(itT x.n++[sg [93]]))
 else if x.op=6 then sg [40]::(a++[sg [41],sg [91],sg [93]])
 else if x.op=7 then sg [40]::(a++sg [124]::(b++[sg [41]]))
 else if x.op=8 then sg [40]::(a++sg [44]::(b++[sg [41]]))
 else if x.op=11 then sg [40]::(a++(if x.text=[111,114]∨x.text=[97,110,100] then wd x.text else sg x.text)::(b++[sg [41]]))
 else if x.op=12 then sg [40]::wd [105,102]::(a++wd [116,104,101,110]::(b++wd [101,108,115,101]::(c++[wd [101,110,100],sg [41]])))
 else if x.op=13 then sg [40]::wd [116,114,121]::(a++[sg [41]])
 else if x.op=14 then wd [115,101,97,108]::sg [40]::(a++[sg [41]])
 else if x.op=20 then wd [101,114,114,111,114]::sg [40]::(a++[sg [41]])
 else if x.op=15 then sg [40]::wd [114,101,100,117,99,101]::(a++wd [97,115]::vr x.text::sg [40]::(b++sg [59]::(c++[sg [41],sg [41]])))
 else if x.op=16 then sg [40]::(a++wd [97,115]::vr x.text::sg [124]::(b++[sg [41]]))
 else if x.op=17 then wd [108,105,109,105,116]::sg [40]::(itT x.n++sg [59]::(a++[sg [41]]))
 else [wd [101,109,112,116,121]]
mutual
def Tr.toks:Tr→List Tok
 | .mk x ts=>wR x (Tr.toksL ts)
def Tr.toksL:List Tr→List (List Tok)
 | []=>[]
 | t::ts=>t.toks::Tr.toksL ts
end
theorem zNT {p:List UInt8} (ks:List (List UInt8)) (h:80 ∉ p):yM p ks=p:=by
 unfold yM
 rw [uP h]
 simp [xZ]
theorem qNB {a b:List UInt8} (k:List UInt8) (ha:80 ∉ a) (hb:80 ∉ b):yM (a++80::b) [k]=a++k++b:=by
 unfold yM
 rw [xO ha,uP hb]
 simp [xZ]
theorem qZK {a b c:List UInt8} (k l:List UInt8) (ha:80 ∉ a) (hb:80 ∉ b) (hc:80 ∉ c):yM (a++80::(b++80::c)) [k,l]=a++k++b++l++c:=by
 unfold yM
 rw [xO ha,xO hb,uP hc]
 simp [xZ]
theorem zJX {a b c d:List UInt8} (k l m:List UInt8) (ha:80 ∉ a) (hb:80 ∉ b) (hc:80 ∉ c) (hd:80 ∉ d):yM (a++80::(b++80::(c++80::d))) [k,l,m]=a++k++b++l++c++m++d:=by
 unfold yM
 rw [xO ha,xO hb,xO hc,uP hd]
 simp [xZ]
theorem qMD {s:List UInt8} (h:wJ s=true):80 ∉ s:=by
 obtain ⟨b,w,rfl, -, h2⟩:=qCC h
 intro hm
 have:=List.all_eq_true.1 h2 _ hm
 revert this; decide
theorem qUT {n:Int} (h1:0≤n) (h2:n≤999):80 ∉ Lib.itoa n:=by
 obtain ⟨k,rfl⟩:∃ k:Nat,n=(k:Int):=⟨n.toNat,by omega⟩
 obtain ⟨g1, -⟩:=qEG (n:=k) (by omega)
 unfold yO at g1
 simp only [Bool.and_eq_true] at g1
 intro hm
 have:=List.all_eq_true.1 g1.1.1 _ hm
 revert this; decide
theorem qAX {α:Type} {l:List α} (h:l.length=1):∃ a,l=[a]:=List.length_eq_one_iff.1 h
theorem qKB {α:Type} {l:List α} (h:l.length=2):∃ a b,l=[a,b]:=by
 match l,h with
 | [a,b],_=>exact ⟨a,b,rfl⟩
theorem zBF {α:Type} {l:List α} (h:l.length=3):∃ a b c,l=[a,b,c]:=by
 match l,h with
 | [a,b,c],_=>exact ⟨a,b,c,rfl⟩
def LxT (t:Tr):Prop:=∀ c∈xU, ∀ r,zV (t.text++c::r) t.toks (c::r)
theorem qHN:∀ i:Fin 6,1≤i.val→∀ w∈zI i.val,(if w=[111,114]∨w=[97,110,100] then wd w else sg w)=(kI w).1∧(kI w).2=w.length∧w≠[]∧80 ∉ w∧yR (w.headD 0)=false:=by decide +kernel
theorem zKP {i:Nat} {w:List UInt8} (hi:1≤i∧i≤5) (h:w∈zI i) (r:List UInt8):zV (w++32::r) [if w=[111,114]∨w=[97,110,100] then wd w else sg w] (32::r):=by
 obtain ⟨h1,h2,h3,h4,h5⟩:=qHN ⟨i,by omega⟩ hi.1 w h
 rw [h1]
 obtain ⟨b,v,rfl⟩:=List.exists_cons_of_ne_nil h3
 refine qMG h5 (t:=(kI (b::v)).1) (Prod.ext rfl h2) ?_ (by decide) r
 rw [← h1]; split <;> rfl
theorem qCV (w:List UInt8) {c:UInt8} (h:wJ w=true) (hc:c∈xU) (r q:List UInt8) (l:List Tok) (g:zV (c::r) l q):zV (w++c::r) (wd w::l) q:=(qEJ h hc r).trans g
theorem wI {b:UInt8} (h:b∈[40,41,91,93,123,125,44,58,59,124]) {r q:List UInt8} {l:List Tok} (g:zV r l q):zV (b::r) (sg [b]::l) q:=(zHZ h r).trans g
theorem xF {r q:List UInt8} {l:List Tok} (g:zV r l q):zV (32::r) l q:=(zV.blank r).trans g
theorem LxT.on {t:Tr} (h:LxT t) {c:UInt8} (hc:c∈xU) {r q:List UInt8} {l:List Tok} (g:zV (c::r) l q):zV (t.text++c::r) (t.toks++l) q:=(h c hc r).trans g
theorem zNN (a:List UInt8) (b:List (List UInt8)) (hb:b≠[]):Lib.join (a::b) [44]=a++44::Lib.join b [44]:=by
 cases b with
 | nil=>exact absurd rfl hb
 | cons c b=>simp [Lib.join]
theorem zEK:∀ (ks:List (List UInt8)) (ts:List Tr),ks.length=ts.length→(∀ k∈ks,jJ k)→(∀ t∈ts,LxT t)→∀ r,zV (Lib.join (vG ks (Tr.textL ts)) [44]++125::r) (jZ ks (Tr.toksL ts)) (125::r)
 | [],[],_,_,_,r=>zV.refl _
 | [],t::ts,h,_,_,r=>by simp at h
 | k::ks,[],h,_,_,r=>by simp at h
 | k::ks,t::ts,h,hk,ht,r=>by
  have h1:=qWV (hk k (by simp))
  have h2:=ht t (by simp)
  cases ks with
  | nil =>
   obtain rfl:ts=[]:=by cases ts with
    | nil=>rfl
    | cons u us=>simp at h
   have e:Lib.join (vG [k] (Tr.textL [t])) [44]++125::r=zL k++(58::(t.text++125::r)):=by simp [vG,Tr.textL,Lib.join]
   rw [e]
   simp only [jZ,Tr.toksL,if_true]
   exact (h1 _).trans (wI (by decide) (h2.on (by decide) (zV.refl _)))
  | cons k2 ks =>
   obtain ⟨u,us,rfl⟩:∃ u us,ts=u::us:=by cases ts with
    | nil=>simp at h
    | cons u us=>exact ⟨u,us,rfl⟩
   have ih:=zEK (k2::ks) (u::us) (by simpa using h) (fun k hk2=>hk k (by simp [hk2])) (fun t ht2=>ht t (by simp [ht2])) r
   have e:Lib.join (vG (k::k2::ks) (Tr.textL (t::u::us))) [44]++125::r=zL k++(58::(t.text++44::(Lib.join (vG (k2::ks) (Tr.textL (u::us))) [44]++125::r))):=by
    have e1:vG (k::k2::ks) (Tr.textL (t::u::us))=(zL k++[58]++t.text)::vG (k2::ks) (Tr.textL (u::us)):=rfl
    rw [e1,zNN _ _ (by simp [vG,Tr.textL])]
    simp
   rw [e]
   have e2:jZ (k::k2::ks) (Tr.toksL (t::u::us))=tx k::sg [58]::(t.toks++sg [44]::jZ (k2::ks) (Tr.toksL (u::us))):=by
    conv=>lhs; unfold jZ
    simp [Tr.toksL]
   rw [e2]
   exact (h1 _).trans (wI (by decide) (h2.on (by decide) (wI (by decide) ih)))
theorem qEP {w:List UInt8} (h:kS w=1∨kS w=2):wJ w=true:=by
 have h1:∀ w∈kY,wJ w=true:=by decide +kernel
 have h2:∀ w∈jS,wJ w=true:=by decide +kernel
 unfold kS at h
 by_cases c1:w∈kY
 ·exact h1 w c1
 rw [if_neg c1] at h
 by_cases c2:w∈jS
 ·exact h2 w c2
 rw [if_neg c2] at h; omega
theorem zKT:∀ t:Tr,t.may→LxT t:=by
 refine Tr.ind fun x ts ih hm => ?_
 cases hm with
 | mk _ _ hx ho hk =>
 have ih:∀ t∈ts,LxT t:=fun t ht=>ih t ht (hk t ht)
 intro c hc r
 simp only [Tr.text,Tr.toks]
 cases hx with
 | lit n l h =>
  have h0:ts=[]:=by simpa [zC] using ho
  subst h0
  rcases h with rfl | rfl | rfl
  ·exact qEJ (s:=[110,117,108,108]) (by decide +kernel) hc r
  ·exact qEJ (s:=[102,97,108,115,101]) (by decide +kernel) hc r
  exact qEJ (s:=[116,114,117,101]) (by decide +kernel) hc r
 | num d l h =>
  have h0:ts=[]:=by simpa [zC] using ho
  subst h0
  exact zKS h hc r
 | txt s l h =>
  have h0:ts=[]:=by simpa [zC] using ho
  subst h0
  exact qWV h _
 | name o w l h hw =>
  rcases h with rfl | rfl | rfl
  ·have h0:ts=[]:=by simpa [zC] using ho
   subst h0
   exact qWU hw hc r
  ·obtain ⟨t,u,v,rfl⟩:=zBF (l:=ts) (by simpa [zC] using ho)
   have e:wP ⟨15,0,w,d0,[],l⟩ (Tr.textL [t,u,v])=yM (yQ ⟨15,0,w,d0,[],l⟩) [t.text,u.text,v.text]:=by simp [wP,Tr.textL]
   have e2:yQ ⟨15,0,w,d0,[],l⟩=[40,114,101,100,117,99,101,32]++80::(([32,97,115,32,36]++w++[32,40])++80::([59]++80::[41,41])):=by simp [yQ]
   have hn:=qMD hw
   rw [e,e2,zJX _ _ _ (by decide) (by simp [hn]) (by decide) (by decide)]
   have e3:[40,114,101,100,117,99,101,32]++t.text++([32,97,115,32,36]++w++[32,40])++u.text++[59]++v.text++[41,41]++c::r=40::([114,101,100,117,99,101]++32::(t.text++32::([97,115]++32::((36::w)++32::(40::(u.text++59::(v.text++41::(41::c::r)))))))):=by simp
   rw [e3]
   exact wI (by decide) (qCV [114,101,100,117,99,101] (by decide +kernel) (by decide) _ _ _ (xF ((ih t (by simp)).on (by decide) (xF (qCV [97,115] (by decide +kernel) (by decide) _ _ _ (xF ((qWU hw (by decide) _).trans (xF (wI (by decide) ((ih u (by simp)).on (by decide) (wI (by decide) ((ih v (by simp)).on (by decide) (wI (by decide) (wI (by decide) (zV.refl _)))))))))))))))
  obtain ⟨t,u,rfl⟩:=qKB (l:=ts) (by simpa [zC] using ho)
  have e:wP ⟨16,0,w,d0,[],l⟩ (Tr.textL [t,u])=yM (yQ ⟨16,0,w,d0,[],l⟩) [t.text,u.text]:=by simp [wP,Tr.textL]
  have e2:yQ ⟨16,0,w,d0,[],l⟩=[40]++80::(([32,97,115,32,36]++w++[32,124,32])++80::[41]):=by simp [yQ]
  have hn:=qMD hw
  rw [e,e2,qZK _ _ (by decide) (by simp [hn]) (by decide)]
  have e3:[40]++t.text++([32,97,115,32,36]++w++[32,124,32])++u.text++[41]++c::r=40::(t.text++32::([97,115]++32::((36::w)++32::(124::32::(u.text++41::(c::r)))))):=by simp
  rw [e3]
  exact wI (by decide) ((ih t (by simp)).on (by decide) (xF (qCV [97,115] (by decide +kernel) (by decide) _ _ _ (xF ((qWU hw (by decide) _).trans (xF (wI (by decide) (xF ((ih u (by simp)).on (by decide) (wI (by decide) (zV.refl _)))))))))))
 | key s l h =>
  obtain ⟨t,rfl⟩:=qAX (l:=ts) (by simpa [zC] using ho)
  have e:wP ⟨4,0,s,d0,[],l⟩ (Tr.textL [t])=yM ([40]++80::[41,46]) [t.text]++zL s:=by simp [wP,Tr.textL,yQ]
  rw [e,qNB _ (by decide) (by decide)]
  have e3:[40]++t.text++[41,46]++zL s++c::r=40::(t.text++41::(46::zL s++c::r)):=by simp
  rw [e3]
  exact wI (by decide) ((ih t (by simp)).on (by decide) (wI (by decide) (zKQ h _)))
 | at_ n l h1 h2 =>
  obtain ⟨t,rfl⟩:=qAX (l:=ts) (by simpa [zC] using ho)
  have e:wP ⟨5,n,[],d0,[],l⟩ (Tr.textL [t])=yM ([40]++80::[41,91]) [t.text]++(Lib.itoa n++[93]):=by simp [wP,Tr.textL,yQ]
  rw [e,qNB _ (by decide) (by decide)]
  have e3:[40]++t.text++[41,91]++(Lib.itoa n++[93])++c::r=40::(t.text++41::(91::(Lib.itoa n++93::(c::r)))):=by simp
  rw [e3]
  exact wI (by decide) ((ih t (by simp)).on (by decide) (wI (by decide) (wI (by decide) ((zEL h1 h2 (by decide) _).trans (wI (by decide) (zV.refl _))))))
 | obj ks l h hn =>
  have h0:ts.length=ks.length:=by simpa [zC] using ho
  have e:wP ⟨10,0,[],d0,ks,l⟩ (Tr.textL ts)=123::(Lib.join (vG ks (Tr.textL ts)) [44]++[125]):=by simp [wP,uY]
  rw [e]
  have e3:123::(Lib.join (vG ks (Tr.textL ts)) [44]++[125])++c::r=123::(Lib.join (vG ks (Tr.textL ts)) [44]++125::(c::r)):=by simp
  rw [e3]
  exact wI (by decide) ((zEK ks ts h0.symm h ih _).trans (wI (by decide) (zV.refl _)))
 | two i w l hi h =>
  obtain ⟨t,u,rfl⟩:=qKB (l:=ts) (by simpa [zC] using ho)
  have e:wP ⟨11,0,w,d0,[],l⟩ (Tr.textL [t,u])=yM (yQ ⟨11,0,w,d0,[],l⟩) [t.text,u.text]:=by simp [wP,Tr.textL]
  have e2:yQ ⟨11,0,w,d0,[],l⟩=[40]++80::(([32]++w++[32])++80::[41]):=by simp [yQ]
  have hn:=(qHN ⟨i,by omega⟩ hi.1 w h).2.2.2.1
  rw [e,e2,qZK _ _ (by decide) (by simp [hn]) (by decide)]
  have e3:[40]++t.text++([32]++w++[32])++u.text++[41]++c::r=40::(t.text++32::(w++32::(u.text++41::(c::r)))):=by simp
  rw [e3]
  exact wI (by decide) ((ih t (by simp)).on (by decide) (xF ((zKP hi h _).trans (xF ((ih u (by simp)).on (by decide) (wI (by decide) (zV.refl _)))))))
 | lim n l h1 h2 =>
  obtain ⟨t,rfl⟩:=qAX (l:=ts) (by simpa [zC] using ho)
  have e:wP ⟨17,n,[],d0,[],l⟩ (Tr.textL [t])=yM (([108,105,109,105,116,40]++Lib.itoa n++[59])++80::[41]) [t.text]:=by simp [wP,Tr.textL,yQ]
  have hn:=qUT h1 h2
  rw [e,qNB _ (by simp [hn]) (by decide)]
  have e3:([108,105,109,105,116,40]++Lib.itoa n++[59])++t.text++[41]++c::r=[108,105,109,105,116]++40::(Lib.itoa n++59::(t.text++41::(c::r))):=by simp
  rw [e3]
  exact qCV [108,105,109,105,116] (by decide +kernel) (by decide) _ _ _ (wI (by decide) ((zEL (by omega) h2 (by decide) _).trans (wI (by decide) ((ih t (by simp)).on (by decide) (wI (by decide) (zV.refl _))))))
 | call1 w l h =>
  have h0:ts=[]:=by simpa [zC] using ho
  subst h0
  exact qEJ (qEP (.inl h)) hc r
 | call2 w k l h hk2 =>
  have h0:ts=[]:=by simpa [zC] using ho
  subst h0
  have e:wP ⟨18,0,w,d0,[k],l⟩ (Tr.textL [])++c::r=w++40::(zL k++(41::(c::r))):=by simp [wP]
  rw [e]
  exact qCV w (qEP (.inr h)) (by decide) _ _ _ (wI (by decide) ((qWV hk2 _).trans (wI (by decide) (zV.refl _))))
 | plain o l h =>
  rcases h with rfl | rfl | rfl | rfl | rfl | rfl | rfl | rfl | rfl | rfl
  ·have h0:ts=[]:=by simpa [zC] using ho
   subst h0
   exact zKR hc r
  ·obtain ⟨t,rfl⟩:=qAX (l:=ts) (by simpa [zC] using ho)
   have e:wP ⟨6,0,[],d0,[],l⟩ (Tr.textL [t])=yM ([40]++80::[41,91,93]) [t.text]:=by simp [wP,Tr.textL,yQ]
   rw [e,qNB _ (by decide) (by decide)]
   have e3:[40]++t.text++[41,91,93]++c::r=40::(t.text++41::91::93::(c::r)):=by simp
   rw [e3]
   exact wI (by decide) ((ih t (by simp)).on (by decide) (wI (by decide) (wI (by decide) (wI (by decide) (zV.refl _)))))
  ·obtain ⟨t,u,rfl⟩:=qKB (l:=ts) (by simpa [zC] using ho)
   have e:wP ⟨7,0,[],d0,[],l⟩ (Tr.textL [t,u])=yM ([40]++80::([32,124,32]++80::[41])) [t.text,u.text]:=by simp [wP,Tr.textL,yQ]
   rw [e,qZK _ _ (by decide) (by decide) (by decide)]
   have e3:[40]++t.text++[32,124,32]++u.text++[41]++c::r=40::(t.text++32::124::32::(u.text++41::(c::r))):=by simp
   rw [e3]
   exact wI (by decide) ((ih t (by simp)).on (by decide) (xF (wI (by decide) (xF ((ih u (by simp)).on (by decide) (wI (by decide) (zV.refl _)))))))
  ·obtain ⟨t,u,rfl⟩:=qKB (l:=ts) (by simpa [zC] using ho)
   have e:wP ⟨8,0,[],d0,[],l⟩ (Tr.textL [t,u])=yM ([40]++80::([32,44,32]++80::[41])) [t.text,u.text]:=by simp [wP,Tr.textL,yQ]
   rw [e,qZK _ _ (by decide) (by decide) (by decide)]
   have e3:[40]++t.text++[32,44,32]++u.text++[41]++c::r=40::(t.text++32::44::32::(u.text++41::(c::r))):=by simp
   rw [e3]
   exact wI (by decide) ((ih t (by simp)).on (by decide) (xF (wI (by decide) (xF ((ih u (by simp)).on (by decide) (wI (by decide) (zV.refl _)))))))
  ·have h0:ts.length≤1:=by simpa [zC] using ho
   match ts,h0 with
   | [],_=>exact wI (by decide) (wI (by decide) (zV.refl _))
   | [t],_ =>
    have e:wP ⟨9,0,[],d0,[],l⟩ (Tr.textL [t])++c::r=91::(t.text++93::(c::r)):=by simp [wP,Tr.textL,Lib.join]
    have e2:wR ⟨9,0,[],d0,[],l⟩ (Tr.toksL [t])=sg [91]::(t.toks++[sg [93]]):=by simp [wR,Tr.toksL]
    rw [e,e2]
    exact wI (by decide) ((ih t (by simp)).on (by decide) (wI (by decide) (zV.refl _)))
  ·obtain ⟨t,u,v,rfl⟩:=zBF (l:=ts) (by simpa [zC] using ho)
   have e:wP ⟨12,0,[],d0,[],l⟩ (Tr.textL [t,u,v])=yM ([40,105,102,32]++80::([32,116,104,101,110,32]++80::([32,101,108,115,101,32]++80::[32,101,110,100,41]))) [t.text,u.text,v.text]:=by simp [wP,Tr.textL,yQ]
   rw [e,zJX _ _ _ (by decide) (by decide) (by decide) (by decide)]
   have e3:[40,105,102,32]++t.text++[32,116,104,101,110,32]++u.text++[32,101,108,115,101,32]++v.text++[32,101,110,100,41]++c::r=40::([105,102]++32::(t.text++32::([116,104,101,110]++32::(u.text++32::([101,108,115,101]++32::(v.text++32::([101,110,100]++41::(c::r)))))))):=by simp
   rw [e3]
   exact wI (by decide) (qCV [105,102] (by decide +kernel) (by decide) _ _ _ (xF ((ih t (by simp)).on (by decide) (xF (qCV [116,104,101,110] (by decide +kernel) (by decide) _ _ _ (xF ((ih u (by simp)).on (by decide) (xF (qCV [101,108,115,101] (by decide +kernel) (by decide) _ _ _ (xF ((ih v (by simp)).on (by decide) (xF (qCV [101,110,100] (by decide +kernel) (by decide) _ _ _ (wI (by decide) (zV.refl _)))))))))))))))
  ·obtain ⟨t,rfl⟩:=qAX (l:=ts) (by simpa [zC] using ho)
   have e:wP ⟨13,0,[],d0,[],l⟩ (Tr.textL [t])=yM ([40,116,114,121,32]++80::[41]) [t.text]:=by simp [wP,Tr.textL,yQ]
   rw [e,qNB _ (by decide) (by decide)]
   have e3:[40,116,114,121,32]++t.text++[41]++c::r=40::([116,114,121]++32::(t.text++41::(c::r))):=by simp
   rw [e3]
   exact wI (by decide) (qCV [116,114,121] (by decide +kernel) (by decide) _ _ _ (xF ((ih t (by simp)).on (by decide) (wI (by decide) (zV.refl _)))))
  ·obtain ⟨t,rfl⟩:=qAX (l:=ts) (by simpa [zC] using ho)
   have e:wP ⟨14,0,[],d0,[],l⟩ (Tr.textL [t])=yM ([115,101,97,108,40]++80::[41]) [t.text]:=by simp [wP,Tr.textL,yQ]
   rw [e,qNB _ (by decide) (by decide)]
   have e3:[115,101,97,108,40]++t.text++[41]++c::r=[115,101,97,108]++40::(t.text++41::(c::r)):=by simp
   rw [e3]
   exact qCV [115,101,97,108] (by decide +kernel) (by decide) _ _ _ (wI (by decide) ((ih t (by simp)).on (by decide) (wI (by decide) (zV.refl _))))
  ·have h0:ts=[]:=by simpa [zC] using ho
   subst h0
   have e:wP ⟨19,0,[],d0,[],l⟩ (Tr.textL [])=[101,109,112,116,121]:=by
    rw [show wP ⟨19,0,[],d0,[],l⟩ (Tr.textL [])=yM [101,109,112,116,121] [] by simp [wP,Tr.textL,yQ],zNT _ (by decide)]
   rw [e]
   exact qEJ (s:=[101,109,112,116,121]) (by decide +kernel) hc r
  obtain ⟨t,rfl⟩:=qAX (l:=ts) (by simpa [zC] using ho)
  have e:wP ⟨20,0,[],d0,[],l⟩ (Tr.textL [t])=yM ([101,114,114,111,114,40]++80::[41]) [t.text]:=by simp [wP,Tr.textL,yQ]
  rw [e,qNB _ (by decide) (by decide)]
  have e3:[101,114,114,111,114,40]++t.text++[41]++c::r=[101,114,114,111,114]++40::(t.text++41::(c::r)):=by simp
  rw [e3]
  exact qCV [101,114,114,111,114] (by decide +kernel) (by decide) _ _ _ (wI (by decide) ((ih t (by simp)).on (by decide) (wI (by decide) (zV.refl _))))
end Go.Proofs.YtbhhphabggcacaaGreatDoor
