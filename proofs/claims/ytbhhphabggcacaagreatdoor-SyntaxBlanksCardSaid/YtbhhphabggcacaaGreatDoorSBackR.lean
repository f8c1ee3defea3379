import Derived.Test.YtbhhphabggcacaaGreatDoorSBackQ
namespace Go.Proofs.YtbhhphabggcacaaGreatDoor
open Sy Go
set_option maxRecDepth 100000
set_option maxHeartbeats 4000000
set_option linter.unusedSimpArgs false
set_option linter.unusedVariables false
theorem sz1 (x:Nd) (t:Tr):(Tr.mk x [t]).size=t.size+1:=by simp [Tr.size,Tr.sizeL]
theorem sz2 (x:Nd) (t u:Tr):(Tr.mk x [t,u]).size=t.size+u.size+1:=by simp [Tr.size,Tr.sizeL]
theorem sz3 (x:Nd) (t u v:Tr):(Tr.mk x [t,u,v]).size=t.size+u.size+v.size+1:=by simp [Tr.size,Tr.sizeL]; omega
theorem yK {t:Tr} (h:∀ (n:Nat) (R:List Tok) (N:List Nd) (d:Int),20 * t.toks.length+1≤n→d+2 * t.size≤60→qFM R→zM (n+1) (st (t.toks++R) N d)=(rt N t,st R (N++t.flat N.length) d)):qCQ t:=fun n R N d hn hd hR=>by
 obtain ⟨n,rfl⟩:=kH n 2 (by omega)
 exact qPD (n:=n+1) (by omega) (h n R N d (by omega) hd hR) hR
theorem xY {u:Tok} {R:List Tok} {P:Tok→Prop} (h:P u):∀ v,(u::R).head?=some v→P v:=fun v hv=>by simp at hv; subst hv; exact h
theorem zAN {n:Nat} {a:Int} {s:List UInt8} {R:List Tok} {N:List Nd} {d:Int}:zW (n+1) a (st (ky s::R) N d)=zW n (wF ⟨4,0,s,d0,[],[a]⟩ (st R N d)).1 (wF ⟨4,0,s,d0,[],[a]⟩ (st R N d)).2:=by
 simp only [zW]
 rw [if_neg (by simp [st]),vT (by simp [ky]) (by simp [ky])]
 rfl
theorem zDV {n:Nat} {a:Int} {R:List Tok} {N:List Nd} {d:Int}:zW (n+1) a (st (sg [91]::sg [93]::R) N d)=zW n (wF ⟨6,0,[],d0,[],[a]⟩ (st R N d)).1 (wF ⟨6,0,[],d0,[],[a]⟩ (st R N d)).2:=by
 simp only [zW]
 rw [if_neg (by simp [st]),qEH (f:=fun t=>decide (t.kind=3)) (xY (by decide))]
 simp only [Bool.false_eq_true,if_false]
 rw [jF (by decide) (by decide)]
 simp only [Bool.true_eq_false,if_false]
 rw [jF (by decide) (by decide)]
 rfl
theorem zDW {n:Nat} {a k:Int} (h1 : -999≤k) (h2:k≤999) {R:List Tok} {N:List Nd} {d:Int}:zW (n+1) a (st (sg [91]::(itT k++sg [93]::R)) N d)=zW n (wF ⟨5,k,[],d0,[],[a]⟩ (st R N d)).1 (wF ⟨5,k,[],d0,[],[a]⟩ (st R N d)).2:=by
 simp only [zW]
 rw [if_neg (by simp [st]),qEH (f:=fun t=>decide (t.kind=3)) (xY (by decide))]
 simp only [Bool.false_eq_true,if_false]
 rw [jF (by decide) (by decide)]
 simp only [Bool.true_eq_false,if_false]
 unfold itT
 by_cases hk:k<0
 ·obtain ⟨m,rfl⟩:∃ m:Nat,k = -(m:Int):=⟨k.natAbs,by omega⟩
  rw [if_pos hk,Int.neg_neg]
  simp only [List.cons_append,List.nil_append]
  rw [jH (xY (by decide))]
  simp only [Bool.false_eq_true,if_false]
  rw [jF (by decide) (by decide),qHJ (by omega)]
  simp only [if_true]
  rw [yJ (by decide) (by decide)]
 obtain ⟨m,rfl⟩:∃ m:Nat,k=(m:Int):=⟨k.toNat,by omega⟩
 rw [if_neg hk]
 simp only [List.cons_append,List.nil_append]
 rw [jH (xY (by simp [wH,nm]))]
 simp only [Bool.false_eq_true,if_false]
 rw [jH (xY (by simp [wH,nm])),qHJ (by omega)]
 simp only [Bool.false_eq_true,if_false]
 rw [yJ (by decide) (by decide)]
theorem qZE (k:Int):(itT k).length≤2∧1≤(itT k).length:=by unfold itT; split <;> simp
theorem zHL:∀ t:Tr,t.may→qCQ t:=by
 refine Tr.ind fun x ts ih hm => ?_
 have hhd:=fun t (ht:t∈ts)=>qOR (t:=t)
 cases hm with
 | mk _ _ hx ho hk =>
 have hhd:∀ t∈ts, ∃ u L,t.toks=u::L∧wH 6 [[93]] u=false:=fun t ht=>qOR (hk t ht)
 have ih:∀ t∈ts,qCQ t:=fun t ht=>ih t ht (hk t ht)
 cases hx with
 | lit k l h =>
  have h0:ts=[]:=by simpa [zC] using ho
  subst h0
  refine yK fun n R N d hn hd hR => ?_
  obtain ⟨n,rfl⟩:∃ m,n=m+1:=⟨n-1,by omega⟩
  rcases h with rfl | rfl | rfl
  ·show zM (n+1+1) (st (wd [110,117,108,108]::R) N d)=_
   rw [kF]
   simp only [zS]
   rw [if_pos trivial]
   exact (qBG (x:=⟨2,1,[],d0,[],l⟩))
  ·show zM (n+1+1) (st (wd [102,97,108,115,101]::R) N d)=_
   rw [kF]
   simp only [zS]
   rw [if_neg (by decide),if_neg (by decide),if_pos trivial]
   exact (qBG (x:=⟨2,2,[],d0,[],l⟩))
  show zM (n+1+1) (st (wd [116,114,117,101]::R) N d)=_
  rw [kF]
  simp only [zS]
  rw [if_neg (by decide),if_pos trivial]
  exact (qBG (x:=⟨2,3,[],d0,[],l⟩))
 | num q l h =>
  have h0:ts=[]:=by simpa [zC] using ho
  subst h0
  refine yK fun n R N d hn hd hR => ?_
  obtain ⟨n,rfl⟩:∃ m,n=m+1:=⟨n-1,by omega⟩
  show zM (n+1+1) (st (qDI q++R) N d)=_
  unfold qDI
  by_cases c:q.neg=true
  ·rw [if_pos c]
   obtain ⟨neg,s,k⟩:=q
   simp only at c
   subst c
   have hne:s≠[48]:=by
    rintro rfl
    simp [yO] at h
   show zM (n+1+1) (st (sg [45]::nm ⟨false,s,k⟩::R) N d)=_
   rw [uO]
   simp only [zJ]
   rw [if_neg (by decide),if_pos trivial,qBK (by simp [nm]) (by simp [nm])]
   simp only [nm,hne,ne_eq,not_false_eq_true,decide_true]
   exact (qBG (x:=⟨2,4,[],⟨true,s,k⟩,[],l⟩))
  rw [if_neg c]
  show zM (n+1+1) (st (nm q::R) N d)=_
  simp only [zM]
  rw [vT (by simp [nm]) rfl]
  simp [nm,qK,st]
  exact (qBG (x:=⟨2,4,[],q,[],l⟩))
 | txt s l h =>
  have h0:ts=[]:=by simpa [zC] using ho
  subst h0
  refine yK fun n R N d hn hd hR => ?_
  show zM (n+1) (st (tx s::R) N d)=_
  simp only [zM]
  rw [vT (by simp [tx]) rfl]
  simp [tx,qK,st]
  exact (qBG (x:=⟨2,5,s,d0,[],l⟩))
 | name o w l h hw =>
  rcases h with rfl | rfl | rfl
  ·have h0:ts=[]:=by simpa [zC] using ho
   subst h0
   refine yK fun n R N d hn hd hR => ?_
   show zM (n+1) (st (vr w::R) N d)=_
   simp only [zM]
   rw [vT (by simp [vr]) rfl]
   simp [vr,qK,st]
   exact (qBG (x:=⟨3,0,w,d0,[],l⟩))
  ·obtain ⟨t,u,v,rfl⟩:=zBF (l:=ts) (by simpa [zC] using ho)
   have e0:(Tr.mk ⟨15,0,w,d0,[],l⟩ [t,u,v]).toks=sg [40]::wd [114,101,100,117,99,101]::(t.toks++wd [97,115]::vr w::sg [40]::(u.toks++sg [59]::(v.toks++[sg [41],sg [41]]))):=by simp [Tr.toks,wR,Tr.toksL]
   refine yK fun n R N d hn hd hR => ?_
   rw [e0] at hn ⊢
   rw [sz3] at hd
   simp only [List.length_cons,List.length_append,List.length_nil] at hn
   have e1:(sg [40]::wd [114,101,100,117,99,101]::(t.toks++wd [97,115]::vr w::sg [40]::(u.toks++sg [59]::(v.toks++[sg [41],sg [41]]))))++R=sg [40]::(wd [114,101,100,117,99,101]::(t.toks++(wd [97,115]::vr w::sg [40]::(u.toks++sg [59]::(v.toks++sg [41]::(sg [41]::R)))))):=by simp
   rw [e1]
   obtain ⟨n,rfl⟩:=kH n 15 (by omega)
   rw [show n+15+1=(n+3)+13 from rfl]
   refine qFJ (by omega) (by omega) ?_
   rw [show n+3=(n+2)+1 from rfl,kF]
   simp only [zS]
   rw [if_neg (by decide),if_neg (by decide),if_neg (by decide),if_neg (by decide),if_neg (by decide),if_neg (by decide),if_neg (by decide),if_neg (by decide),if_pos trivial]
   simp only [zY]
   rw [ih t (by simp) n _ N (d+1) (by omega) (by omega) (xY (by decide))]
   simp only
   rw [yJ (by decide) (by decide),qBK (by simp [vr]) (by simp [vr])]
   simp only
   rw [yJ (by decide) (by decide),qBT (ih u (by simp)) (by decide) (by omega) (by omega)]
   simp only
   rw [qBT (ih v (by simp)) (by decide) (by omega) (by omega)]
   exact (zJT (x:=⟨15,0,w,d0,[],l⟩) (t:=t) (u:=u) (v:=v))
  obtain ⟨t,u,rfl⟩:=qKB (l:=ts) (by simpa [zC] using ho)
  have e0:(Tr.mk ⟨16,0,w,d0,[],l⟩ [t,u]).toks=sg [40]::(t.toks++wd [97,115]::vr w::sg [124]::(u.toks++[sg [41]])):=by simp [Tr.toks,wR,Tr.toksL]
  refine yK fun n R N d hn hd hR => ?_
  rw [e0] at hn ⊢
  rw [sz2] at hd
  simp only [List.length_cons,List.length_append,List.length_nil] at hn
  have e1:(sg [40]::(t.toks++wd [97,115]::vr w::sg [124]::(u.toks++[sg [41]])))++R=sg [40]::(t.toks++(wd [97,115]::vr w::sg [124]::(u.toks++(sg [41]::R)))):=by simp
  rw [e1]
  obtain ⟨n,rfl⟩:=kH n 4 (by omega)
  rw [show n+4+1=(n+1)+4 from rfl]
  have hs:=Tr.size_pos t
  refine qDE (by omega) ?_
  have hb:=vY (ih t (by simp)) 6 0 n (wd [97,115]::vr w::sg [124]::(u.toks++(sg [41]::R))) N (d+1) rfl (by omega) (by omega) (xY (by decide)) (fun j _ hj=>by
   have h9:∀ j:Fin 6,wH (lvK j.val) (zI j.val) (wd [97,115])=false:=by decide
   exact xY (h9 ⟨j,by omega⟩))
  simp only [zF]
  rw [hb]
  simp only
  rw [jH (xY (by decide))]
  simp only [Bool.false_eq_true,if_false]
  rw [jF (by decide) (by decide)]
  simp only [if_true]
  rw [qBK (by simp [vr]) (by simp [vr])]
  simp only
  rw [yJ (by decide) (by decide),qBS (ih u (by simp)) (by omega) (by omega) (by omega) (vB (by decide) R)]
  exact (zDT (x:=⟨16,0,w,d0,[],l⟩) (t:=t) (u:=u))
 | key s l h =>
  obtain ⟨t,rfl⟩:=qAX (l:=ts) (by simpa [zC] using ho)
  have e0:(Tr.mk ⟨4,0,s,d0,[],l⟩ [t]).toks=sg [40]::(t.toks++[sg [41],ky s]):=by simp [Tr.toks,wR,Tr.toksL]
  intro n R N d hn hd hR
  rw [e0] at hn ⊢
  rw [sz1] at hd
  simp only [List.length_cons,List.length_append,List.length_nil] at hn
  have e1:(sg [40]::(t.toks++[sg [41],ky s]))++R=sg [40]::(t.toks++sg [41]::(ky s::R)):=by simp
  obtain ⟨n,rfl⟩:=kH n 3 (by omega)
  rw [e1,qFK (ih t (by simp)) (by omega) (by omega),show n+3-1=(n+1)+1 from rfl,zAN]
  have hq:=qJH (x:=⟨4,0,s,d0,[],l⟩) (t:=t) (N:=N) (R:=R) (d:=d)
  simp only at hq
  rw [hq]
  exact qED (by omega) hR
 | at_ k l h1 h2 =>
  obtain ⟨t,rfl⟩:=qAX (l:=ts) (by simpa [zC] using ho)
  have e0:(Tr.mk ⟨5,k,[],d0,[],l⟩ [t]).toks=sg [40]::(t.toks++sg [41]::sg [91]::(itT k++[sg [93]])):=by simp [Tr.toks,wR,Tr.toksL]
  intro n R N d hn hd hR
  rw [e0] at hn ⊢
  rw [sz1] at hd
  simp only [List.length_cons,List.length_append,List.length_nil] at hn
  have e1:(sg [40]::(t.toks++sg [41]::sg [91]::(itT k++[sg [93]])))++R=sg [40]::(t.toks++sg [41]::(sg [91]::(itT k++sg [93]::R))):=by simp
  obtain ⟨n,rfl⟩:=kH n 3 (by omega)
  rw [e1,qFK (ih t (by simp)) (by omega) (by omega),show n+3-1=(n+1)+1 from rfl,zDW h1 h2]
  have hq:=qJH (x:=⟨5,k,[],d0,[],l⟩) (t:=t) (N:=N) (R:=R) (d:=d)
  simp only at hq
  rw [hq]
  exact qED (by omega) hR
 | obj ks l h hn0 =>
  have h0:ts.length=ks.length:=by simpa [zC] using ho
  have e0:(Tr.mk ⟨10,0,[],d0,ks,l⟩ ts).toks=sg [123]::(jZ ks (Tr.toksL ts)++[sg [125]]):=by simp [Tr.toks,wR]
  have hz:(Tr.mk ⟨10,0,[],d0,ks,l⟩ ts).size=Tr.sizeL ts+1:=by simp [Tr.size]
  refine yK fun n R N d hn hd hR => ?_
  rw [e0] at hn ⊢
  rw [hz] at hd
  simp only [List.length_cons,List.length_append,List.length_nil] at hn
  have e1:(sg [123]::(jZ ks (Tr.toksL ts)++[sg [125]]))++R=sg [123]::(jZ ks (Tr.toksL ts)++sg [125]::R):=by simp
  obtain ⟨n,rfl⟩:=kH n 2 (by omega)
  rw [e1,uO]
  simp only [zJ]
  rw [if_neg (by decide),if_neg (by decide),if_neg (by decide),if_neg (by decide),if_pos trivial]
  simp only [zZ]
  by_cases hks:ks=[]
  ·subst hks
   obtain rfl:ts=[]:=by cases ts with
    | nil=>rfl
    | cons u us=>simp at h0
   show (if (qT 6 [[125]] (st (sg [125]::R) N d)).1.2=true then _ else _)=_
   rw [jF (by decide) (by decide)]
   exact (qBG (x:=⟨10,0,[],d0,[],l⟩))
  have hmiss:∀ v,(jZ ks (Tr.toksL ts)++sg [125]::R).head?=some v→wH 6 [[125]] v=false:=by
   cases ks with
   | nil=>exact absurd rfl hks
   | cons k ks =>
    cases ts with
    | nil=>simp at h0
    | cons t ts =>
     have e2:∃ L,jZ (k::ks) (Tr.toksL (t::ts))=tx k::L:=⟨_,by conv=>lhs; unfold jZ; simp only [Tr.toksL]⟩
     obtain ⟨L,e2⟩:=e2
     rw [e2]
     exact xY (by simp [wH,tx])
  rw [jH hmiss]
  simp only [Bool.false_eq_true,if_false]
  have hu:upP 1 (st (jZ ks (Tr.toksL ts)++sg [125]::R) N d)=st (jZ ks (Tr.toksL ts)++sg [125]::R) N (d+1):=by
   unfold upP qK st
   simp only [Bool.false_or,PS.mk.injEq,true_and]
   rw [decide_eq_true (by omega)]; rfl
  rw [hu,qUB ks ts hks h0.symm ih n [] [] R N (d+1) (by simpa using hn0) (by omega) (by omega)]
  simp only [List.nil_append]
  have hdn:yN 1 (st R (N++Tr.flatL N.length ts) (d+1))=st R (N++Tr.flatL N.length ts) d:=by simp [yN,st]
  rw [hdn]
  have hq:=qDF (x:=⟨10,0,[],d0,ks,Tr.ends N.length ts⟩) (ts:=ts) (N:=N) (R:=R) (d:=d) rfl
  rw [hq]
  rw [show (⟨10,0,[],d0,ks,Tr.ends N.length ts⟩:Nd)={ (⟨10,0,[],d0,ks,l⟩:Nd) with kids:=Tr.ends N.length ts } from rfl,qBO,qGR]
 | two i w l hi h =>
  obtain ⟨t,u,rfl⟩:=qKB (l:=ts) (by simpa [zC] using ho)
  have e0:(Tr.mk ⟨11,0,w,d0,[],l⟩ [t,u]).toks=sg [40]::(t.toks++(if w=[111,114]∨w=[97,110,100] then wd w else sg w)::(u.toks++[sg [41]])):=by simp [Tr.toks,wR,Tr.toksL]
  obtain ⟨g1,g2,g3,g4,g5,g6⟩:=zCV ⟨i,by omega⟩ hi.1 w h
  refine yK fun n R N d hn hd hR => ?_
  rw [e0] at hn ⊢
  rw [sz2] at hd
  generalize (if w=[111,114]∨w=[97,110,100] then wd w else sg w)=v at *
  simp only [List.length_cons,List.length_append,List.length_nil] at hn
  have e1:(sg [40]::(t.toks++v::(u.toks++[sg [41]])))++R=sg [40]::(t.toks++v::(u.toks++sg [41]::R)):=by simp
  rw [e1]
  have hlv:yU i=11:=by unfold yU; rw [if_neg (by omega)]
  exact qOY (ih t (by simp)) (ih u (by simp)) (i:=i) (by omega) g3 g1 (fun j h1 h2=>g2 ⟨j,by omega⟩ h1) ⟨g4,g5⟩ (by rw [hlv,if_neg (by decide),g6]) (by omega) (by omega)
 | lim k l h1 h2 =>
  obtain ⟨t,rfl⟩:=qAX (l:=ts) (by simpa [zC] using ho)
  have e0:(Tr.mk ⟨17,k,[],d0,[],l⟩ [t]).toks=wd [108,105,109,105,116]::sg [40]::(itT k++sg [59]::(t.toks++[sg [41]])):=by simp [Tr.toks,wR,Tr.toksL]
  refine yK fun n R N d hn hd hR => ?_
  rw [e0] at hn ⊢
  rw [sz1] at hd
  simp only [List.length_cons,List.length_append,List.length_nil] at hn
  obtain ⟨m,rfl⟩:∃ m:Nat,k=(m:Int):=⟨k.toNat,by omega⟩
  have e2:itT (m:Int)=[nm ⟨false,Lib.itoa m,0⟩]:=by unfold itT; rw [if_neg (by omega)]
  rw [e2] at hn ⊢
  have e1:(wd [108,105,109,105,116]::sg [40]::([nm ⟨false,Lib.itoa m,0⟩]++sg [59]::(t.toks++[sg [41]])))++R=wd [108,105,109,105,116]::sg [40]::(nm ⟨false,Lib.itoa m,0⟩::sg [59]::(t.toks++sg [41]::R)):=by simp
  obtain ⟨n,rfl⟩:=kH n 2 (by omega)
  rw [e1,show n+2+1=(n+2)+1 from rfl,kF]
  simp only [zS]
  rw [if_neg (by decide),if_neg (by decide),if_neg (by decide),if_neg (by decide),if_neg (by decide),if_neg (by decide),if_neg (by decide),if_neg (by decide),if_neg (by decide),if_pos trivial]
  simp only [wV]
  rw [yJ (by decide) (by decide),qHJ (by omega)]
  simp only
  rw [yJ (by decide) (by decide),qBT (ih t (by simp)) (by decide) (by omega) (by omega)]
  exact (qJH (x:=⟨17,(m:Int),[],d0,[],l⟩) (t:=t))
 | call1 w l h =>
  have h0:ts=[]:=by simpa [zC] using ho
  subst h0
  refine yK fun n R N d hn hd hR => ?_
  obtain ⟨n,rfl⟩:∃ m,n=m+1:=⟨n-1,by omega⟩
  show zM (n+1+1) (st (wd w::R) N d)=_
  rw [kF,qNH (.inl h)]
  unfold jG
  rw [if_neg (by omega),if_neg (by omega)]
  exact (qBG (x:=⟨18,0,w,d0,[],l⟩))
 | call2 w k l h hk2 =>
  have h0:ts=[]:=by simpa [zC] using ho
  subst h0
  refine yK fun n R N d hn hd hR => ?_
  obtain ⟨n,rfl⟩:∃ m,n=m+1:=⟨n-1,by omega⟩
  show zM (n+1+1) (st (wd w::sg [40]::tx k::sg [41]::R) N d)=_
  rw [kF,qNH (.inr h)]
  unfold jG
  rw [if_neg (by omega),if_pos h,yJ (by decide) (by decide),qBK (by simp [tx]) (by simp [tx])]
  simp only
  rw [yJ (by decide) (by decide)]
  exact (qBG (x:=⟨18,0,w,d0,[k],l⟩))
 | plain o l h =>
  rcases h with rfl | rfl | rfl | rfl | rfl | rfl | rfl | rfl | rfl | rfl
  ·have h0:ts=[]:=by simpa [zC] using ho
   subst h0
   refine yK fun n R N d hn hd hR => ?_
   obtain ⟨n,rfl⟩:∃ m,n=m+1:=⟨n-1,by omega⟩
   show zM (n+1+1) (st (sg [46]::R) N d)=_
   rw [uO]
   simp only [zJ]
   rw [if_pos trivial]
   exact (qBG (x:=⟨1,0,[],d0,[],l⟩))
  ·obtain ⟨t,rfl⟩:=qAX (l:=ts) (by simpa [zC] using ho)
   have e0:(Tr.mk ⟨6,0,[],d0,[],l⟩ [t]).toks=sg [40]::(t.toks++[sg [41],sg [91],sg [93]]):=by simp [Tr.toks,wR,Tr.toksL]
   intro n R N d hn hd hR
   rw [e0] at hn ⊢
   rw [sz1] at hd
   simp only [List.length_cons,List.length_append,List.length_nil] at hn
   have e1:(sg [40]::(t.toks++[sg [41],sg [91],sg [93]]))++R=sg [40]::(t.toks++sg [41]::(sg [91]::sg [93]::R)):=by simp
   obtain ⟨n,rfl⟩:=kH n 3 (by omega)
   rw [e1,qFK (ih t (by simp)) (by omega) (by omega),show n+3-1=(n+1)+1 from rfl,zDV]
   have hq:=qJH (x:=⟨6,0,[],d0,[],l⟩) (t:=t) (N:=N) (R:=R) (d:=d)
   simp only at hq
   rw [hq]
   exact qED (by omega) hR
  ·obtain ⟨t,u,rfl⟩:=qKB (l:=ts) (by simpa [zC] using ho)
   have e0:(Tr.mk ⟨7,0,[],d0,[],l⟩ [t,u]).toks=sg [40]::(t.toks++sg [124]::(u.toks++[sg [41]])):=by simp [Tr.toks,wR,Tr.toksL]
   refine yK fun n R N d hn hd hR => ?_
   rw [e0] at hn ⊢
   rw [sz2] at hd
   simp only [List.length_cons,List.length_append,List.length_nil] at hn
   have e1:(sg [40]::(t.toks++sg [124]::(u.toks++[sg [41]])))++R=sg [40]::(t.toks++(sg [124]::(u.toks++(sg [41]::R)))):=by simp
   rw [e1]
   obtain ⟨n,rfl⟩:=kH n 4 (by omega)
   rw [show n+4+1=(n+1)+4 from rfl]
   have hs:=Tr.size_pos t
   refine qDE (by omega) ?_
   have hb:=vY (ih t (by simp)) 6 0 n (sg [124]::(u.toks++(sg [41]::R))) N (d+1) rfl (by omega) (by omega) (xY (by decide)) (fun j _ hj=>by
    have h9:∀ j:Fin 6,wH (lvK j.val) (zI j.val) (sg [124])=false:=by decide
    exact xY (h9 ⟨j,by omega⟩))
   simp only [zF]
   rw [hb]
   simp only
   rw [jF (by decide) (by decide)]
   simp only [if_true]
   rw [qKI (ih u (by simp)) (by omega) (by omega) (vB (by decide) R)]
   exact (zDT (x:=⟨7,0,[],d0,[],l⟩) (t:=t) (u:=u))
  ·obtain ⟨t,u,rfl⟩:=qKB (l:=ts) (by simpa [zC] using ho)
   have e0:(Tr.mk ⟨8,0,[],d0,[],l⟩ [t,u]).toks=sg [40]::(t.toks++sg [44]::(u.toks++[sg [41]])):=by simp [Tr.toks,wR,Tr.toksL]
   refine yK fun n R N d hn hd hR => ?_
   rw [e0] at hn ⊢
   rw [sz2] at hd
   simp only [List.length_cons,List.length_append,List.length_nil] at hn
   have e1:(sg [40]::(t.toks++sg [44]::(u.toks++[sg [41]])))++R=sg [40]::(t.toks++sg [44]::(u.toks++sg [41]::R)):=by simp
   rw [e1]
   exact qOY (ih t (by simp)) (ih u (by simp)) (i:=0) (by omega) (by decide) (by decide) (fun j h1 h2=>by
    have h9:∀ j:Fin 6,0<j.val→wH (lvK j.val) (zI j.val) (sg [44])=false:=by decide
    exact h9 ⟨j,by omega⟩ h1) (by decide) rfl (by omega) (by omega)
  ·have h0:ts.length≤1:=by simpa [zC] using ho
   refine yK fun n R N d hn hd hR => ?_
   match ts,h0 with
   | [],_ =>
    obtain ⟨n,rfl⟩:∃ m,n=m+1:=⟨n-1,by omega⟩
    show zM (n+1+1) (st (sg [91]::sg [93]::R) N d)=_
    rw [uO]
    simp only [zJ]
    rw [if_neg (by decide),if_neg (by decide),if_neg (by decide),if_pos trivial,jF (by decide) (by decide)]
    exact (qBG (x:=⟨9,0,[],d0,[],l⟩))
   | [t],_ =>
    have e0:(Tr.mk ⟨9,0,[],d0,[],l⟩ [t]).toks=sg [91]::(t.toks++[sg [93]]):=by simp [Tr.toks,wR,Tr.toksL]
    rw [e0] at hn ⊢
    rw [sz1] at hd
    simp only [List.length_cons,List.length_append,List.length_nil] at hn
    have e1:(sg [91]::(t.toks++[sg [93]]))++R=sg [91]::(t.toks++sg [93]::R):=by simp
    obtain ⟨n,rfl⟩:∃ m,n=m+1:=⟨n-1,by omega⟩
    rw [e1,uO]
    simp only [zJ]
    obtain ⟨v,L,e2,e3⟩:=hhd t (by simp)
    have hmiss:∀ w,(t.toks++sg [93]::R).head?=some w→wH 6 [[93]] w=false:=by rw [e2]; exact xY e3
    rw [if_neg (by decide),if_neg (by decide),if_neg (by decide),if_pos trivial,jH hmiss]
    simp only [Bool.false_eq_true,if_false]
    rw [qBT (ih t (by simp)) (by decide) (by omega) (by omega)]
    exact (qJH (x:=⟨9,0,[],d0,[],l⟩) (t:=t))
  ·obtain ⟨t,u,v,rfl⟩:=zBF (l:=ts) (by simpa [zC] using ho)
   have e0:(Tr.mk ⟨12,0,[],d0,[],l⟩ [t,u,v]).toks=sg [40]::wd [105,102]::(t.toks++wd [116,104,101,110]::(u.toks++wd [101,108,115,101]::(v.toks++[wd [101,110,100],sg [41]]))):=by simp [Tr.toks,wR,Tr.toksL]
   refine yK fun n R N d hn hd hR => ?_
   rw [e0] at hn ⊢
   rw [sz3] at hd
   simp only [List.length_cons,List.length_append,List.length_nil] at hn
   have e1:(sg [40]::wd [105,102]::(t.toks++wd [116,104,101,110]::(u.toks++wd [101,108,115,101]::(v.toks++[wd [101,110,100],sg [41]]))))++R=sg [40]::(wd [105,102]::(t.toks++wd [116,104,101,110]::(u.toks++wd [101,108,115,101]::(v.toks++wd [101,110,100]::(sg [41]::R))))):=by simp
   rw [e1]
   obtain ⟨n,rfl⟩:=kH n 15 (by omega)
   rw [show n+15+1=(n+3)+13 from rfl]
   refine qFJ (by omega) (by omega) ?_
   rw [show n+3=(n+2)+1 from rfl,kF]
   simp only [zS]
   rw [if_neg (by decide),if_neg (by decide),if_neg (by decide),if_neg (by decide),if_pos trivial]
   simp only [wB]
   rw [show ({ st (t.toks++wd [116,104,101,110]::(u.toks++wd [101,108,115,101]::(v.toks++wd [101,110,100]::(sg [41]::R)))) N (d+1) with deep:=(st (t.toks++wd [116,104,101,110]::(u.toks++wd [101,108,115,101]::(v.toks++wd [101,110,100]::(sg [41]::R)))) N (d+1)).deep+1 }:PS)=st (t.toks++wd [116,104,101,110]::(u.toks++wd [101,108,115,101]::(v.toks++wd [101,110,100]::(sg [41]::R)))) N (d+1+1) from rfl]
   rw [qBS (ih t (by simp)) (by omega) (by omega) (by omega) (vB (by decide) _)]
   simp only
   rw [yJ (by decide) (by decide),qBS (ih u (by simp)) (by omega) (by omega) (by omega) (vB (by decide) _)]
   simp only
   rw [yJ (by decide) (by decide),qBS (ih v (by simp)) (by omega) (by omega) (by omega) (vB (by decide) _)]
   simp only
   rw [yJ (by decide) (by decide)]
   have hdn:∀ R M,yN 1 (st R M (d+1+1))=st R M (d+1):=fun R M=>by simp [yN,st]
   rw [hdn]
   exact (zJT (x:=⟨12,0,[],d0,[],l⟩) (t:=t) (u:=u) (v:=v))
  ·obtain ⟨t,rfl⟩:=qAX (l:=ts) (by simpa [zC] using ho)
   have e0:(Tr.mk ⟨13,0,[],d0,[],l⟩ [t]).toks=sg [40]::wd [116,114,121]::(t.toks++[sg [41]]):=by simp [Tr.toks,wR,Tr.toksL]
   refine yK fun n R N d hn hd hR => ?_
   rw [e0] at hn ⊢
   rw [sz1] at hd
   simp only [List.length_cons,List.length_append,List.length_nil] at hn
   have e1:(sg [40]::wd [116,114,121]::(t.toks++[sg [41]]))++R=sg [40]::(wd [116,114,121]::(t.toks++sg [41]::R)):=by simp
   rw [e1]
   obtain ⟨n,rfl⟩:=kH n 15 (by omega)
   rw [show n+15+1=(n+3)+13 from rfl]
   refine qFJ (by omega) (by omega) ?_
   rw [show n+3=(n+2)+1 from rfl,kF]
   simp only [zS]
   rw [if_neg (by decide),if_neg (by decide),if_neg (by decide),if_neg (by decide),if_neg (by decide),if_pos trivial]
   rw [ih t (by simp) (n+1) _ N (d+1) (by omega) (by omega) (xY (by decide))]
   exact (qJH (x:=⟨13,0,[],d0,[],l⟩) (t:=t))
  ·obtain ⟨t,rfl⟩:=qAX (l:=ts) (by simpa [zC] using ho)
   have e0:(Tr.mk ⟨14,0,[],d0,[],l⟩ [t]).toks=wd [115,101,97,108]::sg [40]::(t.toks++[sg [41]]):=by simp [Tr.toks,wR,Tr.toksL]
   refine yK fun n R N d hn hd hR => ?_
   rw [e0] at hn ⊢
   rw [sz1] at hd
   simp only [List.length_cons,List.length_append,List.length_nil] at hn
   have e1:(wd [115,101,97,108]::sg [40]::(t.toks++[sg [41]]))++R=wd [115,101,97,108]::(sg [40]::(t.toks++sg [41]::R)):=by simp
   obtain ⟨n,rfl⟩:∃ m,n=m+1:=⟨n-1,by omega⟩
   rw [e1,kF]
   simp only [zS]
   rw [if_neg (by decide),if_neg (by decide),if_neg (by decide),if_neg (by decide),if_neg (by decide),if_neg (by decide),if_pos trivial]
   rw [qPT (ih t (by simp)) (by omega) (by omega)]
   exact (qJH (x:=⟨14,0,[],d0,[],l⟩) (t:=t))
  ·have h0:ts=[]:=by simpa [zC] using ho
   subst h0
   refine yK fun n R N d hn hd hR => ?_
   obtain ⟨n,rfl⟩:∃ m,n=m+1:=⟨n-1,by omega⟩
   show zM (n+1+1) (st (wd [101,109,112,116,121]::R) N d)=_
   rw [kF]
   simp only [zS]
   rw [if_neg (by decide),if_neg (by decide),if_neg (by decide),if_pos trivial]
   exact (qBG (x:=⟨19,0,[],d0,[],l⟩))
  obtain ⟨t,rfl⟩:=qAX (l:=ts) (by simpa [zC] using ho)
  have e0:(Tr.mk ⟨20,0,[],d0,[],l⟩ [t]).toks=wd [101,114,114,111,114]::sg [40]::(t.toks++[sg [41]]):=by simp [Tr.toks,wR,Tr.toksL]
  refine yK fun n R N d hn hd hR => ?_
  rw [e0] at hn ⊢
  rw [sz1] at hd
  simp only [List.length_cons,List.length_append,List.length_nil] at hn
  have e1:(wd [101,114,114,111,114]::sg [40]::(t.toks++[sg [41]]))++R=wd [101,114,114,111,114]::(sg [40]::(t.toks++sg [41]::R)):=by simp
  obtain ⟨n,rfl⟩:∃ m,n=m+1:=⟨n-1,by omega⟩
  rw [e1,kF]
  simp only [zS]
  rw [if_neg (by decide),if_neg (by decide),if_neg (by decide),if_neg (by decide),if_neg (by decide),if_neg (by decide),if_neg (by decide),if_pos trivial]
  rw [qPT (ih t (by simp)) (by omega) (by omega)]
  exact (qJH (x:=⟨20,0,[],d0,[],l⟩) (t:=t))
end Go.Proofs.YtbhhphabggcacaaGreatDoor
