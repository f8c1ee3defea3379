import Derived.Test.YtbhhphabggcacaaGreatDoorSBackY
import Derived.Test.YtbhhphabggcacaaGreatDoorSSynFr
namespace Go.Proofs.YtbhhphabggcacaaGreatDoor
open Sy Go
set_option maxRecDepth 100000
set_option maxHeartbeats 2000000
set_option linter.unusedSimpArgs false
set_option linter.unusedVariables false
abbrev st (R:List Tok) (N:List Nd) (d:Int):PS:=⟨R,N,d,false⟩
theorem vT {f:Tok→Bool} {u:Tok} {R:List Tok} {N:List Nd} {d:Int} (hk:u.kind≠0) (hf:f u=true):qP f (st (u::R) N d)=((u,true),st R N d):=by
 simp [qP,wZ,st,hk,hf]
theorem qEH {f:Tok→Bool} {R:List Tok} {N:List Nd} {d:Int} (h:∀ u,R.head?=some u→f u=false):qP f (st R N d)=((qAG,false),st R N d):=by
 cases R with
 | nil=>simp [qP,wZ,st,qAG]
 | cons u R=>simp [qP,wZ,st,h u rfl]
theorem jF {k:Int} {l:List (List UInt8)} {u:Tok} {R:List Tok} {N:List Nd} {d:Int} (hk:u.kind≠0) (h:wH k l u=true):qT k l (st (u::R) N d)=((u.text,true),st R N d):=by
 unfold qT; rw [vT hk h]
theorem jH {k:Int} {l:List (List UInt8)} {R:List Tok} {N:List Nd} {d:Int} (h:∀ u,R.head?=some u→wH k l u=false):qT k l (st R N d)=(([],false),st R N d):=by
 unfold qT; rw [qEH h]; rfl
theorem yJ {k:Int} {w:List UInt8} {u:Tok} {R:List Tok} {N:List Nd} {d:Int} (hk:u.kind≠0) (h:wH k [w] u=true):zA k w (st (u::R) N d)=st R N d:=by
 unfold zA; rw [jF hk h]; rfl
theorem qBK {ks:List Int} {u:Tok} {R:List Tok} {N:List Nd} {d:Int} (hk:u.kind≠0) (h:u.kind∈ks):zD ks (st (u::R) N d)=(u,st R N d):=by
 unfold zD; rw [vT hk (by simpa using h)]; rfl
theorem qHJ {n:Nat} {R:List Tok} {N:List Nd} {d:Int} (h:n≤999):wY (st (nm ⟨false,Lib.itoa n,0⟩::R) N d)=((n:Int),st R N d):=by
 obtain ⟨-, -, h3,h4⟩:=qEG h
 unfold wY
 rw [qBK (by simp [nm]) (by simp [nm])]
 simp [nm,qK,h3,h4,st]
def rt (N:List Nd) (t:Tr):Int:=((N.length+t.size:Nat):Int)-1
theorem qDF {x:Nd} {ts:List Tr} {N:List Nd} {R:List Tok} {d:Int} (hk:x.kids=Tr.ends N.length ts):wF x (st R (N++Tr.flatL N.length ts) d)=(rt N (.mk x ts),st R (N++(Tr.mk x ts).flat N.length) d):=by
 have e:({ x with kids:=Tr.ends N.length ts }:Nd)=x:=by rw [← hk]
 unfold wF rt
 simp only [Tr.flat,Tr.size,e,List.length_append,Tr.flatL_len,st,List.append_assoc]
 refine Prod.ext ?_ rfl
 simp only; omega
def qCQ (t:Tr):Prop:=∀ (n:Nat) (R:List Tok) (N:List Nd) (d:Int),20 * t.toks.length+3≤n→d+2 * t.size≤60→(∀ u,R.head?=some u→u.kind≠3∧wH 6 [[91]] u=false)→wQ n (st (t.toks++R) N d)=(rt N t,st R (N++t.flat N.length) d)
def zAV (j:Nat) (R:List Tok):Prop:=∀ u,R.head?=some u→wH (lvK j) (zI j) u=false
def qFM (R:List Tok):Prop:=∀ u,R.head?=some u→u.kind≠3∧wH 6 [[91]] u=false
theorem qEQ {n i:Nat} {a:Int} {R:List Tok} {N:List Nd} {d:Int} (hn:1≤n) (h:zAV i R):wO n i a (st R N d)=(a,st R N d):=by
 obtain ⟨n,rfl⟩:∃ k,n=k+1:=⟨n-1,by omega⟩
 simp only [wO]
 rw [if_neg (by simp [st]),jH h]
 simp
theorem vY {t:Tr} (h:qCQ t):∀ (k i n:Nat) (R:List Tok) (N:List Nd) (d:Int),i+k=6→20 * t.toks.length+10≤n+i→d+2 * t.size≤60→qFM R→(∀ j,i≤j→j≤5→zAV j R)→qL n i (st (t.toks++R) N d)=(rt N t,st R (N++t.flat N.length) d)
 | 0,i,n,R,N,d,hk,hn,hd,hp,hl=>by
  obtain ⟨n,rfl⟩:∃ k,n=k+1:=⟨n-1,by omega⟩
  obtain rfl:i=6:=by omega
  simp only [qL,if_true]
  exact h n R N d (by omega) hd hp
 | k+1,i,n,R,N,d,hk,hn,hd,hp,hl=>by
  obtain ⟨n,rfl⟩:∃ k,n=k+1:=⟨n-1,by omega⟩
  simp only [qL]
  rw [if_neg (by omega),vY h k (i+1) n R N d (by omega) (by omega) hd hp (fun j h1 h2=>hl j (by omega) h2)]
  simp only
  exact qEQ (by omega) (hl i (by omega) (by omega))
def qMB (R:List Tok):Prop:=qFM R∧(∀ j,j≤5→zAV j R)∧∀ u,R.head?=some u→wH 6 [[124]] u=false∧wH 1 [[97,115]] u=false
theorem qLX {n:Nat} {s:PS} {a:Int} {R:List Tok} {N:List Nd} {d:Int} (h:qL n 0 s=(a,st R N d)) (hR:∀ u,R.head?=some u→wH 6 [[124]] u=false∧wH 1 [[97,115]] u=false):zF (n+1) s=(a,st R N d):=by
 simp only [zF]
 rw [h]
 simp only
 rw [jH fun u hu=>(hR u hu).1]
 simp only [Bool.false_eq_true,if_false]
 rw [jH fun u hu=>(hR u hu).2]
 simp
theorem qKI {t:Tr} (h:qCQ t) {n:Nat} {R:List Tok} {N:List Nd} {d:Int} (hn:20 * t.toks.length+11≤n) (hd:d+2 * t.size≤60) (hR:qMB R):zF n (st (t.toks++R) N d)=(rt N t,st R (N++t.flat N.length) d):=by
 obtain ⟨n,rfl⟩:∃ k,n=k+1:=⟨n-1,by omega⟩
 exact qLX (vY h 6 0 n R N d rfl (by omega) hd hR.1 fun j _ hj=>hR.2.1 j hj) hR.2.2
def zFI (u:Tok):Bool:=decide (u.kind=6∧u.text∈[[41],[59],[93]]) || decide (u.kind=1∧u.text∈[[116,104,101,110],[101,108,115,101],[101,110,100]])
theorem vB {u:Tok} (h:zFI u=true) (R:List Tok):qMB (u::R):=by
 have hh:∀ v,(u::R).head?=some v→v=u:=fun v hv=>by simpa using hv.symm
 unfold zFI at h
 simp only [Bool.or_eq_true,decide_eq_true_eq] at h
 have h1:∀ w∈[[41],[59],[93]], ∀ j:Fin 6,w ∉ zI j.val:=by decide
 have h2:∀ w∈[[116,104,101,110],[101,108,115,101],[101,110,100]], ∀ j:Fin 6,w ∉ zI j.val:=by decide
 rcases h with ⟨hk,hw⟩ | ⟨hk,hw⟩
 ·refine ⟨fun v hv => ?_,fun j hj v hv => ?_,fun v hv => ?_⟩ <;> obtain rfl:=hh v hv
  ·refine ⟨by rw [hk]; decide, ?_⟩
   unfold wH
   have:v.text ∉ [[91]]:=by revert hw; generalize v.text=w; revert w; decide
   simp [this]
  ·unfold wH
   have:=h1 _ hw ⟨j,by omega⟩
   simp [this]
  unfold wH
  have e1:v.text ∉ [[124]]:=by revert hw; generalize v.text=w; revert w; decide
  simp [e1,hk]
 refine ⟨fun v hv => ?_,fun j hj v hv => ?_,fun v hv => ?_⟩ <;> obtain rfl:=hh v hv
 ·refine ⟨by rw [hk]; decide, ?_⟩
  unfold wH
  simp [hk]
 ·unfold wH
  have:=h2 _ hw ⟨j,by omega⟩
  simp [this]
 unfold wH
 have e1:v.text ∉ [[97,115]]:=by revert hw; generalize v.text=w; revert w; decide
 simp [e1,hk]
theorem qBS {t:Tr} (h:qCQ t) {n:Nat} {b:Int} {R:List Tok} {N:List Nd} {d:Int} (hb:0≤b) (hn:20 * t.toks.length+12≤n) (hd:d+b+2 * t.size≤60) (hR:qMB R):qW n b (st (t.toks++R) N d)=(rt N t,st R (N++t.flat N.length) d):=by
 obtain ⟨n,rfl⟩:∃ k,n=k+1:=⟨n-1,by omega⟩
 have hu:upP b (st (t.toks++R) N d)=st (t.toks++R) N (d+b):=by
  have:1≤t.size:=Tr.size_pos t
  unfold upP qK st
  simp only [Bool.false_or,PS.mk.injEq,true_and]
  rw [decide_eq_true (by omega)]; rfl
 simp only [qW]
 rw [hu,if_neg (by simp [st]),qKI h (by omega) (by omega) hR]
 simp [yN,st]
theorem qBT {t:Tr} (h:qCQ t) {n:Nat} {w:List UInt8} {R:List Tok} {N:List Nd} {d:Int} (hw:w∈[[41],[59],[93]]) (hn:20 * t.toks.length+13≤n) (hd:d+1+2 * t.size≤60):qQ n w (st (t.toks++sg w::R) N d)=(rt N t,st R (N++t.flat N.length) d):=by
 obtain ⟨n,rfl⟩:∃ k,n=k+1:=⟨n-1,by omega⟩
 simp only [qQ]
 rw [qBS h (by omega) (by omega) hd (vB (by simp only [zFI,sg,Bool.or_eq_true,decide_eq_true_eq]; exact .inl ⟨trivial,hw⟩) R)]
 simp only
 rw [yJ (by simp [sg]) (by simp [wH,sg])]
theorem qPT {t:Tr} (h:qCQ t) {n:Nat} {R:List Tok} {N:List Nd} {d:Int} (hn:20 * t.toks.length+14≤n) (hd:d+1+2 * t.size≤60):zB n (st (sg [40]::(t.toks++sg [41]::R)) N d)=(rt N t,st R (N++t.flat N.length) d):=by
 obtain ⟨n,rfl⟩:∃ k,n=k+1:=⟨n-1,by omega⟩
 simp only [zB]
 rw [yJ (by simp [sg]) (by simp [wH,sg]),qBT h (by decide) (by omega) hd]
theorem qED {n:Nat} {a:Int} {R:List Tok} {N:List Nd} {d:Int} (hn:1≤n) (h:qFM R):zW n a (st R N d)=(a,st R N d):=by
 obtain ⟨n,rfl⟩:∃ k,n=k+1:=⟨n-1,by omega⟩
 simp only [zW]
 rw [if_neg (by simp [st]),qEH fun u hu=>by simp [(h u hu).1]]
 simp only [Bool.false_eq_true,if_false]
 rw [jH fun u hu=>(h u hu).2]
 simp
theorem qPD {n:Nat} {s:PS} {a:Int} {R:List Tok} {N:List Nd} {d:Int} (hn:1≤n) (h:zM n s=(a,st R N d)) (hR:qFM R):wQ (n+1) s=(a,st R N d):=by
 simp only [wQ]
 rw [h]
 exact qED hn hR
theorem uO {n:Nat} {w:List UInt8} {R:List Tok} {N:List Nd} {d:Int}:zM (n+1) (st (sg w::R) N d)=zJ n w (st R N d):=by
 simp only [zM]
 rw [vT (by simp [sg]) rfl]
 simp [sg,qK,st]
theorem kF {n:Nat} {w:List UInt8} {R:List Tok} {N:List Nd} {d:Int}:zM (n+1) (st (wd w::R) N d)=zS n w (st R N d):=by
 simp only [zM]
 rw [vT (by simp [wd]) rfl]
 simp [wd,qK,st]
theorem qKZ {n:Nat} {R:List Tok} {N:List Nd} {d:Int}:zM (n+2) (st (sg [40]::R) N d)=qQ n [41] (st R N d):=by
 rw [uO]
 simp only [zJ]
 rw [if_neg (by decide),if_neg (by decide),if_pos trivial]
theorem qDE {n:Nat} {a:Int} {L R:List Tok} {N M:List Nd} {d:Int} (hd:d+1≤60) (h:zF n (st L N (d+1))=(a,st (sg [41]::R) M (d+1))):zM (n+4) (st (sg [40]::L) N d)=(a,st R M d):=by
 rw [show n+4=(n+2)+2 from rfl,qKZ]
 have hu:upP 1 (st L N d)=st L N (d+1):=by
  unfold upP qK st
  simp only [Bool.false_or,PS.mk.injEq,true_and]
  rw [decide_eq_true (by omega)]; rfl
 simp only [qQ,qW]
 rw [hu,if_neg (by simp [st]),h]
 simp only
 have e:yN 1 (st (sg [41]::R) M (d+1))=st (sg [41]::R) M d:=by simp [yN,st]
 rw [e,yJ (by simp [sg]) (by simp [wH,sg])]
theorem kH (n c:Nat) (h:c≤n):∃ m,n=m+c:=⟨n-c,by omega⟩
theorem zNR (N:List Nd) (t u:Tr):N++t.flat N.length++u.flat (N++t.flat N.length).length=N++Tr.flatL N.length [t,u]:=by
 simp [Tr.flatL,Tr.flat_len]
theorem zNX (N:List Nd) (t u:Tr):[rt N t,rt (N++t.flat N.length) u]=Tr.ends N.length [t,u]:=by
 simp [Tr.ends,rt,Tr.flat_len]
theorem zNQ (N:List Nd) (t u v:Tr):N++t.flat N.length++u.flat (N++t.flat N.length).length++v.flat (N++t.flat N.length++u.flat (N++t.flat N.length).length).length=N++Tr.flatL N.length [t,u,v]:=by
 simp [Tr.flatL,Tr.flat_len,Nat.add_assoc]
theorem zNW (N:List Nd) (t u v:Tr):[rt N t,rt (N++t.flat N.length) u,rt (N++t.flat N.length++u.flat (N++t.flat N.length).length) v]=Tr.ends N.length [t,u,v]:=by
 simp [Tr.ends,rt,Tr.flat_len,Nat.add_assoc]
theorem zNS (N:List Nd) (t:Tr):N++t.flat N.length=N++Tr.flatL N.length [t]:=by simp [Tr.flatL]
theorem zNY (N:List Nd) (t:Tr):[rt N t]=Tr.ends N.length [t]:=by simp [Tr.ends,rt]
theorem put0 {x:Nd} {N:List Nd} {R:List Tok} {d:Int} (hk:x.kids=[]):wF x (st R N d)=(rt N (.mk x []),st R (N++(Tr.mk x []).flat N.length) d):=by
 have:=qDF (x:=x) (ts:=[]) (N:=N) (R:=R) (d:=d) (by simpa [Tr.ends] using hk)
 simpa [Tr.flatL] using this
theorem zPS {x:Nd} {t:Tr} {N:List Nd} {R:List Tok} {d:Int}:wF { x with kids:=[rt N t] } (st R (N++t.flat N.length) d)=(rt N (.mk { x with kids:=[rt N t] } [t]),st R (N++(Tr.mk { x with kids:=[rt N t] } [t]).flat N.length) d):=by
 rw [zNS]; exact qDF (zNY N t)
theorem zPR {x:Nd} {t u:Tr} {N:List Nd} {R:List Tok} {d:Int}:wF { x with kids:=[rt N t,rt (N++t.flat N.length) u] } (st R (N++t.flat N.length++u.flat (N++t.flat N.length).length) d)=(rt N (.mk { x with kids:=[rt N t,rt (N++t.flat N.length) u] } [t,u]),st R (N++(Tr.mk { x with kids:=[rt N t,rt (N++t.flat N.length) u] } [t,u]).flat N.length) d):=by
 rw [zNR]; exact qDF (zNX N t u)
theorem zPQ {x:Nd} {t u v:Tr} {N:List Nd} {R:List Tok} {d:Int}:wF { x with kids:=[rt N t,rt (N++t.flat N.length) u,rt (N++t.flat N.length++u.flat (N++t.flat N.length).length) v] } (st R (N++t.flat N.length++u.flat (N++t.flat N.length).length++v.flat (N++t.flat N.length++u.flat (N++t.flat N.length).length).length) d)=(rt N (.mk { x with kids:=[rt N t,rt (N++t.flat N.length) u,rt (N++t.flat N.length++u.flat (N++t.flat N.length).length) v] } [t,u,v]),st R (N++(Tr.mk { x with kids:=[rt N t,rt (N++t.flat N.length) u,rt (N++t.flat N.length++u.flat (N++t.flat N.length).length) v] } [t,u,v]).flat N.length) d):=by
 rw [zNQ]; exact qDF (zNW N t u v)
theorem qBO (x:Nd) (l:List Int) (ts:List Tr) (b:Nat):(Tr.mk { x with kids:=l } ts).flat b=(Tr.mk x ts).flat b:=by simp [Tr.flat]
theorem qGR (x:Nd) (l:List Int) (ts:List Tr) (N:List Nd):rt N (Tr.mk { x with kids:=l } ts)=rt N (Tr.mk x ts):=by simp [rt,Tr.size]
end Go.Proofs.YtbhhphabggcacaaGreatDoor
