import Derived.Test.YtcfcfblbpnpclaaGreatDoorSDeskW
namespace Go.Proofs.YtcfcfblbpnpclaaGreatDoor
open Sy Go
set_option maxRecDepth 100000
set_option maxHeartbeats 4000000
set_option linter.unusedSimpArgs false
set_option linter.unusedVariables false
variable {G:qK}
def m30 (n:Int):Int:=(((n % 18446744073709551616).toNat &&& 1073741823:Nat):Int)
theorem qAN (n:Int):0≤m30 n∧m30 n≤1073741823:=by
 unfold m30
 have:=Nat.and_le_right (n:=(n % 18446744073709551616).toNat) (m:=1073741823)
 omega
theorem qAM (n:Int):IntKind.i64.wrap (((n % 2 ^ IntKind.i64.bits).toNat &&& 1073741823 % 2 ^ IntKind.i64.bits:Nat):Int)=m30 n:=by
 have h:(2:Int) ^ IntKind.i64.bits=18446744073709551616:=by decide
 rw [h]
 have e:(1073741823:Nat) % 2 ^ IntKind.i64.bits=1073741823:=by decide
 rw [e]
 have:=qAN n
 unfold m30 at this ⊢
 exact uM .i64 _ (by simp only [wE]; omega) (by simp only [wF]; omega)
def kA (o:Outc):Outc:={ qKP o with docs:=m30 o.docs,outs:=m30 o.outs,charge:=m30 o.charge }
theorem qHE (o:Outc):qBL (kA o):=⟨qAN _,qAN _,qAN _,by show (o.out.take 600).length≤_; rw [List.length_take]; omega,by show (o.log.take 600).length≤_; rw [List.length_take]; omega⟩
theorem qEH (o:Outc):(kA o).enc = .agg [.int .i64 o.code,.int .i64 (m30 o.docs),.int .i64 (m30 o.outs),.int .i64 (m30 o.charge),.sl 1 (List.take 70 (o.errs.map inD)),.sl 1 (List.take 600 (o.out.map byD)),.sl 1 (List.take 600 (o.log.map byD))]:=by rw [← List.map_take,← List.map_take,← List.map_take]; rfl
def qBF (l:List Outc) (k:Nat):List PD:=((l.take k).map kA).map Outc.enc
def qDX (l:List Outc) (k:Nat):List PD:=((l.take k).map kA).reverse.map Outc.enc
def vM (l:List Outc) (k:Nat):Int:=kH (((l.take k).map kA).map fun o=>jL o 0)
@[simp] theorem qMJ (l:List Outc):qBF l 0=[]:=rfl
@[simp] theorem qME (l:List Outc):qDX l 0=[]:=rfl
@[simp] theorem qMB (l:List Outc):vM l 0=0:=rfl
theorem qEG (l:List Outc) (k:Nat):(qBF l k).length≤k:=by unfold qBF; simp; omega
theorem qHV (l:List Outc) (k:Nat):(qDX l k).length≤k:=by unfold qDX; simp; omega
theorem qHF {l:List Outc} {k:Nat} {o:Outc} (h:l[k]?=some o):qBF l (k+1)=qBF l k++[.agg [.int .i64 o.code,.int .i64 (m30 o.docs),.int .i64 (m30 o.outs),.int .i64 (m30 o.charge),.sl 1 (List.take 70 (o.errs.map inD)),.sl 1 (List.take 600 (o.out.map byD)),.sl 1 (List.take 600 (o.log.map byD))]]:=by
 unfold qBF; rw [List.take_add_one,h,Option.toList_some,List.map_append,List.map_append,← qEH]; rfl
theorem qGU {l:List Outc} {k:Nat} {o:Outc} (h:l[k]?=some o):qDX l (k+1) = .agg [.int .i64 o.code,.int .i64 (m30 o.docs),.int .i64 (m30 o.outs),.int .i64 (m30 o.charge),.sl 1 (List.take 70 (o.errs.map inD)),.sl 1 (List.take 600 (o.out.map byD)),.sl 1 (List.take 600 (o.log.map byD))]::qDX l k:=by
 unfold qDX; rw [List.take_add_one,h,Option.toList_some,List.map_append,List.reverse_append,List.map_append,← qEH]; rfl
theorem qGP {l:List Outc} {k:Nat} {o:Outc} (h:l[k]?=some o):vM l (k+1)=vM l k+m30 o.docs:=by
 unfold vM; rw [List.take_add_one,h,Option.toList_some,List.map_append,List.map_append,List.map_cons,List.map_nil,List.map_cons,List.map_nil,vN]; rfl
theorem qBT (l:List Outc) (hP:PWd G):AFn Tryz.prog G 4 [.sl 7 (l.map Outc.enc)] (.bool true):=by
 refine AFn.introU tok Tryz.func4 (by kernel_rfl) rfl rfl ?_
 simp only [Tryz.f4,qV,List.map_cons,List.map_nil]
 have hsh:=qEX (G:=G) hP
 have hfw:=fun o=>qIO (G:=G) o
 have hcd:∀ k,k≤20→AFn Tryz.prog G 10 [.sl 7 (qBF l k)] (.sl 3 ((wZ ((l.take k).map kA)).map qP)):=fun k (h:k≤20)=>qCN (G:=G) ((l.take k).map kA) (by simp; omega)
 have hcr:∀ k,k≤20→AFn Tryz.prog G 10 [.sl 7 (qDX l k)] (.sl 3 ((wZ ((l.take k).map kA).reverse).map qP)):=fun k (h:k≤20)=>qCN (G:=G) ((l.take k).map kA).reverse (by simp; omega)
 have hsmall:∀ k, ∀ o∈(l.take k).map kA,qBL o:=fun k o ho=>by obtain ⟨x,_,rfl⟩:=List.mem_map.1 ho; exact qHE x
 have hcv:=fun k (h:k≤20)=>qHG (hsmall k) (by simp; omega)
 have hsm:=fun a (h:a.length≤1000)=>qGS (G:=G) a h
 refine rgn [] [[0]] ?_
 refine op1 tok ?_
 refine qA (rgn [.nilp,.bool true] [[],[0,3]] ?_)
 iterate 2 refine oq1 tok hsh ?_
 refine qA (rgn [] [[],[0,3,4]] ?_)
 iterate 2 refine op1 tok ?_
 refine qA (rgn [] [[],[0,3,4,5]] ?_)
 iterate 2 refine op1 tok ?_
 refine qA (rgn [] [[]] ?_)
 refine op1 tok ?_
 refine qA (AW.seq (rgn [] [[]] ?_))
 refine op1 tok ?_
 refine qA (AW.block ?_)
 refine AW.renE 14 101 (by simp) (by conv=>lhs; simp) ?_
 refine AW.loop (α:=Nat) (fun k=>k≤l.length∧k≤20) (fun k=>⟨zA 100 [(0,.p (.sl 7 (l.map Outc.enc))),(3,.p (.bool true)),(4,.ms 13),(5,.ms 101),(6,.p (.int .i64 (vM l k))),(7,.p (.int .i64 k))],[],[(13,.row 28 7 (qBF l k)),(101,.row 28 7 (qDX l k))],0⟩) (fun k=>l.length-k) (0) ⟨Nat.zero_le _,by omega⟩ ⟨qM (by simp),rfl,by simp,by simp⟩ ?_
 rintro k ⟨hk1,hk2⟩
 refine AW.seq (rgn [] [[],[],[],[],[0,3,4,5,6,7,19],[],[],[0,3,4,5,6,7,22]] ?_)
 iterate 5 refine op1 tok ?_
 iterate 2 refine op2 tok ?_
 refine op1 tok ?_
 refine qA (cnd ?_ ?_)
 ·intro h22
  try simp at h22
  have hkl:k<l.length:=by first | omega | (simp at h22; omega)
  have hk20:k<20:=by first | omega | (simp at h22; omega)
  obtain ⟨o,hx⟩:∃ o,l[k]?=some o:=⟨l[k],by simp [hkl]⟩
  have hgo:(l.map Outc.enc)[k]?=some o.enc:=by rw [List.getElem?_map,hx]; rfl
  have hfo:=hfw o
  have htk:=qHF hx
  have htr:=qGU hx
  have hts:=qGP hx
  have hrl:=qEG l k
  have hrl2:=qHV l k
  obtain ⟨g1,g2,_⟩:=uN (l:=((l.take k).map kA).map fun o=>jL o 0) (fun n hn=>by obtain ⟨x,hx,rfl⟩:=List.mem_map.1 hn; exact (hsmall k x hx).num 0)
  have g3:(((l.take k).map kA).map fun o=>jL o 0).length≤20:=by simp; omega
  have hm:=qAN o.docs
  rw [qIN] at hfo
  rw [Outc.enc_def] at hgo hfo
  simp only [List.map_take] at hfo
  have g4:0≤vM l k∧vM l k≤1073741823 * 20:=by unfold vM; exact ⟨g1,by omega⟩
  refine AW.skip (AW.seq (AW.block (rgn [.agg [.int .i64 o.code,.int .i64 o.docs,.int .i64 o.outs,.int .i64 o.charge,.sl 1 (o.errs.map inD),.sl 1 (o.out.map byD),.sl 1 (o.log.map byD)],.nilp,.agg [.int .i64 o.code,.int .i64 o.docs,.int .i64 o.outs,.int .i64 o.charge,.sl 1 (List.take 70 (o.errs.map inD)),.sl 1 (List.take 600 (o.out.map byD)),.sl 1 (List.take 600 (o.log.map byD))]] [[],[],[],[],[0,3,4,5,6,7,29],[],[0,3,4,5,6,7,8]] ?_)))
  iterate 7 refine op1 tok ?_ (hv:=by first | with_reducible exact True.intro | (first | exact hgo | exact ⟨o,hx,Outc.enc_def o⟩ | exact hfo | (simp [hx]; done) | (simp [hx]; omega); done) | omega | simp | (simp +contextual; omega))
  refine qA (rgn [] [[],[],[],[],[0,3,4,5,6,7,8]] ?_)
  iterate 5 refine op1 tok ?_ (h:=by intro C; conv=>lhs; simp [qAM])
  refine qA (rgn [] [[],[],[],[],[0,3,4,5,6,7,8]] ?_)
  iterate 5 refine op1 tok ?_ (h:=by intro C; conv=>lhs; simp [qAM])
  refine qA (rgn [] [[],[],[],[],[0,3,4,5,6,7,8]] ?_)
  iterate 5 refine op1 tok ?_ (h:=by intro C; conv=>lhs; simp [qAM])
  refine qA (rgn [.agg [.int .i64 o.code,.int .i64 (m30 o.docs),.int .i64 (m30 o.outs),.int .i64 (m30 o.charge),.sl 1 (List.take 70 (o.errs.map inD)),.sl 1 (List.take 600 (o.out.map byD)),.sl 1 (List.take 600 (o.log.map byD))]] [[],[],[],[0,3,5,6,7,8,45],[0,3,4,5,6,7,8]] ?_)
  iterate 5 refine op1 tok ?_
  refine qA (rgn [.agg [.int .i64 o.code,.int .i64 (m30 o.docs),.int .i64 (m30 o.outs),.int .i64 (m30 o.charge),.sl 1 (List.take 70 (o.errs.map inD)),.sl 1 (List.take 600 (o.out.map byD)),.sl 1 (List.take 600 (o.log.map byD))]] [[],[],[],[0,3,4,6,7,8,49],[0,3,4,5,6,7,8]] ?_)
  iterate 5 refine op1 tok ?_
  refine qA ?_
  refine AW.renE 101 102 (by simp) (by conv=>lhs; simp) ?_
  refine AW.renE 47 101 (by simp) (by conv=>lhs; simp) ?_
  refine rgz [] [[],[],[],[0,3,4,5,7,53],[0,3,4,5,6,7]] ?_
  iterate 5 refine op1 tok ?_
  refine qA (rgz [] [[],[],[0,3,4,5,6,7]] ?_)
  iterate 3 refine op1 tok ?_
  refine qA ?_
  exact ⟨k+1,⟨by omega,by omega⟩,by omega,qM (by simp [hts,htk,htr]),rfl,by simp [hts,htk,htr],by simp [hts,htk,htr]⟩
 intro h22
 try simp at h22
 have hcd:=hcd k hk2
 have hcr:=hcr k hk2
 rw [hcv k hk2] at hcr
 have hsm:=hsm (wZ ((l.take k).map kA)) (by simp [wZ])
 have hds:=fun j=>xQ j ((l.take k).map kA) (hsmall k) (by simp; omega)
 have hcl:(wZ ((l.take k).map kA)).length=5:=rfl
 have hget:∀ i,i<5→(wZ ((l.take k).map kA))[i]?=some (qH i ((l.take k).map kA)):=fun i hi=>by
  have:i=0∨i=1∨i=2∨i=3∨i=4:=by omega
  rcases this with rfl | rfl | rfl | rfl | rfl <;> rfl
 have hle:∀ j,kT (((l.take k).map kA).map fun o=>jL o j)≤kH (((l.take k).map kA).map fun o=>jL o j):=fun j=>qHP (fun n hn=>by obtain ⟨x,hx,rfl⟩:=List.mem_map.1 hn; exact (hsmall k x hx).num j)
 have hml:(qBF l k).length=((l.take k).map kA).length:=by unfold qBF; rw [List.length_map]
 have hsr:vM l k=kH (((l.take k).map kA).map fun o=>jL o 0):=rfl
 have hml2:=qEG l k
 generalize hO:(l.take k).map kA=O at *
 generalize hC:wZ O=C at *
 refine AW.exit ?_
 simp
 refine AW.freezeE 13 (by conv=>lhs; simp) ?_
 refine rgn [.nilp,.sl 3 (C.map qP)] [[],[],[3,4,5,6,9]] ?_
 iterate 3 refine op1 tok ?_ (hv:=by first | with_reducible exact True.intro | (first | exact hcd | (simp at hcd ⊢; exact hcd); done) | omega | simp | (simp +contextual; omega))
 refine qA ?_
 refine AW.freezeE 101 (by conv=>lhs; simp) ?_
 refine rgn [.nilp,.sl 3 (C.map qP)] [[],[],[3,4,6,9,10]] ?_
 iterate 3 refine op1 tok ?_ (hv:=by first | with_reducible exact True.intro | (first | exact hcr | (simp at hcr ⊢; exact hcr); done) | omega | simp | (simp +contextual; omega))
 refine qA (AW.seq (rgn [] [[],[],[3,4,6,9,10,60]] ?_))
 iterate 3 refine op1 tok ?_ (h:=by intro C; conv=>lhs; simp [hcl])
 refine qA (cnd ?_ ?_)
 ·intro h60
  try simp at h60
 intro h60
 try simp at h60
 refine AW.skip (AW.seq (rgn [] [[]] ?_))
 refine op1 tok ?_
 refine qA (AW.block ?_)
 refine AW.loop (α:=Nat) (fun i=>i≤5) (fun i=>⟨zA 100 [(3,.p (.bool true)),(4,.p (.sl 7 (qBF l k))),(6,.p (.int .i64 (vM l k))),(9,.p (.sl 3 (C.map qP))),(10,.p (.sl 3 (C.map qP))),(11,.p (.int .i64 i))],[],[],0⟩) (fun i=>5-i) (0) (by omega) ⟨qM (by simp),rfl,by simp,by simp⟩ ?_
 rintro i hi
 refine AW.seq (rgn [] [[],[3,4,6,9,10,11,62]] ?_)
 iterate 2 refine op1 tok ?_
 refine qA (cnd ?_ ?_)
 ·intro h62
  try simp at h62
  obtain ⟨X,hX⟩:∃ X,qH i O=X:=⟨_,rfl⟩
  have hgi:=hget i (by omega)
  rw [hX] at hgi
  have hdi:=hds i
  rw [hX] at hdi
  have hlei:=hle i
  have hga:(C.map qP)[i]?=some (.agg [.int .i64 X.1,.int .i64 X.2.1,.int .i64 X.2.2]):=by rw [List.getElem?_map,hgi]; rfl
  have x1:X.1=O.length:=by rw [hdi]
  have x2:X.2.2≤X.2.1:=by rw [hdi]; exact hlei
  refine AW.skip (AW.seq (AW.block ?_))
  refine AW.seqDrawS tok mixed 21 [[9],[11],[65,66],[67],[68],[4],[70],[69,71],[72],[9,73],[11,73],[74,75,73],[76,73],[77,73],[9,73],[11,73],[79,80,73],[81,73],[82,73],[78,83,73],[73,84]] [.agg [.int .i64 X.1,.int .i64 X.2.1,.int .i64 X.2.2],.int .i64 X.1,.agg [.int .i64 X.1,.int .i64 X.2.1,.int .i64 X.2.2],.int .i64 X.2.2,.agg [.int .i64 X.1,.int .i64 X.2.1,.int .i64 X.2.2],.int .i64 X.2.1] [] (by kernel_rfl) ?_
  iterate 9 refine d1 ?_ (h:=by intro C; conv=>lhs; simp [hml]) (hv:=by first | with_reducible exact True.intro | (first | exact ⟨X.1,X.2.1,X.2.2,hgi,rfl⟩ | exact fun g=>⟨g,X.1,X.2.1,X.2.2,hgi,rfl⟩ | exact hga | (intro g; exact hga) | (simp; done) | (simp [hgi]; omega); done) | omega | simp | (simp +contextual; omega))
  iterate 11 refine d2 73 rfl rfl ?_ (h:=by intro C; conv=>lhs; simp [hml]) (hv:=by first | with_reducible exact True.intro | (first | exact ⟨X.1,X.2.1,X.2.2,hgi,rfl⟩ | exact fun g=>⟨g,X.1,X.2.1,X.2.2,hgi,rfl⟩ | exact hga | (intro g; exact hga) | (simp; done) | (simp [hgi]; omega); done) | omega | simp | (simp +contextual; omega))
  refine d1 ?_ (h:=by intro C; conv=>lhs; simp [hml]) (hv:=by first | with_reducible exact True.intro | (first | exact ⟨X.1,X.2.1,X.2.2,hgi,rfl⟩ | exact fun g=>⟨g,X.1,X.2.1,X.2.2,hgi,rfl⟩ | exact hga | (intro g; exact hga) | (simp; done) | (simp [hgi]; omega); done) | omega | simp | (simp +contextual; omega))
  refine DGo.nil (by kernel_rfl) ⟨by kernel_rfl, ?_⟩
  refine qC.nil ?_
  refine cnd ?_ ?_
  ·intro h85
   try simp at h85
   (first | omega | (simp at h85; omega) | grind)
  intro h85
  try simp at h85
  refine AW.skip (rgz [] [[],[],[3,4,6,9,10,11]] ?_)
  iterate 3 refine op1 tok ?_
  refine qA ?_
  exact ⟨i+1,by omega,by omega,qM (by simp),rfl,by simp,by simp⟩
 intro h62
 try simp at h62
 have h0:=hget 0 (by omega)
 have hd0:=hds 0
 rw [hd0] at h0
 obtain ⟨TP,hTP⟩:∃ T,kT (O.map fun o=>jL o 0)=T:=⟨_,rfl⟩
 rw [← hsr,hTP] at h0
 have hg0:(C.map qP)[0]?=some (.agg [.int .i64 O.length,.int .i64 (vM l k),.int .i64 TP]):=by rw [List.getElem?_map,h0]; rfl
 refine AW.exit ?_
 simp
 refine rgn [.nilp,.bool true,.agg [.int .i64 O.length,.int .i64 (vM l k),.int .i64 TP],.int .i64 (vM l k)] [[],[],[],[],[6,9,87,90],[],[],[6,92,93],[],[],[],[92,96,97],[],[99],[2]] ?_
 iterate 15 first | refine op1 tok ?_ (hv:=by first | with_reducible exact True.intro | (first | exact hsm | exact ⟨_,_,_,h0,rfl⟩ | (intro g; exact ⟨_,_,_,h0,rfl⟩) | exact hg0 | (intro g; first | exact hsm | exact hg0) | (simp; done); done) | omega | simp | (simp +contextual; omega)) | refine op2 tok ?_ (hv:=by first | with_reducible exact True.intro | (first | exact hsm | exact ⟨_,_,_,h0,rfl⟩ | (intro g; exact ⟨_,_,_,h0,rfl⟩) | exact hg0 | (intro g; first | exact hsm | exact hg0) | (simp; done); done) | omega | simp | (simp +contextual; omega))
 exact qA (AW.ret xP)
end Go.Proofs.YtcfcfblbpnpclaaGreatDoor
