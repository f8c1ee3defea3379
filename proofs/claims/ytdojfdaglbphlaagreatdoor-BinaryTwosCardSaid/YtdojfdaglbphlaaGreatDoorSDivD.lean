import Derived.Test.YtdojfdaglbphlaaGreatDoorSDivB
namespace Go.Proofs.YtdojfdaglbphlaaGreatDoor
open Sy Go
set_option maxRecDepth 100000
set_option maxHeartbeats 4000000
set_option linter.unusedSimpArgs false
set_option linter.unusedVariables false
variable {G:qR}
def kJ (c:UInt8) (s:List UInt8):List UInt8:=(s.reverse.dropWhile fun b=>b == c).reverse
theorem qYD (c:UInt8) (s:List UInt8):kJ c (s++[c])=kJ c s:=by simp [kJ]
theorem qYC {c b:UInt8} (s:List UInt8) (h:b≠c):kJ c (s++[b])=s++[b]:=by simp [kJ,h]
theorem qYB {s:List UInt8} (h:s.all qH=true):((kJ 48 s).dropWhile (fun b=>b == 48)=[])↔qE s=0:=by
 have h1:∀ t:List UInt8,t.dropWhile (fun b=>b == 48)=[]↔∀ b∈t,b=48:=fun t=>by
  induction t with
  | nil=>simp
  | cons b t ih =>
   rw [List.dropWhile_cons]
   by_cases hb:b=48
   ·subst hb; simpa using ih
   simp [hb]
 rw [h1]
 have h2:(∀ b∈kJ 48 s,b=48)↔∀ b∈s,b=48:=by
  constructor
  ·intro h b hb
   unfold kJ at h
   have hb':b∈s.reverse:=List.mem_reverse.2 hb
   rw [← List.takeWhile_append_dropWhile (p:=fun b=>b == 48) (l:=s.reverse)] at hb'
   rcases List.mem_append.1 hb' with e | e
   ·have:=List.all_eq_true.1 (List.all_takeWhile (p:=fun b:UInt8=>b == 48) (l:=s.reverse)) b e; simpa using this
   exact h b (List.mem_reverse.2 e)
  intro h b hb
  unfold kJ at hb
  exact h b (List.mem_reverse.1 ((List.dropWhile_sublist _).subset (List.mem_reverse.1 hb)))
 rw [h2]
 constructor
 ·intro h
  have:s=List.replicate s.length 48:=List.eq_replicate_iff.2 ⟨rfl,h⟩
  rw [this,jL]
 intro hv b hb
 have e:qQ s=[]:=by
  cases hs:qQ s with
  | nil=>rfl
  | cons b r =>
   have:=uN (jT h) (by rw [hs]; simp) (uE s (by rw [hs]; simp))
   rw [vE,hv] at this
   have:=Nat.pow_pos (n:=(qQ s).length-1) (show 0<10 by decide)
   omega
 exact (h1 s).1 e b hb
theorem qJZ (s:List UInt8) (c:UInt8):AFn Tryz.prog G 195 [.str s,.int .u8 c.toNat] (.str (kJ c s)):=by
 refine AFn.introU tok Tryz.func195 (by kernel_rfl) rfl rfl ?_
 simp only [Tryz.f195,qI,List.map_cons,List.map_nil]
 refine rgn [] [[0,1]] ?_
 refine op1 tok ?_
 refine qA (AW.seq (AW.block ?_))
 refine AW.loop (α:=List UInt8) (fun r=>kJ c r=kJ c s) (fun r=>⟨qV 23 [(0,.p (.str r)),(1,.p (.int .u8 c.toNat))],[],[],0⟩) (fun r=>r.length) (s) rfl ⟨qB (by simp),rfl,by simp,by simp⟩ ?_
 rintro r hr
 have hix:0<r.length→r[r.length-1]?=some (r.getD (r.length-1) 0):=fun h=>qPO (by omega)
 have hnx:((r.length:Int)-1).toNat=r.length-1:=by omega
 refine AW.strFactU (i:=0) rfl (by decide) ?_
 intro hrl
 refine AW.seq (rgn [.int .u8 (r.getD (r.length-1) 0).toNat] [[],[],[],[],[],[],[0,1,8,9,11],[],[],[],[0,1,8,15],[0,1,16]] ?_)
 iterate 4 refine op1 tok ?_ (hv:=by first | with_reducible exact True.intro | (first | (exact fun h=>⟨h,by omega,_,hix h,by simp⟩) | (intro h; omega); done) | omega | simp | (simp +contextual; omega))
 iterate 7 refine op2 tok ?_ (hv:=by first | with_reducible exact True.intro | (first | (exact fun h=>⟨h,by omega,_,hix h,by simp⟩) | (intro h; omega); done) | omega | simp | (simp +contextual; omega))
 refine op1 tok ?_ (hv:=by first | with_reducible exact True.intro | (first | (exact fun h=>⟨h,by omega,_,hix h,by simp⟩) | (intro h; omega); done) | omega | simp | (simp +contextual; omega))
 refine qA (cnd ?_ ?_)
 ·intro h16
  try simp at h16
  have hr0:0<r.length:=by have:=h16.1; omega
  obtain ⟨r',b,rfl⟩:∃ r' b,r=r'++[b]:=⟨r.dropLast,r.getLast (List.length_pos_iff.1 hr0),(List.dropLast_concat_getLast (List.length_pos_iff.1 hr0)).symm⟩
  have hb:b=c:=UInt8.toNat_inj.1 (by have:=h16.2; simp at this; omega)
  subst hb
  have hr2:kJ b r'=kJ b s:=by rw [← hr,qYD]
  have hn2:(((r'++[b]).length:Int)-1).toNat=r'.length:=by simp
  have htk:(r'++[b]).take r'.length=r':=by simp
  refine AW.skip (AW.block (rgz [] [[],[],[],[],[1,21],[0,1]] ?_))
  iterate 6 refine op1 tok ?_ (hv:=by first | with_reducible exact True.intro | (first | (simp; done) | (simp; omega); done) | omega | simp | (simp +contextual; omega))
  refine qA ?_
  exact ⟨r',hr2,by simp,qB (by simp [htk,hn2]),rfl,by simp [htk,hn2],by simp [htk,hn2]⟩
 intro h16
 try simp at h16
 have hr3:kJ c s=r:=by
  rw [← hr]
  rcases Nat.eq_zero_or_pos r.length with h0 | h0
  ·rw [List.length_eq_zero_iff.1 h0]; rfl
  obtain ⟨r',b,rfl⟩:∃ r' b,r=r'++[b]:=⟨r.dropLast,r.getLast (List.length_pos_iff.1 h0),(List.dropLast_concat_getLast (List.length_pos_iff.1 h0)).symm⟩
  have hb:b≠c:=by rintro rfl; simp at h16
  exact qYC r' hb
 rw [hr3]
 refine AW.exit ?_
 simp
 refine rgn [] [[],[4]] ?_
 iterate 2 refine op1 tok ?_
 exact qA (AW.ret qG)
theorem zPB (s:List UInt8) (c:UInt8) (hc:c.toNat<128):AFn Tryz.prog G 150 [.str s,.str [c]] (.str ((kJ c s).dropWhile (fun b=>b == c))):=by
 refine AFn.introU tok Tryz.func150 (by kernel_rfl) rfl rfl ?_
 simp only [Tryz.f150,qI,List.map_cons,List.map_nil]
 have h1:=qJZ (G:=G) s c
 have h2:=qER (G:=G) (kJ c s) c
 refine rgn [] [[0,1]] ?_
 refine op1 tok ?_
 refine qA (AW.seq (rgn [] [[],[],[],[],[],[0,1,12]] ?_))
 iterate 3 refine op1 tok ?_
 iterate 2 refine op2 tok ?_
 refine op1 tok ?_
 refine qA (cnd ?_ ?_)
 ·intro h12
  try simp at h12
  subst h12
  have hnil:((kJ c []).dropWhile (fun b=>b == c))=[]:=rfl
  refine rgn [] [[],[4]] ?_
  iterate 2 refine op1 tok ?_
  refine qA ?_
  exact AW.ret (qG (k:=by simp [hnil]))
 intro h12
 try simp at h12
 refine AW.skip (AW.seq (rgn [.int .u8 c.toNat] [[],[],[],[],[],[0,1,17,19],[],[0,1,21]] ?_))
 iterate 4 refine op1 tok ?_ (hv:=by first | with_reducible exact True.intro | (simp; done) | omega | simp | (simp +contextual; omega))
 iterate 3 refine op2 tok ?_ (hv:=by first | with_reducible exact True.intro | (simp; done) | omega | simp | (simp +contextual; omega))
 refine op1 tok ?_ (hv:=by first | with_reducible exact True.intro | (simp; done) | omega | simp | (simp +contextual; omega))
 refine qA (cnd ?_ ?_)
 ·intro h21
  try simp at h21
  refine AW.seqDrawS tok mixed 7 [[0],[1],[23],[22,24],[1],[26],[25,27]] [.int .u8 c.toNat,.nilp,.str (kJ c s),.int .u8 c.toNat,.nilp,.str ((kJ c s).dropWhile (fun b=>b == c))] [] (by kernel_rfl) ?_
  iterate 7 refine dq1 (ai h1 h2) ?_
  refine DGo.nil (by kernel_rfl) ⟨by kernel_rfl, ?_⟩
  refine qC.run [[4]] ?_
  refine op1 tok ?_
  exact qA (AW.ret qG)
 intro h21
 try simp at h21
 omega
def qDF (s:List UInt8) (m:Bool):List UInt8:=if ndg (qE s)≤34 then s else zA (s.length-ndg (qE s)+35) (uC (qE s) m).1
theorem qRZ (s:List UInt8) (h:s.all qH=true) (k:Nat):qE (s.take k)=qE s / 10 ^ (s.length-k)∧qE (s.drop k)=qE s % 10 ^ (s.length-k):=by
 have e:qE s=qE (s.take k) * 10 ^ (s.drop k).length+qE (s.drop k):=by rw [← wP,List.take_append_drop]
 have h2:=wB (qDN h k)
 rw [List.length_drop] at e h2
 have hp:0<10 ^ (s.length-k):=Nat.pow_pos (by decide)
 rw [e,Nat.mul_comm]
 exact ⟨by rw [Nat.mul_add_div hp,Nat.div_eq_of_lt h2,Nat.add_zero],by rw [Nat.mul_add_mod,Nat.mod_eq_of_lt h2]⟩
def upB (Q:Nat) (m:Bool):Bool:=decide (5<Q / 10 ^ (ndg Q-35) % 10∨(Q / 10 ^ (ndg Q-35) % 10=5∧(m=true∨Q % 10 ^ (ndg Q-35)≠0∨Q / 10 ^ (ndg Q-34) % 2=1)))
theorem zLX {Q:Nat} (m:Bool) (h:¬ ndg Q≤34):uC Q m=(if upB Q m=true then Q / 10 ^ (ndg Q-34)+1 else Q / 10 ^ (ndg Q-34),ndg Q-34):=by
 unfold uC upB
 rw [if_neg h]
 simp only [decide_eq_true_eq]
def qQH (H:List UInt8) (k:Nat):List UInt8:=H.take (H.length-k)++List.replicate k 48
theorem zOO {H:List UInt8} {k:Nat} (h:k<H.length):(qQH H k)[H.length-1-k]?=H[H.length-1-k]?:=by
 unfold qQH
 rw [List.getElem?_append_left (by simp; omega),List.getElem?_take,if_pos (by omega)]
theorem zKA {H:List UInt8} {k:Nat} (h:k<H.length):(qQH H k).set (H.length-1-k) 48=qQH H (k+1):=by
 unfold qQH
 rw [List.set_append_left _ _ (by simp; omega)]
 have e:H.length-k=(H.length-(k+1))+1:=by omega
 rw [e,List.take_add_one]
 obtain ⟨b,hb⟩:∃ b,H[H.length-(k+1)]?=some b:=⟨H[H.length-(k+1)]'(by omega),List.getElem?_eq_getElem _⟩
 rw [hb,List.set_append_right _ _ (by simp; omega)]
 simp only [List.length_take]
 rw [show H.length-1-k-min (H.length-(k+1)) H.length=0 by omega]
 simp [List.replicate_succ]
theorem zJZ {H : List UInt8} {k : Nat} {b : UInt8} (h : k < H.length) (hb : H[H.length - 1 - k]? = some b) (hd : qH b = true) (h9 : b ≠ 57) (hk : ∀ j, H.length - 1 - k < j → j < H.length → H[j]? = some 57) :
  qE ((qQH H k).set (H.length-1-k) (UInt8.ofNat (b.toNat+1)))=qE H+1:=by
 rw [← zJY (n:=H.length-1-k) (k:=k) (by omega) hb hd h9 hk]
 congr 1
 unfold qQH
 have e:H.length-k=(H.length-1-k)+1:=by omega
 rw [e,List.take_add_one,hb,List.set_append_left _ _ (by simp; omega),List.set_append_right _ _ (by simp; omega)]
 simp only [List.length_take]
 rw [show H.length-1-k-min (H.length-1-k) H.length=0 by omega]
 simp
theorem zGH {L:List UInt8} (h:L.all qH=true) (i:Nat) {b:UInt8} (hb:qH b=true):(L.set i b).all qH=true:=by
 rw [List.all_eq_true] at h ⊢
 intro x hx
 rcases List.mem_or_eq_of_mem_set hx with e | e
 ·exact h x e
 rw [e]; exact hb
theorem qNX (s:List UInt8) (m:Bool) (hd:s.all qH=true) (hl:s.length≤1000000):AFn Tryz.prog G 96 [.str s,.bool m] (.tup [.str (qDF s m),.int .i64 ((uC (qE s) m).2:Nat)]):=by
 refine AFn.introU tok Tryz.func96 (by kernel_rfl) rfl rfl ?_
 simp only [Tryz.f96,qI,List.map_cons,List.map_nil]
 have htl:=qAN (G:=G) s 48 (by decide)
 have hsl:(qQ s).length≤s.length:=(List.dropWhile_sublist _).length_le
 rw [show s.dropWhile (fun b=>b == 48)=qQ s from rfl] at htl
 have hng:(qQ s).length=ndg (qE s):=qVQ hd
 generalize qQ s=t at *
 obtain ⟨D,hD⟩:∃ D,D=ndg (qE s):=⟨_,rfl⟩
 rw [← hD] at hng
 obtain ⟨N,hN⟩:∃ N:Nat,(s.length:Int)-t.length+34=N:=⟨s.length-t.length+34,by omega⟩
 refine rgn [] [[],[0,1]] ?_
 iterate 2 refine op1 tok ?_
 refine qA (rgn [.nilp,.str t] [[],[],[],[],[],[0,1,17],[0,1,6]] ?_)
 iterate 7 refine oq1 tok htl ?_
 refine qA (rgn [] [[],[],[0,1,7]] ?_)
 iterate 3 refine op1 tok ?_
 refine qA ?_
 refine AW.join (α:=Unit) (fun _=>34<D) (fun u=>⟨qV 78 [(0,.p (.str s)),(1,.p (.bool m)),(7,.p (.int .i64 N))],[],[],0⟩) ?_ ?_
 ·
  refine rgn [] [[],[],[],[0,1,7,23]] ?_
  iterate 4 refine op1 tok ?_
  refine qA (cnd ?_ ?_)
  ·intro h23
   try simp at h23
   have hk:qDF s m=s:=by unfold qDF; rw [if_pos (by omega)]
   have hr:uC (qE s) m=(qE s,0):=by unfold uC; rw [if_pos (by omega)]
   rw [hk,hr]
   refine rgn [] [[],[],[4,5]] ?_
   iterate 3 refine op1 tok ?_
   exact qA (AW.ret qG)
  intro h23
  try simp at h23
  have hD34:34<D:=by omega
  refine AW.skip ?_
  exact ⟨(),hD34,qB (by simp [hN]),rfl,by simp [hN],by simp [hN]⟩
 ·
  rintro u hDg
  have hD34:¬ ndg (qE s)≤34:=by omega
  have hNl:N<s.length:=by omega
  have hk:qDF s m=zA (N+1) (uC (qE s) m).1:=by
   unfold qDF; rw [if_neg hD34]; congr 1; omega
  rw [hk,zLX m hD34,← hD]
  obtain ⟨h1,h2⟩:=qRZ s hd N
  obtain ⟨h3,h4⟩:=qRZ s hd (N+1)
  obtain ⟨t0,tr,htt⟩:∃ t0 tr,s.drop N=t0::tr:=⟨s[N],s.drop (N+1),List.drop_eq_getElem_cons hNl⟩
  have hst:s[N]?=some t0:=by have:=congrArg (fun l=>l[0]?) htt; simpa using this
  have htr:s.drop (N+1)=tr:=by have:=congrArg (List.drop 1) htt; simpa [List.drop_drop] using this
  have hda:=qDN hd N
  rw [htt] at h2 hda
  rw [htr] at h4
  have hd0:qH t0=true∧tr.all qH=true:=by simpa using hda
  have ht0:=(zK t0).1 hd0.1
  rw [List.take_add_one,hst] at h3
  simp only [Option.toList_some] at h3
  rw [kN,h1] at h3
  have e34:s.length-N=D-34:=by omega
  have e35:s.length-(N+1)=D-35:=by omega
  rw [e34] at h1 h2 h3
  rw [e35] at h3 h4
  have hup:upB (qE s) m=decide (5<qE s / 10 ^ (D-35) % 10∨(qE s / 10 ^ (D-35) % 10=5∧(m=true∨qE s % 10 ^ (D-35)≠0∨qE s / 10 ^ (D-34) % 2=1))):=by rw [hD]; rfl
  rw [← h3,← h4,← h1] at hup
  have hHv:qE (48::s.take N)=qE s / 10 ^ (D-34):=by rw [wY,h1]; simp
  have hHd:(48::s.take N).all qH=true:=by rw [List.all_cons,qDM hd N]; rfl
  have hHl:(48::s.take N).length=N+1:=by simp; omega
  have hH0:(48::s.take N)[0]?=some 48:=rfl
  rw [← hHv]
  rw [show qE (s.take N)=qE (48::s.take N) by rw [hHv,h1]] at hup
  have htl2:(t0::tr).length=D-34:=by rw [← htt,List.length_drop,e34]
  have hcat:([48]:List UInt8)++s.take N=48::s.take N:=rfl
  have hbpH:(PD.int .u8 48::(s.take N).map fun b=>PD.int .u8 b.toNat)=qM (48::s.take N):=rfl
  obtain ⟨H,hH⟩:∃ H,H=48::s.take N:=⟨_,rfl⟩
  rw [← hH] at hup hHv hHd hHl hH0 hcat hbpH ⊢
  obtain ⟨up,hupE⟩:∃ up,up=upB (qE s) m:=⟨_,rfl⟩
  rw [← hupE] at hup ⊢
  have hm10:(qE H * 10+(t0.toNat-48)) % 10=t0.toNat-48:=by omega
  rw [hm10] at hup
  have hcar0:qQH H 0=H:=by unfold qQH; simp
  obtain ⟨c,hc⟩:∃ c,H[N]?=some c:=⟨H[N]'(by omega),List.getElem?_eq_getElem _⟩
  have hcd:qH c=true:=List.all_eq_true.1 hHd c (List.mem_of_getElem? hc)
  have hcr:=(zK c).1 hcd
  have hodd:qE H % 2=(c.toNat-48) % 2:=by
   have e:H=H.take N++[c]:=by
    conv=>lhs; rw [← List.take_append_drop N H]
    congr 1
    rw [List.drop_eq_getElem_cons (by omega),List.drop_eq_nil_of_le (by omega)]
    rw [List.getElem?_eq_getElem (by omega)] at hc
    rw [Option.some.inj hc]
   rw [e,kN]; omega
  rw [hodd] at hup
  have htrim:=zPB (G:=G) tr 48 (by decide)
  have hz:=qYB hd0.2
  generalize (kJ 48 tr).dropWhile (fun b=>b == 48)=tz at *
  have hv0:(qE tr≠0)↔tz≠[]:=by rw [Ne,← hz]
  have hupi:up=true↔(5<t0.toNat-48∨(t0.toNat-48=5∧(m=true∨tz≠[]∨(c.toNat-48) % 2=1))):=by rw [hup,decide_eq_true_iff,hv0]
  clear hup
  have htk:List.take (s.length-N) (t0::tr)=t0::tr:=List.take_of_length_le (by omega)
  have htk2:List.take (D-34) (t0::tr)=t0::tr:=List.take_of_length_le (by omega)
  have hHs:48::s.take N=H:=hH.symm
  clear hH
  have wc:IntKind.u8.wrap ((c.toNat:Int)-48)=((c.toNat-48:Nat):Int):=by rw [qBO (by omega) (by omega)]; omega
  have wr:((c.toNat-48:Nat):Int).tmod 2=(((c.toNat-48) % 2:Nat):Int):=(Int.ofNat_tmod _ 2).symm
  refine AW.seqDrawR mixed 9 [[0],[7],[25,26],[27],[28],[0],[7],[30,31],[29]] [] (by kernel_rfl) ?_
  iterate 4 refine yA.one tok (orc:=[]) (by intro C; conv=>lhs; simp) (by first | with_reducible exact True.intro | (first | (simp; done) | (simp; omega); done) | omega | simp | (simp +contextual; omega)) rfl (by kernel_rfl) ?_
  refine yA.yNew [] [(29,.brow 5 H)] (.ms 29) [29] rfl (zBU tok rfl (by conv=>lhs; simp [hHs]) trivial rfl rfl rfl 29 (by simp) rfl) (by simp) (by simp) (by simp) (by kernel_rfl) (by kernel_rfl) (by conv=>lhs; simp) ?_
  iterate 4 refine yA.one tok (orc:=[]) (by intro C; conv=>lhs; simp) (by first | with_reducible exact True.intro | (first | (simp; done) | (simp; omega); done) | omega | simp | (simp +contextual; omega)) rfl (by kernel_rfl) ?_
  refine yA.nil (by kernel_rfl) ⟨by kernel_rfl, ?_⟩
  refine qC.run [[1,7,8,9]] ?_
  refine op1 tok ?_ (h:=by intro C; conv=>lhs; simp [hcat,htt,htk,hHs])
  refine qA (rgn [.int .u8 t0.toNat] [[],[],[],[1,7,8,9,10]] ?_)
  iterate 4 refine op1 tok ?_ (hv:=by first | with_reducible exact True.intro | (first | (simp; done) | (simp; omega); done) | omega | simp | (simp +contextual; omega))
  refine qA ?_
  refine AW.join (α:=Unit) (fun _=>True) (fun a=>⟨qV 78 [(7,.p (.int .i64 N)),(8,.ms 29),(9,.p (.str (t0::tr))),(10,.p (.bool up))],[],[(29,.brow 5 H)],0⟩) ?_ ?_
  ·
   refine rgn [.int .u8 t0.toNat] [[],[],[1,7,8,9,10,38]] ?_
   iterate 3 refine op1 tok ?_ (hv:=by first | with_reducible exact True.intro | (first | (simp; done) | (simp; omega); done) | omega | simp | (simp +contextual; omega))
   refine qA (cnd ?_ ?_)
   ·intro h38
    try simp at h38
    have h53:t0.toNat-48=5:=by omega
    by_cases hs8:m=true
    ·
     first | (obtain rfl:m=true:=hs8) | (obtain rfl:m=false:=by simpa using hs8)
     have hupT:up=true:=hupi.2 (.inr ⟨h53,.inl rfl⟩)
     refine rgz [.nilp,.str tz] [[],[],[],[],[7,8,9,40,43],[],[],[7,8,9,46],[],[],[],[],[7,8,9,46,51],[],[],[7,8,9,54],[7,8,9,10]] ?_
     iterate 17 first | refine oq1 tok htrim ?_ | refine oq2 tok htrim ?_
     refine qA ?_
     exact ⟨(),trivial,qB (by simp [hupT]),rfl,by simp [hupT],by simp [hupT]⟩
    ·
     first | (obtain rfl:m=true:=hs8) | (obtain rfl:m=false:=by simpa using hs8)
     have hupF:up=(!decide (tz=[]) || decide (((c.toNat-48:Nat):Int) % 2=1)):=by
      rw [Bool.eq_iff_iff,hupi,h53]
      by_cases hz0:tz=[]
      ·simp [hz0]; omega
      simp [hz0]
     refine rgz [.nilp,.str tz] [[],[],[],[],[7,8,9,40,43],[],[],[7,8,9,46],[],[]] ?_
     iterate 10 first | refine op1 tok ?_ (h:=by intro C; conv=>lhs; simp [wc,wr]) (hv:=by first | with_reducible exact True.intro | (first | exact fun h=>htrim | exact htrim | (simp; done) | (simp; omega); done) | omega | simp | (simp +contextual; omega)) | refine op2 tok ?_ (h:=by intro C; conv=>lhs; simp [wc,wr]) (hv:=by first | with_reducible exact True.intro | (first | exact fun h=>htrim | exact htrim | (simp; done) | (simp; omega); done) | omega | simp | (simp +contextual; omega))
     refine qZ ?_
     refine qC.stepYIf (b:=decide (tz=[])) [7,8,9,46,49] 46 rfl rfl (by simp) (fun hb=>qNB tok rfl rfl rfl rfl (n:=N) (by conv=>lhs; simp) (by first | trivial | simpa using hb) (by conv=>lhs; simp) (by first | trivial | simpa using hb) (by conv=>lhs; simp) (by omega) rfl) (by conv=>lhs; simp) ?_
     refine qC.stepYIf (b:=decide (tz=[])) [7,8,9,46,50] 46 rfl rfl (by simp) (fun hb=>qUM tok rfl rfl rfl (by conv=>lhs; simp) (by first | trivial | simpa using hb) (by conv=>lhs; simp) (c0:=c) hc) (by conv=>lhs; simp) ?_
     refine qC.run [[],[],[],[7,8,9,54],[7,8,9,10]] ?_
     iterate 3 refine op2 tok ?_ (h:=by intro C; conv=>lhs; simp [wc,wr]) (hv:=by first | with_reducible exact True.intro | (first | exact fun h=>htrim | exact htrim | (simp; done) | (simp; omega); done) | omega | simp | (simp +contextual; omega))
     iterate 2 refine op1 tok ?_ (h:=by intro C; conv=>lhs; simp [wc,wr]) (hv:=by first | with_reducible exact True.intro | (first | exact fun h=>htrim | exact htrim | (simp; done) | (simp; omega); done) | omega | simp | (simp +contextual; omega))
     refine qA ?_
     exact ⟨(),trivial,qB (by simp [hupF]),rfl,by simp [hupF],by simp [hupF]⟩
   intro h38
   try simp at h38
   have hupG:up=decide ((53:Int)<(t0.toNat:Int)):=by
    rw [Bool.eq_iff_iff,hupi,decide_eq_true_iff]
    have hne:¬ t0.toNat-48=5:=by omega
    simp [hne]; omega
   refine AW.skip ?_
   exact ⟨(),trivial,qB (by simp [hupG]),rfl,by simp [hupG],by simp [hupG]⟩
  ·
   rintro a hI
   refine AW.seq (rgn [] [[],[8,9,10,11]] ?_)
   iterate 2 refine op1 tok ?_
   refine qA (AW.block ?_)
   refine AW.loop (α:=List UInt8 × Nat × Bool) (fun a=>a.1.length=N+1∧a.1.all qH=true∧(a.2.2=true→a.2.1≤N∧a.1=qQH H a.2.1∧(∀ j,N-a.2.1<j→j≤N→H[j]?=some 57)∧up=true)∧(a.2.2=false→qE a.1=if up=true then qE H+1 else qE H)) (fun a=>⟨qV 78 [(8,.ms 29),(9,.p (.str (t0::tr))),(10,.p (.bool a.2.2)),(11,.p (.int .i64 ((N:Int)-a.2.1)))],[],[(29,.brow 5 a.1)],0⟩) (fun a=>if a.2.2=true then N+2-a.2.1 else 0) ((H,0,up)) ⟨hHl,hHd,fun _=>⟨by simp,hcar0.symm,fun j h1 h2=>by simp at h1; omega,by assumption⟩,fun h=>by simp at h; rw [h]; rfl⟩ ⟨qB (by simp),rfl,by simp,by simp⟩ ?_
   rintro ⟨L,k,u⟩ ⟨hLl,hLd,hLT,hLF⟩
   simp only at hLl hLd hLT hLF
   refine AW.seq (rgn [] [[8,9,11,56]] ?_)
   refine op1 tok ?_
   refine qA (cnd ?_ ?_)
   ·intro h56
    try simp at h56
    subst h56
    obtain ⟨hkN,hLc,h9,hupT⟩:=hLT rfl
    obtain ⟨b,hb⟩:∃ b,H[N-k]?=some b:=⟨H[N-k]'(by omega),List.getElem?_eq_getElem _⟩
    have hbd:qH b=true:=List.all_eq_true.1 hHd b (List.mem_of_getElem? hb)
    have hbr:=(zK b).1 hbd
    have hHk:H.length-1-k=N-k:=by omega
    have hLb:L[N-k]?=some b:=by rw [hLc,← hHk,zOO (by omega),hHk]; exact hb
    have hnine:=zKA (H:=H) (k:=k) (by omega)
    rw [hHk,← hLc] at hnine
    have hstop:=zJZ (H:=H) (k:=k) (b:=b) (by omega) (by rw [hHk]; exact hb) hbd
    rw [hHk,← hLc] at hstop
    have hsub:(N:Int)-k-1=(N:Int)-(k+1:Nat):=by omega
    refine AW.skip (AW.seq (AW.block (rgn [] [[],[]] ?_)))
    iterate 2 refine op1 tok ?_
    refine qZ ?_
    refine qC.stepK [8,9,11,61] (qNB tok rfl rfl rfl rfl (n:=N-k) (by conv=>lhs; simp) trivial (by conv=>lhs; simp) trivial (by conv=>lhs; simp) (by omega) (by omega)) (by conv=>lhs; simp) rfl ?_
    refine qC.stepK [8,9,11,62] (qUM tok rfl rfl rfl (by conv=>lhs; simp) trivial (by conv=>lhs; simp) (c0:=b) hLb) (by conv=>lhs; simp) rfl ?_
    refine qC.run [[],[8,9,10,11]] ?_
    iterate 2 refine op1 tok ?_
    refine qA (rgn [] [[]] ?_)
    refine op1 tok ?_
    refine qA (cnd ?_ ?_)
    ·intro h64
     try simp at h64
     have hb57:b=57:=UInt8.toNat_inj.1 (by show b.toNat=57; omega)
     have hk1:k+1≤N:=by
      apply Nat.lt_of_le_of_ne hkN
      rintro rfl
      rw [Nat.sub_self,hH0] at hb
      rw [← Option.some.inj hb] at hb57; exact absurd hb57 (by decide)
     refine rgz [] [[],[]] ?_
     iterate 2 refine op1 tok ?_
     refine qZ ?_
     refine qC.stepK [8,9,10,11,67] (qNB tok rfl rfl rfl rfl (n:=N-k) (by conv=>lhs; simp) trivial (by conv=>lhs; simp) trivial (by conv=>lhs; simp) (by omega) (by omega)) (by conv=>lhs; simp) rfl ?_
     refine qC.stepK [8,9,10,11] (qXC tok (z:=48) rfl rfl rfl (by conv=>lhs; simp) trivial (by conv=>lhs; simp) trivial (by conv=>lhs; simp) (by omega) 48 rfl rfl) (by conv=>lhs; simp) rfl ?_
     refine qC.nil ?_
     refine rgz [] [[],[],[8,9,10,11]] ?_
     iterate 3 refine op1 tok ?_
     refine qA ?_
     exact ⟨(qQH H (k+1),k+1,true),⟨by simp only; rw [← hnine,List.length_set]; exact hLl,by simp only; rw [← hnine]; exact zGH hLd _ (by decide),fun _=>⟨hk1,rfl,fun j h1 h2=>by simp only at h1; by_cases e:j=N-k; (· subst e; rw [hb,hb57]); (· exact h9 j (by omega) h2),hupT⟩,fun h=>by cases h⟩,by simp; omega,qB (by simp [hnine,h64,hsub]),rfl,by simp [hnine,h64,hsub],by simp [hnine,h64,hsub]⟩
    intro h64
    try simp at h64
    have hne:b≠57:=fun e=>h64 (by rw [e]; rfl)
    have hstop':=hstop hne (fun j h1 h2=>h9 j (by omega) (by omega))
    have hbu:(UInt8.ofNat (b.toNat+1)).toNat=b.toNat+1:=by rw [UInt8.toNat_ofNat']; omega
    have hb1:(b.toNat:Int)+1=((UInt8.ofNat (b.toNat+1)).toNat:Int):=by rw [hbu]; omega
    have hbdn:qH (UInt8.ofNat (b.toNat+1))=true:=by
     rw [zK,hbu]
     have:b.toNat≠57:=fun e=>hne (UInt8.toNat_inj.1 e)
     omega
    have hwb:IntKind.u8.wrap ((b.toNat:Int)+1)=(b.toNat:Int)+1:=qBO (by omega) (by omega)
    generalize UInt8.ofNat (b.toNat+1)=b1 at *
    refine rgz [] [[],[]] ?_
    iterate 2 refine op1 tok ?_ (h:=by intro C; conv=>lhs; simp [hwb])
    refine qZ ?_
    refine qC.stepK [8,9,10,11,68,69,70] (qNB tok rfl rfl rfl rfl (n:=N-k) (by conv=>lhs; simp) trivial (by conv=>lhs; simp) trivial (by conv=>lhs; simp) (by omega) (by omega)) (by conv=>lhs; simp) rfl ?_
    refine qC.stepK [8,9,10,11,68,69,71] (qUM tok rfl rfl rfl (by conv=>lhs; simp) trivial (by conv=>lhs; simp) (c0:=b) hLb) (by conv=>lhs; simp) rfl ?_
    refine qC.run [[]] ?_
    refine op1 tok ?_ (h:=by intro C; conv=>lhs; simp [hwb])
    refine qZ ?_
    refine qC.stepK [8,9,10,11,72,73] (qNB tok rfl rfl rfl rfl (n:=N-k) (by conv=>lhs; simp) trivial (by conv=>lhs; simp) trivial (by conv=>lhs; simp) (by omega) (by omega)) (by conv=>lhs; simp) rfl ?_
    refine qC.stepK [8,9,10,11] (qXC tok rfl rfl rfl (by conv=>lhs; simp) trivial (by conv=>lhs; simp) trivial (by conv=>lhs; simp) (by omega) b1 hb1 rfl) (by conv=>lhs; simp) rfl ?_
    refine qC.nil ?_
    refine rgz [] [[],[],[8,9,10,11]] ?_
    iterate 3 refine op1 tok ?_
    refine qA ?_
    exact ⟨(L.set (N-k) b1,k+1,false),⟨by simp only; rw [List.length_set]; exact hLl,zGH hLd _ hbdn,fun h=>(by cases h),fun _=>by simp only; rw [hstop',hupT]; rfl⟩,by simp; omega,qB (by simp [hsub,h64]),rfl,by simp [hsub,h64],by simp [hsub,h64]⟩
   intro h56
   try simp at h56
   subst h56
   have hLv:=hLF rfl
   have hLe:zA (N+1) (if up=true then qE H+1 else qE H)=L:=by
    rw [← hLv,← hLl]; exact (qWH hLd).symm
   rw [hLe]
   have hlen:(tr.length:Int)+1=((D-34:Nat):Int):=by rw [← htl2]; simp
   refine AW.exit ?_
   simp
   refine rgn [] [[]] ?_
   refine op1 tok ?_
   refine qZ ?_
   refine qC.stepK [9,75] (zSR tok rfl rfl rfl rfl (by conv=>lhs; simp) trivial (by conv=>lhs; simp)) (by conv=>lhs; simp) rfl ?_
   refine qC.run [[],[],[],[4,5]] ?_
   iterate 4 refine op1 tok ?_
   refine qA ?_
   exact AW.ret (qG (k:=by simp [hlen]))
end Go.Proofs.YtdojfdaglbphlaaGreatDoor
