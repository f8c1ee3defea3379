import Derived.Test.YtgcbapchinideaaGreatDoorSUnG
import Derived.Test.YtgcbapchinideaaGreatDoorSUnCall
import Derived.Test.YtgcbapchinideaaGreatDoorSSplit
namespace Go.Proofs.YtgcbapchinideaaGreatDoor
open Sy Go
set_option maxRecDepth 100000
set_option maxHeartbeats 4000000
set_option linter.unusedSimpArgs false
set_option linter.unusedVariables false
variable {G:qK}
def qMO (ws:List (List UInt8)) (m:Int):Val:=qAY (ws.map fun s=>kG s 0) m
theorem qWP (sep:List UInt8) (parts:List (List UInt8)) (v:Val) (m:Int) (hs:v.kind=5→AFn Tryz.prog G 75 [.str v.text,.str sep] (.sl 1 (parts.map PD.str))) (hn:parts.length≤1000000):AFn Tryz.prog G 42 [.agg [.int .u64 m],.str [115,112,108,105,116],.str sep,v.enc] ((if v.kind=5 then qMO parts m else wD 40 m).enc):=by
 refine AFn.introU tok Tryz.func42 (by kernel_rfl) rfl rfl ?_
 simp only [Tryz.f42,qH,List.map_cons,List.map_nil]
 have hf:=yD (G:=G) 40 m
 have he:=zDG (G:=G) parts m hn
 have e:qMO parts m=qAY (parts.map fun s=>kG s 0) m:=rfl
 rw [← e] at he
 generalize qMO parts m=W at *
 simp only [Val.enc_def] at hf he
 refine rgn [] [[],[],[1,2,4,7,8]] ?_
 iterate 3 refine op1 tok ?_
 refine qA (AW.seq (rgn [] [[],[],[1,2,4,7,8,13]] ?_))
 iterate 3 refine op1 tok ?_
 refine qA (cnd ?_ ?_)
 ·intro h13
  try simp at h13
  rw [if_neg (by simpa using h13)]
  refine rgn [.nilp,(wD 40 m).enc] [[],[],[8]] ?_
  iterate 3 refine oq1 tok hf ?_
  exact qA (AW.ret qG)
 intro h13
 try simp at h13
 rw [if_pos (by simpa using h13)]
 have hs:=hs (by simpa using h13)
 refine AW.skip (AW.seq (rgn [] [[2,4,7,8,16]] ?_))
 refine op1 tok ?_
 refine qA (AW.block (rgn [] [[],[2,4,7,8,16,17]] ?_))
 iterate 2 refine op1 tok ?_
 refine qA (cnd ?_ ?_)
 ·intro h17
  try simp at h17
 intro h17
 try simp at h17
 refine rgn [] [[],[2,4,7,8,16,34]] ?_
 iterate 2 refine op1 tok ?_
 refine qA (cnd ?_ ?_)
 ·intro h34
  try simp at h34
 intro h34
 try simp at h34
 refine rgn [] [[],[2,4,7,8,16,42]] ?_
 iterate 2 refine op1 tok ?_
 refine qA (cnd ?_ ?_)
 ·intro h42
  try simp at h42
 intro h42
 try simp at h42
 refine rgn [] [[],[2,4,7,8,50]] ?_
 iterate 2 refine op1 tok ?_
 refine qA (cnd ?_ ?_)
 ·intro h50
  try simp at h50
 intro h50
 try simp at h50
 refine AW.skip ?_
 refine AW.seqDrawR mixed 8 [[4],[7],[60],[2],[61,62],[],[64],[59,63,65]] [W.enc] (by kernel_rfl) ?_
 iterate 4 refine zB.one tok (orc:=[]) (by intro C; conv=>lhs; simp) (by first | with_reducible exact True.intro | (first | exact hs | (simp; done); done) | omega | simp | (simp +contextual; omega)) rfl (by kernel_rfl) ?_
 refine zB.one tok (orc:=[.nilp,.sl 1 (parts.map PD.str)]) (by intro C; conv=>lhs; simp) (by first | with_reducible exact True.intro | (first | exact hs | (simp; done); done) | omega | simp | (simp +contextual; omega)) rfl (by kernel_rfl) ?_
 iterate 2 refine zB.one tok (orc:=[]) (by intro C; conv=>lhs; simp) (by first | with_reducible exact True.intro | (first | exact hs | (simp; done); done) | omega | simp | (simp +contextual; omega)) rfl (by kernel_rfl) ?_
 refine zB.call [] he rfl rfl (by simp) (by simp) (by simp) (by simp) (by simp) (by first | (simp; done) | (simp; omega)) (by first | (simp; done) | (simp; omega)) (by kernel_rfl) (by conv=>lhs; simp) ?_
 refine zB.nil (by kernel_rfl) ⟨by kernel_rfl, ?_⟩
 refine qF.run [[8]] ?_
 refine op1 tok ?_
 exact qA (AW.ret qG)
theorem qPT (arg:List UInt8) (v:Val) (m:Int) (hn:v.kids.length≤1000000) (hj:(Lib.join (v.kids.map Val.text) []).length≤1000000000) (hm:∀ k∈v.kids,zC k=true):AFn Tryz.prog G 46 [.agg [.int .u64 m],.str [97,100,100],.str arg,v.enc] ((if v.kind=6 then qXZ v.kids m else wD 40 m).enc):=by
 refine AFn.introU tok Tryz.func46 (by kernel_rfl) rfl rfl ?_
 simp only [Tryz.f46,qH,List.map_cons,List.map_nil]
 have hf:=yD (G:=G) 40 m
 have hc:=jU (G:=G) v.kids (by omega)
 have ha:=zCZ (G:=G) v.kids m hn hj hm
 generalize qXZ v.kids m=W at *
 simp only [Val.enc_def] at hf ha
 refine rgn [] [[],[],[1,2,4,7,8]] ?_
 iterate 3 refine op1 tok ?_
 refine qA (AW.seq (rgn [] [[],[],[1,2,4,7,8,12]] ?_))
 iterate 3 refine op1 tok ?_
 refine qA (cnd ?_ ?_)
 ·intro h12
  try simp at h12
  rw [if_neg (by simpa using h12)]
  refine rgn [.nilp,(wD 40 m).enc] [[],[],[8]] ?_
  iterate 3 refine oq1 tok hf ?_
  exact qA (AW.ret qG)
 intro h12
 try simp at h12
 rw [if_pos (by simpa using h12)]
 refine AW.skip (rgn [.nilf,.sl 9 (v.kids.map Val.enc),.clo 31 []] [[],[],[],[1,2,4,8,9]] ?_)
 iterate 4 refine oq1 tok hc ?_
 refine qA (AW.seq (rgn [] [[]] ?_))
 refine op1 tok ?_
 refine qA (AW.block (rgn [] [[],[1,2,4,8,9,18,19]] ?_))
 iterate 2 refine op1 tok ?_
 refine qA (cnd ?_ ?_)
 ·intro h19
  try simp at h19
 intro h19
 try simp at h19
 refine rgn [] [[],[1,2,4,8,9,18,26]] ?_
 iterate 2 refine op1 tok ?_
 refine qA (cnd ?_ ?_)
 ·intro h26
  try simp at h26
 intro h26
 try simp at h26
 refine rgn [] [[],[1,2,4,8,9,18,34]] ?_
 iterate 2 refine op1 tok ?_
 refine qA (cnd ?_ ?_)
 ·intro h34
  try simp at h34
  refine AW.freezeE 17 (by conv=>lhs; simp) ?_
  refine rgn [.nilp,W.enc] [[],[],[8,38],[8]] ?_
  iterate 4 refine oq1 tok ha ?_
  exact qA (AW.ret qG)
 intro h34
 try simp at h34
def n1:Dc:=⟨false,[49],0⟩
def n25:Dc:=⟨false,[50,53],1⟩
def exN (d:Dc):Val := .mk 4 0 d [] [] [] 0
def exL:Val := .mk 6 0 dc0 [] [] [exN n1,exN n25] 0
def exT:Val := .mk 5 0 dc0 [97,44,98] [] [] 0
theorem qUZ {d:Dc} (h:zP d=true):zC (exN d)=true:=by
 rw [xQ]; simp [exN,qAT,qBK,qVD,qZG,qTX,qFP,qUV,h]
theorem qZX:qJJ 0=⟨false,[48],0⟩:=by unfold qJJ; rw [show (0:Int).natAbs=0 from rfl,uW]; rfl
theorem zFJ:qOX ⟨false,[48],0⟩ exL.kids=(⟨false,[51,53],1⟩,0):=by decide +kernel
theorem zFK:qXZ exL.kids 0 = .mk 4 0 ⟨false,[51,53],1⟩ [] [] [] 0:=by
 unfold qXZ
 rw [if_neg (by decide),if_neg (by decide +kernel),if_neg (by decide +kernel),qZX,zFJ]; rfl
theorem zAK:qMO (wO 44 [97,44,98]) 0 = .mk 6 0 dc0 [] [] [.mk 5 0 dc0 [97] [] [] 0,.mk 5 0 dc0 [98] [] [] 0] 0:=by kernel_rfl
theorem zAX (v:Val) (r:Val) (h:AFn Tryz.prog G 46 [.agg [.int .u64 (zV v)],.str [97,100,100],.str [],v.enc] r.enc):AFn Tryz.prog G 11 [.str [97,100,100],.str [],v.enc] r.enc :=
 qHS [97,100,100] [] v r ⟨fun h=>absurd h (by decide),fun h=>absurd h (by decide),fun h=>absurd h (by decide),fun h=>absurd h (by decide),fun h=>absurd h (by decide),fun h=>absurd h (by decide),fun h=>absurd h (by decide),fun h=>absurd h (by decide),fun h=>absurd h (by decide),fun h=>absurd h (by decide),fun h=>absurd h (by decide),fun _=>h⟩
theorem qTJ (sep:List UInt8) (v:Val) (r:Val) (h:AFn Tryz.prog G 42 [.agg [.int .u64 v.mask],.str [115,112,108,105,116],.str sep,v.enc] r.enc):AFn Tryz.prog G 11 [.str [115,112,108,105,116],.str sep,v.enc] r.enc :=
 qHS [115,112,108,105,116] sep v r ⟨fun h=>absurd h (by decide),fun h=>absurd h (by decide),fun h=>absurd h (by decide),fun h=>absurd h (by decide),fun h=>absurd h (by decide),fun h=>absurd h (by decide),fun h=>absurd h (by decide),fun h=>absurd h (by decide),fun _=>h,fun h=>absurd h (by decide),fun h=>absurd h (by decide),fun h=>absurd (by decide) h⟩
theorem qVT (s:List UInt8):AFn Tryz.prog G 20 [.str s] ((Val.mk 5 0 dc0 s [] [] 0).enc):=by
 refine AFn.introU tok Tryz.func20 (by kernel_rfl) rfl rfl ?_
 simp only [Tryz.f20,qH,List.map_cons,List.map_nil]
 refine rgn [] [[]] ?_
 refine op1 tok ?_
 refine qA (rgn [] [[],[],[2]] ?_)
 iterate 3 refine op1 tok ?_
 refine qA ?_
 exact AW.ret (qG (k:=by simp [dc0]))
theorem qRW  : AFn Tryz.prog G 9 [] (.bool true):=by
 refine AFn.introU tok Tryz.func9 (by kernel_rfl) rfl rfl ?_
 simp only [Tryz.f9,qH,List.map_cons,List.map_nil]
 have ht:=qVT (G:=G) [97,44,98]
 have hsp:AFn Tryz.prog G 75 [.str [97,44,98],.str [44]] (.sl 1 ((wO 44 [97,44,98]).map PD.str)):=AFn.of_AX (k:=67) (by simpa using zBL (G:=G) [97,44,98] 44 (by decide))
 have h2:=qTJ (G:=G) [44] exT _ (qWP [44] (wO 44 [97,44,98]) exT 0 (fun _=>hsp) (by decide))
 rw [if_pos (show exT.kind=5 from rfl),zAK] at h2
 have m1:zC (exN n1)=true:=qUZ (by decide +kernel)
 have m2:zC (exN n25)=true:=qUZ (by decide +kernel)
 have h1:=zAX (G:=G) exL _ (qPT [] exL (zV exL) (by decide) (by decide) (fun k hk=>by
  rcases List.mem_cons.1 hk with rfl | hk
  ·exact m1
  rw [List.mem_singleton.1 hk]; exact m2))
 rw [if_pos (show exL.kind=6 from rfl),show zV exL=0 by decide +kernel,zFK] at h1
 simp only [Val.enc_def] at ht h1 h2
 refine rgn [] [[34]] ?_
 refine op1 tok ?_
 refine qA (rgn [] [[],[],[],[1]] ?_)
 iterate 4 refine op1 tok ?_
 refine qA (rgn [] [[],[],[],[1,2]] ?_)
 iterate 4 refine op1 tok ?_
 refine qA (rgn [(exN n1).enc,(exN n25).enc,.tup [.str [97,100,100],.str [],exL.enc],(Val.mk 4 0 ⟨false,[51,53],1⟩ [] [] [] 0).enc] [[],[],[11],[]] ?_)
 iterate 4 refine op1 tok ?_ (hv:=by first | with_reducible exact True.intro | (first | (simp [dc0,exN,n1,n25,exL] at h1 ⊢; exact h1) | (simp [dc0,exN,n1,n25,exL]; done) | simp [exN,n1,n25,dc0] | decide; done) | omega | simp | (simp +contextual; omega))
 refine zX ?_
 refine qF.freeze 11 (by conv=>lhs; simp) ?_
 refine qF.run [[],[],[3]] ?_
 iterate 3 refine op1 tok ?_ (hv:=by first | with_reducible exact True.intro | (first | (simp [dc0,exN,n1,n25,exL] at h1 ⊢; exact h1) | (simp [dc0,exN,n1,n25,exL]; done) | simp [exN,n1,n25,dc0] | decide; done) | omega | simp | (simp +contextual; omega))
 refine qA (rgn [.nilp,(Val.mk 5 0 dc0 [97,44,98] [] [] 0).enc,.nilp,(Val.mk 6 0 dc0 [] [] [.mk 5 0 dc0 [97] [] [] 0,.mk 5 0 dc0 [98] [] [] 0] 0).enc] [[],[],[],[3,4]] ?_)
 iterate 4 refine op1 tok ?_ (hv:=by first | with_reducible exact True.intro | (first | (simp [dc0] at ht ⊢; exact ht) | (simp [dc0] at h2 ⊢; exact h2) | (simp; done); done) | omega | simp | (simp +contextual; omega))
 refine qA (rgn [(Val.mk 5 0 dc0 [98] [] [] 0).enc] [[],[],[],[4,19],[],[],[],[],[4,20,24],[],[],[26,27],[],[],[],[26,31],[],[],[0]] ?_)
 iterate 19 first | refine op1 tok ?_ (hv:=by first | with_reducible exact True.intro | ((simp; done); done) | omega | simp | (simp +contextual; omega)) | refine op2 tok ?_ (hv:=by first | with_reducible exact True.intro | ((simp; done); done) | omega | simp | (simp +contextual; omega))
 exact qA (AW.ret qG)
end Go.Proofs.YtgcbapchinideaaGreatDoor
