import Derived.Test.YtbhhphabggcacaaGreatDoorSSynG
import Derived.Test.YtbhhphabggcacaaGreatDoorSCore27
namespace Go.Proofs.YtbhhphabggcacaaGreatDoor
open Sy Go
set_option maxRecDepth 100000
set_option maxHeartbeats 4000000
set_option linter.unusedSimpArgs false
set_option linter.unusedVariables false
variable {G:qM}
theorem qOB (s:PS) (x:Nd) (hkn:x.keys=[]) (hn:s.nodes.length≤1000000):AX Tryz.prog G 43 [.ptr 2 0,.agg [.p (.int .i64 x.op),.p (.int .i64 x.n),.p (.str x.text),.p (.bool x.num.neg),.p (.str x.num.digits),.p (.int .i64 x.num.scale),.nilsl,.p (.sl 1 (x.kids.map (PD.int .i64)))]] [(2,.vars 42 [.p (.sl 6 (s.left.map Tok.enc)),.ms 949,.p (.int .i64 s.deep),.p (.bool s.bad)]),(949,.row 36 8 (s.nodes.map Nd.enc))] (.p (.int .i64 (wC x s).1)) [2] [(2,.vars 42 [.p (.sl 6 ((wC x s).2.left.map Tok.enc)),.ms 949,.p (.int .i64 (wC x s).2.deep),.p (.bool (wC x s).2.bad)]),(949,.row 36 8 ((wC x s).2.nodes.map Nd.enc))]:=by
 refine AX.introU tok 900 Tryz.func43 (by kernel_rfl) rfl rfl ?_
 simp only [Tryz.f43,qN,List.map_cons,List.map_nil]
 refine rgn [] [[],[0,3]] ?_
 iterate 2 refine op1 tok ?_
 refine qA ?_
 refine AW.seqDrawS tok mixed 11 [[0],[0],[6],[7],[8],[3],[10],[9,11],[5],[13],[14,12]] [x.enc,x.enc] [] (by kernel_rfl) ?_
 iterate 11 refine d1 ?_ (hv:=by first | with_reducible exact True.intro | ((simp [hkn]); done) | omega | simp | (simp +contextual; omega))
 refine DGo.nil (by kernel_rfl) ⟨by kernel_rfl, ?_⟩
 refine qE.nil ?_
 refine AW.keepE [0] (by conv=>lhs; simp) ?_
 refine AW.pinsTo [2] (by simp) rfl ?_
 refine AW.renE 912 949 (by simp) (by conv=>lhs; simp) ?_
 refine rgn [] [[],[],[],[18],[],[],[4]] ?_
 iterate 7 refine op1 tok ?_
 refine qA ?_
 exact AW.ret qP
theorem qYN (s:PS) (o:Int) (t:List UInt8) (l:List Int) (hn:s.nodes.length≤1000000):AX Tryz.prog G 18 [.ptr 2 0,.p (.int .i64 o),.p (.str t),.ms 934] [(2,.vars 42 [.p (.sl 6 (s.left.map Tok.enc)),.ms 949,.p (.int .i64 s.deep),.p (.bool s.bad)]),(949,.row 36 8 (s.nodes.map Nd.enc)),(934,.row 3 1 (l.map (PD.int .i64)))] (.p (.int .i64 (opP o t l s).1)) [2] [(2,.vars 42 [.p (.sl 6 ((opP o t l s).2.left.map Tok.enc)),.ms 949,.p (.int .i64 (opP o t l s).2.deep),.p (.bool (opP o t l s).2.bad)]),(949,.row 36 8 ((opP o t l s).2.nodes.map Nd.enc))]:=by
 refine AX.introU tok 900 Tryz.func18 (by kernel_rfl) rfl rfl ?_
 simp only [Tryz.f18,qN,List.map_cons,List.map_nil]
 have hp:=qOB (G:=G) s ⟨o,0,t,⟨false,[],0⟩,[],l⟩ rfl hn
 have hT:opP o t l s=wC ⟨o,0,t,⟨false,[],0⟩,[],l⟩ s:=rfl
 rw [hT]
 simp at hp
 refine rgn [] [[0,1,2,3]] ?_
 refine op1 tok ?_
 refine qA (rgn [] [[],[],[],[9,10,11,12]] ?_)
 iterate 4 refine op1 tok ?_
 refine qF ?_
 refine qE.freeze 934 (by conv=>lhs; simp) ?_
 refine qE.run [[]] ?_
 refine op1 tok ?_
 refine qF ?_
 refine qE.stepK [14] (qK rfl hp (by simp)) (by conv=>lhs; simp) rfl ?_
 refine qE.run [[8]] ?_
 refine op1 tok ?_
 refine qA ?_
 exact AW.ret qP
theorem qQU (n:Nat) (s:PS) (ih:∀ m,m≤n→SynAll G m) (hi:InS 0 0 s) (hf:20 * s.left.length+2≤n+1):AX Tryz.prog G 71 [.ptr 2 0] [(2,.vars 42 (psC (s))),(3,.row 36 8 ((s).nodes.map Nd.enc))] (.p (.int .i64 (jB (n+1) s).1)) [2] [(2,.vars 42 (psC ((jB (n+1) s).2))),(3,.row 36 8 (((jB (n+1) s).2).nodes.map Nd.enc))]:=by
 refine AX.introU tok 900 Tryz.func71 (by kernel_rfl) rfl rfl ?_
 simp only [Tryz.f71,qN,List.map_cons,List.map_nil]
 simp only [jB]
 have c1:=qMB (G:=G) s 93 (fun _=>true) (fun t=>qSX t)
 have l1:=qAU (fun _=>true) s
 have q1:=vT (f:=fun _=>true) (s:=s)
 have n1:=qJT (f:=fun _=>true) (s:=s)
 generalize qZ (fun _=>true) s=R at *
 obtain ⟨⟨t,b⟩,s1⟩:=R
 simp only at c1 l1 q1 n1 ⊢
 have hb0:b=false→t=qBM:=fun h=>by have:=n1 h; simp only [Prod.mk.injEq] at this; exact this.1.1
 have hkb:t.kind≠0→b=true:=fun h=>by
  cases b with
  | true=>rfl
  | false=>rw [hb0 rfl] at h; exact absurd rfl h
 have htb:t.text≠[]→b=true:=fun h=>by
  cases b with
  | true=>rfl
  | false=>rw [hb0 rfl] at h; exact absurd rfl h
 have i1:=hi.le0 l1
 have i2:b=true→InS 2 4 s1:=fun h=>hi.eat l1 ⟨(q1 h).1,(q1 h).2.1,(q1 h).2.2.1⟩
 have hL:b=true→s1.left.length+1=s.left.length:=fun h=>(q1 h).1
 have e1:=l1.len
 have c2:=kS (G:=G) s1 b
 have l2:=wJ b s1
 have e2:(qU b s1).left=s1.left:=rfl
 generalize qU b s1=s2 at *
 have i3:=i1.le0 l2
 have i4:b=true→InS 2 4 s2:=fun h=>(i2 h).le0 l2
 refine rgn [] [[0]] ?_
 refine op1 tok ?_
 refine qA (rgn [] [[]] ?_)
 refine op1 tok ?_
 refine qF ?_
 refine qE.stepK [0,7] (qK rfl c1 (by simp)) (by conv=>lhs; simp) rfl ?_
 refine qE.run [[],[],[],[],[],[0,3,4]] ?_
 iterate 6 refine op1 tok ?_
 refine qA (rgn [] [[],[]] ?_)
 iterate 2 refine op1 tok ?_
 refine qF ?_
 refine qE.stepK [0,3] (qK rfl c2 (by simp)) (by conv=>lhs; simp) rfl ?_
 refine qE.nil ?_
 refine AW.seq (rgn [] [[],[0,3,14]] ?_)
 iterate 2 refine op1 tok ?_
 refine qA (AW.block (rgn [] [[],[0,3,14,15]] ?_))
 iterate 2 refine op1 tok ?_
 refine qA (cnd ?_ ?_)
 ·intro h15
  try simp at h15
  rw [if_pos h15]
  have hb:=hkb (by omega)
  have c3:=(ih n (by omega)).named t.text s2 (i4 hb) (by rw [e2]; have:=hL hb; omega)
  refine rgn [] [[],[],[]] ?_
  iterate 3 refine op1 tok ?_
  refine qF ?_
  refine qE.stepK [20] (qK rfl c3 (by simp)) (by conv=>lhs; simp) rfl ?_
  refine qE.run [[2]] ?_
  refine op1 tok ?_
  refine qA ?_
  exact AW.ret qP
 intro h15
 try simp at h15
 rw [if_neg h15]
 refine rgn [] [[],[0,3,14,21]] ?_
 iterate 2 refine op1 tok ?_
 refine qA (cnd ?_ ?_)
 ·intro h21
  try simp at h21
  rw [if_pos h21]
  have c3:=uY (G:=G) s2 3 t.text i3.n
  refine rgn [] [[],[],[]] ?_
  iterate 3 refine op1 tok ?_
  refine qF ?_
  refine qE.stepK [26] (qK rfl c3 (by simp)) (by conv=>lhs; simp) rfl ?_
  refine qE.run [[2]] ?_
  refine op1 tok ?_
  refine qA ?_
  exact AW.ret qP
 intro h21
 try simp at h21
 rw [if_neg h21]
 refine rgn [] [[],[0,3,14,27]] ?_
 iterate 2 refine op1 tok ?_
 refine qA (cnd ?_ ?_)
 ·intro h27
  try simp at h27
  rw [if_pos h27]
  have c3:=AX.ren 3 949 (uY (G:=G) s2 1 [] i3.n) (by simp)
  have hn3:(opP 1 [] [] s2).2.nodes.length≤1000000:=by have:=i3.nd; simp [opP]; omega
  have c4:=AX.ren 949 950 (qYN (G:=G) (opP 1 [] [] s2).2 4 t.text [(opP 1 [] [] s2).1] hn3) (by simp)
  simp at c3 c4
  generalize hO:opP 1 [] [] s2=O at *
  obtain ⟨a3,s3⟩:=O
  simp only at c3 c4 ⊢
  have hs3l:s3.left=s2.left∧s3.deep=s2.deep∧s3.bad=s2.bad:=by
   have:s3=(opP 1 [] [] s2).2:=by rw [hO]
   rw [this]; exact ⟨rfl,rfl,rfl⟩
  refine AW.seqDrawR mixed 7 [[0],[3],[30],[0],[32],[33],[29,31,34]] [] (by kernel_rfl) ?_
  refine yR.q [2] (.ptr 2 0) rfl (qJD tok (orc:=[]) (orc':=[]) (v:=True) (by conv=>lhs; simp) trivial) (by simp) (by kernel_rfl) (by conv=>lhs; simp) ?_
  iterate 2 refine yR.one tok (orc:=[]) (by intro C; conv=>lhs; simp) (by first | with_reducible exact True.intro | omega | simp | (simp +contextual; omega)) rfl (by kernel_rfl) ?_
  refine yR.q [2] (.ptr 2 0) rfl (qJD tok (orc:=[]) (orc':=[]) (v:=True) (by conv=>lhs; simp) trivial) (by simp) (by kernel_rfl) (by conv=>lhs; simp) ?_
  refine yR.call [949] c3 rfl rfl (by simp) (by simp) (by simp) (by simp) (by simp) (by first | (simp; done) | (simp; omega)) (by first | (simp; done) | (simp; omega)) (by kernel_rfl) (by conv=>lhs; simp) ?_
  refine yR.one tok (orc:=[.int .i64 a3]) (by intro C; conv=>lhs; simp) (by first | with_reducible exact True.intro | omega | simp | (simp +contextual; omega)) rfl (by kernel_rfl) ?_
  refine yR.call [950] c4 rfl rfl (by simp) (by simp) (by simp) (by simp) (by simp) (by first | (simp; done) | (simp; omega)) (by first | (simp; done) | (simp; omega)) (by kernel_rfl) (by conv=>lhs; simp) ?_
  refine yR.nil (by kernel_rfl) ⟨by kernel_rfl, ?_⟩
  refine qE.run [[2]] ?_
  refine op1 tok ?_
  refine qF ?_
  refine qE.take 950 3 (by conv=>lhs; simp) ?_
  refine qE.nil ?_
  exact AW.ret qP
 intro h27
 try simp at h27
 rw [if_neg h27]
 refine rgn [] [[],[0,3,14,36]] ?_
 iterate 2 refine op1 tok ?_
 refine qA (cnd ?_ ?_)
 ·intro h36
  try simp at h36
  rw [if_pos h36]
  have c3:=qEC (G:=G) s2 t.num i3.n
  refine rgn [] [[],[],[]] ?_
  iterate 3 refine op1 tok ?_
  refine qF ?_
  refine qE.stepK [41] (qK rfl c3 (by simp)) (by conv=>lhs; simp) rfl ?_
  refine qE.run [[2]] ?_
  refine op1 tok ?_
  refine qA ?_
  exact AW.ret qP
 intro h36
 try simp at h36
 rw [if_neg h36]
 refine rgn [] [[],[0,3,42]] ?_
 iterate 2 refine op1 tok ?_
 refine qA (cnd ?_ ?_)
 ·intro h42
  try simp at h42
  rw [if_pos h42]
  have c3:=yO (G:=G) s2 ⟨2,5,t.text,⟨false,[],0⟩,[],[]⟩ rfl rfl i3.n
  simp only [List.map_cons,List.map_nil] at c3
  refine rgn [] [[],[],[],[44,47]] ?_
  iterate 4 refine op1 tok ?_
  refine qF ?_
  refine qE.stepK [48] (qK rfl c3 (by simp)) (by conv=>lhs; simp) rfl ?_
  refine qE.run [[2]] ?_
  refine op1 tok ?_
  refine qA ?_
  exact AW.ret qP
 intro h42
 try simp at h42
 rw [if_neg h42]
 have c3:=(ih n (by omega)).signed t.text s2 i3 (by rw [e2]; omega) (fun h=>⟨(i4 (htb h)).weak 1 1 (by omega) (by omega),by rw [e2]; have:=hL (htb h); omega⟩)
 refine AW.skip (rgn [] [[],[],[]] ?_)
 iterate 3 refine op1 tok ?_
 refine qF ?_
 refine qE.stepK [52] (qK rfl c3 (by simp)) (by conv=>lhs; simp) rfl ?_
 refine qE.run [[2]] ?_
 refine op1 tok ?_
 refine qA ?_
 exact AW.ret qP
end Go.Proofs.YtbhhphabggcacaaGreatDoor
