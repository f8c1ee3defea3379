import Derived.Test.YtlmedakhioiahaaGreatDoorSReadQL
import Derived.Test.YtlmedakhioiahaaGreatDoorSUnq3
import Derived.Test.YtlmedakhioiahaaGreatDoorSParseEq
import Derived.Test.YtlmedakhioiahaaGreatDoorK3
import Derived.Test.YtlmedakhioiahaaGreatDoorK1
namespace Go.Proofs.YtlmedakhioiahaaGreatDoor
open Sy Go
set_option maxRecDepth 100000
set_option maxHeartbeats 4000000
set_option linter.unusedSimpArgs false
set_option linter.unusedVariables false
variable {G:qR}
@[simp] def rqC (s:List UInt8) (q:RQ):List V:=[.p (.str s),.p (.int .i64 q.pos),.p (.int .i64 q.nodes),.p (.bool q.bad),.p (.bool q.deep),.p (.bool q.big)]
attribute [local simp] zV
theorem getD_some {s:List UInt8} {k:Nat} (h:k<s.length):s[k]?=some (s.getD k 0):=by rw [List.getD_eq_getElem?_getD,List.getElem?_eq_getElem h]; rfl
theorem zOG (c:UInt8):wR c=true↔((((c.toNat:Int)=32∨(c.toNat:Int)=9)∨(c.toNat:Int)=10)∨(c.toNat:Int)=13):=by
 rw [show ((c.toNat:Int)=32)=(c=32) from propext (zS c 32 (by decide)),show ((c.toNat:Int)=9)=(c=9) from propext (zS c 9 (by decide)),show ((c.toNat:Int)=10)=(c=10) from propext (zS c 10 (by decide)),show ((c.toNat:Int)=13)=(c=13) from propext (zS c 13 (by decide))]
 simp only [wR,Bool.or_eq_true,beq_iff_eq]
 constructor
 ·rintro (((h | h) | h) | h) <;> simp [h]
 rintro (((h | h) | h) | h) <;> simp [h]
theorem jC (s:List UInt8) (q:RQ) (hs:s.length≤1000000000) (hp:q.pos≤6000000000):AX Tryz.prog G 58 [.ptr 2 0] [(2,.vars 70 (rqC s q))] (.tuple []) [2] [(2,.vars 70 (rqC s (blQ s q)))]:=by
 refine AX.introU tok 900 Tryz.func58 (by kernel_rfl) rfl rfl ?_
 simp only [Tryz.f58,qO,List.map_cons,List.map_nil]
 have hbl:blQ s q=⟨q.pos+blL (s.drop q.pos),q.nodes,q.bad,q.deep,q.big⟩:=rfl
 rw [hbl]
 have htw:=fun k=>vU (p:=wR) (l:=s.drop q.pos) (n:=k)
 have hbe:(List.takeWhile wR (s.drop q.pos)).length=blL (s.drop q.pos):=rfl
 rw [hbe] at htw
 have hble:=(qZF (s.drop q.pos)).2
 rw [List.length_drop] at hble
 generalize blL (s.drop q.pos)=B at *
 refine AW.block ?_
 refine AW.loop (α:=Nat) (fun k=>k≤B) (fun k=>⟨zI 67 [(0,.ptr 2 0)],[2],[(2,.vars 70 [.p (.str s),.p (.int .i64 (q.pos+k:Nat)),.p (.int .i64 q.nodes),.p (.bool q.bad),.p (.bool q.deep),.p (.bool q.big)])],900⟩) (fun k=>B-k) (0) (by omega) ⟨qE (by simp),rfl,by simp,by simp⟩ ?_
 rintro k hk
 have hlt:=htw k hk
 have hg:=fun h=>getD_some (s:=s) (k:=q.pos+k) h
 have hba:=zOG (s.getD (q.pos+k) 0)
 generalize s.getD (q.pos+k) 0=c at *
 refine AW.seq ?_
 refine AW.seqDrawS tok mixed 58 [[0],[2],[3],[4],[0],[6],[7],[8],[9],[5,10],[11],[0,12],[13,12],[14,12],[15,12],[0,12],[17,12],[18,12],[19,12],[16,20,12],[21,12],[22,12],[0,23],[24,23],[25,23],[26,23],[0,23],[28,23],[29,23],[30,23],[27,31,23],[32,23],[23,33,12],[34,12],[0,35],[36,35],[37,35],[38,35],[0,35],[40,35],[41,35],[42,35],[39,43,35],[44,35],[35,45,12],[46,12],[0,47],[48,47],[49,47],[50,47],[0,47],[52,47],[53,47],[54,47],[51,55,47],[56,47],[47,57,12],[12,58]] [.int .u8 c.toNat,.int .u8 c.toNat,.int .u8 c.toNat,.int .u8 c.toNat] [] (by kernel_rfl) ?_
 iterate 11 refine d1 ?_ (hv:=by first | with_reducible exact True.intro | (first | (intros; exact ⟨by assumption,by omega,c,hg (by omega),rfl⟩) | (intros; exact ⟨by omega,by omega,c,hg (by omega),rfl⟩); done) | omega | simp | (simp +contextual; omega))
 iterate 11 refine d2 12 rfl rfl ?_ (hv:=by first | with_reducible exact True.intro | (first | (intros; exact ⟨by assumption,by omega,c,hg (by omega),rfl⟩) | (intros; exact ⟨by omega,by omega,c,hg (by omega),rfl⟩); done) | omega | simp | (simp +contextual; omega))
 iterate 10 refine d2 23 rfl rfl ?_ (hv:=by first | with_reducible exact True.intro | (first | (intros; exact ⟨by assumption,by omega,c,hg (by omega),rfl⟩) | (intros; exact ⟨by omega,by omega,c,hg (by omega),rfl⟩); done) | omega | simp | (simp +contextual; omega))
 iterate 2 refine d2 12 rfl rfl ?_ (hv:=by first | with_reducible exact True.intro | (first | (intros; exact ⟨by assumption,by omega,c,hg (by omega),rfl⟩) | (intros; exact ⟨by omega,by omega,c,hg (by omega),rfl⟩); done) | omega | simp | (simp +contextual; omega))
 iterate 10 refine d2 35 rfl rfl ?_ (hv:=by first | with_reducible exact True.intro | (first | (intros; exact ⟨by assumption,by omega,c,hg (by omega),rfl⟩) | (intros; exact ⟨by omega,by omega,c,hg (by omega),rfl⟩); done) | omega | simp | (simp +contextual; omega))
 iterate 2 refine d2 12 rfl rfl ?_ (hv:=by first | with_reducible exact True.intro | (first | (intros; exact ⟨by assumption,by omega,c,hg (by omega),rfl⟩) | (intros; exact ⟨by omega,by omega,c,hg (by omega),rfl⟩); done) | omega | simp | (simp +contextual; omega))
 iterate 10 refine d2 47 rfl rfl ?_ (hv:=by first | with_reducible exact True.intro | (first | (intros; exact ⟨by assumption,by omega,c,hg (by omega),rfl⟩) | (intros; exact ⟨by omega,by omega,c,hg (by omega),rfl⟩); done) | omega | simp | (simp +contextual; omega))
 refine d2 12 rfl rfl ?_ (hv:=by first | with_reducible exact True.intro | (first | (intros; exact ⟨by assumption,by omega,c,hg (by omega),rfl⟩) | (intros; exact ⟨by omega,by omega,c,hg (by omega),rfl⟩); done) | omega | simp | (simp +contextual; omega))
 refine d1 ?_ (hv:=by first | with_reducible exact True.intro | (first | (intros; exact ⟨by assumption,by omega,c,hg (by omega),rfl⟩) | (intros; exact ⟨by omega,by omega,c,hg (by omega),rfl⟩); done) | omega | simp | (simp +contextual; omega))
 refine DGo.nil (by kernel_rfl) ⟨by kernel_rfl, ?_⟩
 refine qB.nil ?_
 refine cnd ?_ ?_
 ·intro h59
  try simp at h59
  have hkb:k<B:=hlt.2 ⟨c,by rw [List.getElem?_drop]; exact hg (by omega),hba.2 h59.2⟩
  refine AW.skip (AW.block (rgz [] [[],[],[],[],[],[0,64,65],[],[0]] ?_))
  iterate 8 refine op1 tok ?_
  refine qA ?_
  exact ⟨k+1,by omega,by omega,qE (by simp [show (q.pos:Int)+((k:Int)+1)=(q.pos:Int)+k+1 from by omega]),rfl,by simp [show (q.pos:Int)+((k:Int)+1)=(q.pos:Int)+k+1 from by omega],by simp [show (q.pos:Int)+((k:Int)+1)=(q.pos:Int)+k+1 from by omega]⟩
 intro h59
 try simp at h59
 have hkb:k=B:=by
  rcases Nat.lt_or_ge k B with h | h
  ·obtain ⟨b,hb1,hb2⟩:=hlt.1 h
   rw [List.getElem?_drop] at hb1
   have hl:=(List.getElem?_eq_some_iff.1 hb1).1
   rw [hg hl] at hb1
   cases hb1
   exact absurd (hba.1 hb2) (by have:=h59 (by omega); omega)
  omega
 subst hkb
 refine AW.exit ?_
 simp
 exact qIW
theorem qAT (s:List UInt8) (q:RQ) (hs:s.length≤1000000000) (hp:q.pos≤6000000000):AX Tryz.prog G 59 [.ptr 2 0] [(2,.vars 70 (rqC s q))] (.p (.int .u8 (nxQ s q).toNat)) [2] [(2,.vars 70 (rqC s q))]:=by
 refine AX.introU tok 900 Tryz.func59 (by kernel_rfl) rfl rfl ?_
 simp only [Tryz.f59,qO,List.map_cons,List.map_nil]
 have hn:nxQ s q=s.getD q.pos 0:=rfl
 have hg:=fun h=>getD_some (s:=s) (k:=q.pos) h
 have hge:¬ q.pos<s.length→s.getD q.pos 0=0:=fun h=>by rw [List.getD_eq_getElem?_getD,List.getElem?_eq_none (by omega)]; rfl
 rw [hn]
 generalize s.getD q.pos 0=c at *
 refine rgn [] [[0]] ?_
 refine op1 tok ?_
 refine qA (AW.seq ?_)
 refine AW.seqDrawS tok mixed 10 [[0],[3],[4],[5],[0],[7],[8],[9],[10],[6,11]] [] [] (by kernel_rfl) ?_
 iterate 10 refine d1 ?_
 refine DGo.nil (by kernel_rfl) ⟨by kernel_rfl, ?_⟩
 refine qB.nil ?_
 refine cnd ?_ ?_
 ·intro h12
  try simp at h12
  have hc:=hg (by omega)
  refine AW.seqDrawS tok mixed 9 [[0],[13],[14],[15],[0],[17],[18],[19],[16,20]] [.int .u8 c.toNat] [] (by kernel_rfl) ?_
  iterate 9 refine d1 ?_ (hv:=by first | with_reducible exact True.intro | (exact ⟨c,hc,rfl⟩; done) | omega | simp | (simp +contextual; omega))
  refine DGo.nil (by kernel_rfl) ⟨by kernel_rfl, ?_⟩
  refine qB.run [[2]] ?_
  refine op1 tok ?_
  refine qA ?_
  exact AW.ret qV
 intro h12
 try simp at h12
 have hc:=hge (by omega)
 subst hc
 refine AW.skip (rgn [] [[]] ?_)
 refine op1 tok ?_
 refine qA ?_
 exact AW.ret qV
theorem zCB (s:List UInt8) (q:RQ) (w:List UInt8) (hs:s.length≤1000000000) (hp:q.pos≤s.length) (hw:w.length≤100):AX Tryz.prog G 63 [.ptr 2 0,.p (.str w)] [(2,.vars 70 (rqC s q))] (.p (.bool (xF s w q).1)) [2] [(2,.vars 70 (rqC s (xF s w q).2))]:=by
 refine AX.introU tok 900 Tryz.func63 (by kernel_rfl) rfl rfl ?_
 simp only [Tryz.f63,qO,List.map_cons,List.map_nil]
 have hwq:xF s w q=if (s.drop q.pos).take w.length=w then (true,zV q w.length) else (false,q):=rfl
 rw [hwq]
 have hsl:(s.take (q.pos+w.length)).drop q.pos=(s.drop q.pos).take w.length:=by rw [List.drop_take,Nat.add_sub_cancel_left]
 have hln:(s.drop q.pos).take w.length=w→q.pos+w.length≤s.length:=fun h=>by
  have:=congrArg List.length h
  simp at this; omega
 have hti:((q.pos:Int)+(w.length:Int)).toNat=q.pos+w.length:=by omega
 refine rgn [] [[0,1]] ?_
 refine op1 tok ?_
 refine qA (AW.seq ?_)
 refine AW.seqDrawS tok mixed 33 [[0],[5],[6],[7],[8],[0],[10],[11],[12],[9,13],[1],[15],[14,16],[17],[0,18],[19,18],[20,18],[21,18],[0,18],[23,18],[24,18],[25,18],[0,18],[27,18],[28,18],[29,18],[1,18],[31,18],[30,32,18],[22,26,33,18],[1,18],[34,35,18],[18,36]] [] [] (by kernel_rfl) ?_
 iterate 14 refine d1 ?_ (h:=by intro C; conv=>lhs; simp [hti,hsl]) (hv:=by first | with_reducible exact True.intro | (first | omega | (intros; omega); done) | omega | simp | (simp +contextual; omega))
 iterate 18 refine d2 18 rfl rfl ?_ (h:=by intro C; conv=>lhs; simp [hti,hsl]) (hv:=by first | with_reducible exact True.intro | (first | omega | (intros; omega); done) | omega | simp | (simp +contextual; omega))
 refine d1 ?_ (h:=by intro C; conv=>lhs; simp [hti,hsl]) (hv:=by first | with_reducible exact True.intro | (first | omega | (intros; omega); done) | omega | simp | (simp +contextual; omega))
 refine DGo.nil (by kernel_rfl) ⟨by kernel_rfl, ?_⟩
 refine qB.nil ?_
 refine cnd ?_ ?_
 ·intro h37
  try simp at h37
  rw [if_neg (by
   intro h
   have h2:=hln h
   rcases h37 with h' | h'
   ·omega
   exact h' h)]
  refine rgn [] [[]] ?_
  refine op1 tok ?_
  refine qA ?_
  exact AW.ret qV
 intro h37
 try simp at h37
 rw [if_pos h37.2]
 have h2:=hln h37.2
 refine AW.skip (rgn [] [[],[],[],[],[1,38,42],[],[],[38,45],[],[],[48]] ?_)
 iterate 11 refine op1 tok ?_
 refine qA (rgn [] [[]] ?_)
 refine op1 tok ?_
 refine qA ?_
 exact AW.ret qV
theorem zHZ (s:List UInt8) (hs:s.length≤1000000000000):AFn Tryz.prog G 95 [.str s] (.int .i64 (uS s)):=by
 refine AFn.introU tok Tryz.func95 (by kernel_rfl) rfl rfl ?_
 simp only [Tryz.f95,qO,List.map_cons,List.map_nil]
 refine rgn [] [[0]] ?_
 refine op1 tok ?_
 refine qA (AW.seq (rgn [] [[]] ?_))
 refine op1 tok ?_
 refine qA (AW.block ?_)
 refine AW.loop (α:=Nat) (fun i=>uS s=vM s i∧i≤s.length+2) (fun i=>⟨zI 24 [(0,.p (.str s)),(3,.p (.int .i64 i))],[],[],0⟩) (fun i=>s.length+2-i) (1) ⟨qKU s,by omega⟩ ⟨qE (by simp),rfl,by simp,by simp⟩ ?_
 rintro i ⟨hi,hil⟩
 rw [hi]
 refine AW.seq (rgn [] [[],[],[],[0,3,7]] ?_)
 iterate 4 refine op1 tok ?_
 refine qA (cnd ?_ ?_)
 ·intro h7
  try simp at h7
  obtain ⟨c,hc⟩:∃ c,s[i]?=some c:=⟨s[i],by simp [show i<s.length by omega]⟩
  have hst:=qIJ hc
  rw [hst]
  have hcl:=c.toNat_lt
  refine AW.skip (AW.seq (AW.block (AW.seq (rgn [.int .u8 c.toNat] [[],[],[],[0,3,13]] ?_))))
  iterate 4 refine op1 tok ?_ (hv:=by first | with_reducible exact True.intro | (first | exact ⟨by omega,_,hc,rfl⟩ | simp [hc]; done) | omega | simp | (simp +contextual; omega))
  refine qA (cnd ?_ ?_)
  ·intro h13
   try simp at h13
   rw [if_pos (show c=34 from UInt8.toNat_inj.1 (by show c.toNat=34; omega))]
   refine rgn [] [[],[],[2]] ?_
   iterate 3 refine op1 tok ?_
   exact qA (AW.ret qP)
  intro h13
  try simp at h13
  rw [if_neg (show ¬ c=34 by rintro rfl; exact h13 rfl)]
  rw [if_neg (show ¬ c=34 by rintro rfl; exact h13 rfl)] at hst
  refine AW.skip (rgn [.int .u8 c.toNat] [[],[],[],[0,3,19]] ?_)
  iterate 4 refine op1 tok ?_ (hv:=by first | with_reducible exact True.intro | (first | exact ⟨by omega,_,hc,rfl⟩ | simp [hc]; done) | omega | simp | (simp +contextual; omega))
  refine qA (cnd ?_ ?_)
  ·intro h19
   try simp at h19
   rw [if_pos (show c=92 from UInt8.toNat_inj.1 (by show c.toNat=92; omega))]
   rw [if_pos (show c=92 from UInt8.toNat_inj.1 (by show c.toNat=92; omega))] at hst
   refine rgz [] [[],[],[0,3]] ?_
   iterate 3 refine op1 tok ?_
   refine qA (rgz [] [[],[],[0,3]] ?_)
   iterate 3 refine op1 tok ?_
   refine qA ?_
   exact ⟨i+2,⟨rfl,by omega⟩,by omega,qE (by simp [(show (i:Int)+1+1=i+2 by omega)]),rfl,by simp [(show (i:Int)+1+1=i+2 by omega)],by simp [(show (i:Int)+1+1=i+2 by omega)]⟩
  intro h19
  try simp at h19
  rw [if_neg (show ¬ c=92 by rintro rfl; exact h19 rfl)]
  rw [if_neg (show ¬ c=92 by rintro rfl; exact h19 rfl)] at hst
  refine AW.skip (rgz [] [[],[],[0,3]] ?_)
  iterate 3 refine op1 tok ?_
  refine qA ?_
  exact ⟨i+1,⟨rfl,by omega⟩,by omega,qE (by simp),rfl,by simp,by simp⟩
 intro h7
 try simp at h7
 have hend:vM s i=s.length:=by
  unfold vM; split
  ·rw [show i=s.length by omega]; simp [jY]
  rfl
 refine AW.exit ?_
 simp
 refine rgn [] [[],[],[2]] ?_
 iterate 3 refine op1 tok ?_
 refine qA ?_
 exact AW.ret (qP (k:=by simp [hend]))
def qPG (G:qR) (s:List UInt8):Prop:=∀ k,AFn Tryz.prog G 94 [.str (s.drop k)] (.tup [.str (qU (s.drop k)).1,.int .i64 (qU (s.drop k)).2.1,.int .i64 (qU (s.drop k)).2.2])
theorem zMI {s:List UInt8} (hs:s.length≤1000000000):qPG G s:=fun k=>qSB (G:=G) (s.drop k) (by simp; omega)
theorem qLE (s:List UInt8) (q:RQ) (hs:s.length≤1000000000) (hp:q.pos≤s.length) (hU:qPG G s):AX Tryz.prog G 60 [.ptr 2 0] [(2,.vars 70 (rqC s q))] (.p (.str (zF s q).2)) [2] [(2,.vars 70 (rqC s (zF s q).1))]:=by
 refine AX.introU tok 900 Tryz.func60 (by kernel_rfl) rfl rfl ?_
 simp only [Tryz.f60,qO,List.map_cons,List.map_nil]
 have hu:=hU q.pos
 have hpr:=vB (s.drop q.pos)
 have hue:=qIE (s.drop q.pos)
 have hen:=zHZ (G:=G) (s.drop q.pos) (by simp; omega)
 have hsk:=qFR (s.drop q.pos)
 have hq:zF s q=if (qU (s.drop q.pos)).2.2=3 then ({ q with pos:=q.pos+uS (s.drop q.pos),big:=true },[])
  else ({ q with pos:=q.pos+(qU (s.drop q.pos)).2.1,bad:=Bool.or q.bad (decide ((qU (s.drop q.pos)).2.2≠0)) },(qU (s.drop q.pos)).1):=rfl
 rw [hq]
 have hdl:(s.drop q.pos).length≤1000000000:=by simp; omega
 generalize qU (s.drop q.pos)=u at *
 obtain ⟨us,un,ue⟩:=u
 simp only at hu hpr hue ⊢
 refine rgn [] [[0]] ?_
 refine op1 tok ?_
 refine qA ?_
 refine AW.seqDrawS tok mixed 16 [[0],[7],[8],[9],[0],[11],[12],[13],[10,14],[15],[16],[6],[6],[6],[17],[18]] [.nilp,.tup [.str us,.int .i64 un,.int .i64 ue]] [] (by kernel_rfl) ?_
 iterate 16 refine dq1 hu ?_
 refine DGo.nil (by kernel_rfl) ⟨by kernel_rfl, ?_⟩
 refine qB.run [[0,3,4,5]] ?_
 refine op1 tok ?_
 refine qA (AW.seq (rgn [] [[],[0,3,4,5,21]] ?_))
 iterate 2 refine op1 tok ?_
 refine qA (cnd ?_ ?_)
 ·intro h21
  try simp at h21
  rw [if_pos h21]
  refine rgn [] [[],[],[],[0]] ?_
  iterate 4 refine op1 tok ?_
  refine qA ?_
  refine AW.seqDrawS tok mixed 10 [[0],[25],[26],[27],[0],[29],[30],[31],[28,32],[33]] [.nilp,.int .i64 (uS (s.drop q.pos))] [] (by kernel_rfl) ?_
  iterate 10 refine dq1 hen ?_
  refine DGo.nil (by kernel_rfl) ⟨by kernel_rfl, ?_⟩
  refine qB.run [[0,4]] ?_
  refine op1 tok ?_
  refine qA (rgz [] [[]] ?_)
  refine op1 tok ?_
  refine qA (rgn [] [[],[],[],[],[3,4,40,44],[],[],[3,46,47],[],[3]] ?_)
  iterate 10 refine op1 tok ?_
  refine qA (rgn [] [[],[2]] ?_)
  iterate 2 refine op1 tok ?_
  refine qA ?_
  exact AW.ret qV
 intro h21
 try simp at h21
 rw [if_neg h21]
 refine rgn [] [[],[0,3,4,36]] ?_
 iterate 2 refine op1 tok ?_
 refine qA (cnd ?_ ?_)
 ·intro h36
  try simp at h36
  rw [decide_eq_true h36]
  refine rgz [] [[],[],[],[0,3,4]] ?_
  iterate 4 refine op1 tok ?_
  refine qA (rgn [] [[],[],[],[],[3,4,40,44],[],[],[3,46,47],[],[3]] ?_)
  iterate 10 refine op1 tok ?_
  refine qA (rgn [] [[],[2]] ?_)
  iterate 2 refine op1 tok ?_
  refine qA ?_
  exact AW.ret qV
 intro h36
 try simp at h36
 have hd0:decide (ue≠0)=false:=by simp [h36]
 rw [hd0]
 refine AW.skip (rgn [] [[],[],[],[],[3,4,40,44],[],[],[3,46,47],[],[3]] ?_)
 iterate 10 refine op1 tok ?_
 refine qA (rgn [] [[],[2]] ?_)
 iterate 2 refine op1 tok ?_
 refine qA ?_
 exact AW.ret qV
theorem qWJ (c:UInt8):AFn Tryz.prog G 97 [.int .u8 c.toNat] (.bool (zY c)):=by
 refine AFn.introU tok Tryz.func97 (by kernel_rfl) rfl rfl ?_
 simp only [Tryz.f97,qO,List.map_cons,List.map_nil]
 have key:∀ k:Fin 256,zY (UInt8.ofNat k.val)=(((((decide (48≤k.val) && decide (k.val≤57)) || decide (k.val=45)) || decide (k.val=43)) || decide (k.val=46)) || decide (k.val=101) || decide (k.val=69)):=by decide +kernel
 have hk:=key ⟨c.toNat,c.toNat_lt⟩
 simp only [UInt8.ofNat_toNat] at hk
 have e1:decide ((48:Int)≤(c.toNat:Int))=decide (48≤c.toNat):=by rw [decide_eq_decide]; omega
 have e2:decide ((c.toNat:Int)≤57)=decide (c.toNat≤57):=by rw [decide_eq_decide]; omega
 have e3:decide ((c.toNat:Int)=45)=decide (c.toNat=45):=by rw [decide_eq_decide]; omega
 have e4:decide ((c.toNat:Int)=43)=decide (c.toNat=43):=by rw [decide_eq_decide]; omega
 have e5:decide ((c.toNat:Int)=46)=decide (c.toNat=46):=by rw [decide_eq_decide]; omega
 have e6:decide ((c.toNat:Int)=101)=decide (c.toNat=101):=by rw [decide_eq_decide]; omega
 have e7:decide ((c.toNat:Int)=69)=decide (c.toNat=69):=by rw [decide_eq_decide]; omega
 rw [hk]
 refine rgn [] [[0]] ?_
 refine op1 tok ?_
 refine qA (rgn [] [[],[],[],[],[],[0,8],[],[],[],[0,12],[],[],[],[0,16],[],[],[],[0,20],[],[],[],[0,24],[],[],[],[28],[2]] ?_)
 iterate 27 first | refine op1 tok ?_ | refine op2 tok ?_
 refine qA ?_
 exact AW.ret (qP (k:=by (simp [e1,e2,e3,e4,e5,e6,e7,Bool.or_assoc])))
end Go.Proofs.YtlmedakhioiahaaGreatDoor
