import Derived.Test.YtbhhphabggcacaaGreatDoorSPrtB
namespace Go.Proofs.YtbhhphabggcacaaGreatDoor
open Sy Go
set_option maxRecDepth 100000
set_option maxHeartbeats 4000000
set_option linter.unusedSimpArgs false
set_option linter.unusedVariables false
variable {G:qS}
structure WrOK (G:qS) (x:Nd) (ks:List (List UInt8)):Prop where
 len:ks.length=x.kids.length
 few:ks.length≤1000
 con:x.op=2→AFn Tryz.prog G 23 [x.enc] (.str (qBB x))
 jo:x.op=9→AFn Tryz.prog G 24 [.sl 1 (ks.map PD.str),.str []] (.str (Lib.join ks []))∧(Lib.join ks []).length≤100000000
 mem:x.op=10→AFn Tryz.prog G 25 [x.enc,.sl 1 (ks.map PD.str)] (.str (uY x ks))
 cal:x.op=18→∀ key,x.keys[0]?=some key→AFn Tryz.prog G 26 [.str key] (.str (zL key))∧(zL key).length≤1000000
 fil:x.op≠1→x.op≠2→x.op≠3→x.op≠9→x.op≠10→x.op≠18→AFn Tryz.prog G 28 [x.enc] (.str (yQ x))∧AFn Tryz.prog G 27 [.str (yQ x),.sl 1 (ks.map PD.str)] (.str (yM (yQ x) ks))∧(yM (yQ x) ks).length≤100000000
 key:x.op=4→AFn Tryz.prog G 26 [.str x.text] (.str (zL x.text))∧(zL x.text).length≤1000000
 ita:x.op=5→AFn Tryz.prog G 29 [.int .i64 x.n] (.str (Lib.itoa x.n))∧(Lib.itoa x.n).length≤30
 txt:x.text.length≤1000000
theorem qGA (l:List Nd) (p:Nat) (x:Nd) (ks:List (List UInt8)) (hx:l[p]?=some x) (hw:WrOK G x ks) (ih:∀ (i:Nat) k t,x.kids[i]?=some k→ks[i]?=some t→AFn Tryz.prog G 13 [.sl 8 (l.map Nd.enc),.int .i64 k] (.str t)):AFn Tryz.prog G 13 [.sl 8 (l.map Nd.enc),.int .i64 p] (.str (wP x ks)):=by
 refine AFn.introU tok Tryz.func13 (by kernel_rfl) rfl rfl ?_
 simp only [Tryz.f13,qN,List.map_cons,List.map_nil]
 have hlt:=(List.getElem?_eq_some_iff.1 hx).1
 have hln:=hw.len
 have hfw:=hw.few
 have htx:=hw.txt
 have hxe:(l.map Nd.enc)[p]?=some x.enc:=by rw [List.getElem?_map,hx]; rfl
 have hle:(l.map Nd.enc).length=l.length:=by simp
 unfold wP
 generalize l.map Nd.enc=LE at *
 refine rgn [] [[0,1]] ?_
 refine op1 tok ?_
 refine qA (rgn [x.enc] [[],[],[],[0,13],[],[0,5]] ?_)
 iterate 6 refine op1 tok ?_ (hv:=by first | with_reducible exact True.intro | (first | exact hxe | (simp [hxe]; done) | (simp; omega); done) | omega | simp | (simp +contextual; omega))
 refine qA (rgn [] [[]] ?_)
 refine op1 tok ?_
 refine qA (AW.seq (rgn [] [[],[],[],[0,5,6,15,16,17]] ?_))
 iterate 4 refine op1 tok ?_
 refine qA (AW.block ?_)
 refine AW.beginE 6 50 9 1 (by simp) (by simp) (by conv=>lhs; simp) ?_
 refine AW.loop (α:=Nat) (fun k=>k≤ks.length) (fun k=>⟨wL 92 [(0,.p (.sl 8 LE)),(5,.ptr 5 0),(6,.ms 50),(15,.p (.sl 1 (x.kids.map (PD.int .i64)))),(16,.p (.int .i64 x.kids.length)),(17,.p (.int .i64 k))],[],[(5,.vars 36 x.cells),(50,.row 9 1 ((ks.map PD.str).take k))],0⟩) (fun k=>ks.length-k) (0) (by omega) ⟨qH (by simp),rfl,by simp,by simp⟩ ?_
 rintro k hkk
 refine rgn [] [[]] ?_
 refine op1 tok ?_
 refine qA (AW.seq (cnd ?_ ?_))
 ·intro h18
  try simp at h18
  obtain ⟨t,ht⟩:∃ t,ks[k]?=some t:=⟨ks[k]'(by omega),by simp [show k<ks.length by omega]⟩
  obtain ⟨c,hc⟩:∃ c,x.kids[k]?=some c:=⟨x.kids[k]'(by omega),by simp [show k<x.kids.length by omega]⟩
  have hih:=ih k c t hc ht
  have hgp:(ks.map PD.str)[k]?=some (PD.str t):=by rw [List.getElem?_map,ht]; rfl
  have htk:(ks.map PD.str).take k++[PD.str t]=(ks.map PD.str).take (k+1):=by rw [List.take_add_one,hgp]; rfl
  refine AW.skip (AW.seq (AW.block (rgn [.int .i64 c] [[],[],[0,5,6,8,15,16,17]] ?_)))
  iterate 3 refine op1 tok ?_ (hv:=by first | with_reducible exact True.intro | ((simp [hc]); done) | omega | simp | (simp +contextual; omega))
  refine qA (rgz [.nilp,.str t,.str t] [[],[],[],[0,5,15,16,17,21,24],[],[],[0,5,6,15,16,17]] ?_)
  iterate 7 refine oq1 tok hih ?_
  refine qA (rgz [] [[],[0,5,6,15,16,17]] ?_)
  iterate 2 refine op1 tok ?_
  refine qA ?_
  exact ⟨k+1,by omega,by omega,qH (by simp [htk]),rfl,by simp [htk],by simp [htk]⟩
 intro h18
 try simp at h18
 obtain rfl:k=ks.length:=by omega
 have hall:(ks.map PD.str).take ks.length=ks.map PD.str:=List.take_of_length_le (by simp)
 simp only [hall]
 refine AW.exit ?_
 simp
 refine AW.seq (rgn [] [[],[5,6,29]] ?_)
 iterate 2 refine op1 tok ?_
 refine qA (AW.block (rgn [] [[],[5,6,29,30]] ?_))
 iterate 2 refine op1 tok ?_
 refine qA (cnd ?_ ?_)
 ·intro h30
  try simp at h30
  rw [if_pos h30]
  refine rgn [] [[]] ?_
  refine op1 tok ?_
  exact qA (AW.ret qX)
 intro h30
 try simp at h30
 rw [if_neg h30]
 refine rgn [] [[],[5,6,29,32]] ?_
 iterate 2 refine op1 tok ?_
 refine qA (cnd ?_ ?_)
 ·intro h32
  try simp at h32
  rw [if_pos h32]
  have c1:=hw.con h32
  generalize qBB x=C at *
  refine rgn [.nilp,.str C] [[],[],[4]] ?_
  iterate 3 refine op1 tok ?_ (hv:=by first | with_reducible exact True.intro | (first | exact c1 | (simp; exact c1) | (simp at c1 ⊢; exact c1); done) | omega | simp | (simp +contextual; omega))
  exact qA (AW.ret qX)
 intro h32
 try simp at h32
 rw [if_neg h32]
 refine rgn [] [[],[5,6,29,36]] ?_
 iterate 2 refine op1 tok ?_
 refine qA (cnd ?_ ?_)
 ·intro h36
  try simp at h36
  rw [if_pos h36]
  refine rgn [] [[],[],[],[4]] ?_
  iterate 4 refine op1 tok ?_
  exact qA (AW.ret qX)
 intro h36
 try simp at h36
 rw [if_neg h36]
 refine rgn [] [[],[5,6,29,41]] ?_
 iterate 2 refine op1 tok ?_
 refine qA (cnd ?_ ?_)
 ·intro h41
  try simp at h41
  rw [if_pos h41]
  obtain ⟨c1,c2⟩:=hw.jo h41
  generalize Lib.join ks []=J at *
  refine rgn [.nilp,.str J] [[]] ?_
  refine oq1 tok c1 ?_
  refine qD ?_
  refine qB.freeze 50 (by conv=>lhs; simp) ?_
  refine qB.run [[],[],[46],[4]] ?_
  iterate 4 refine oq1 tok c1 ?_
  exact qA (AW.ret qX)
 intro h41
 try simp at h41
 rw [if_neg h41]
 refine rgn [] [[],[5,6,29,47]] ?_
 iterate 2 refine op1 tok ?_
 refine qA (cnd ?_ ?_)
 ·intro h47
  try simp at h47
  rw [if_pos h47]
  have c1:=hw.mem h47
  generalize uY x ks=M at *
  refine rgn [.nilp,.str M] [[],[]] ?_
  iterate 2 refine op1 tok ?_ (hv:=by first | with_reducible exact True.intro | (first | exact c1 | (simp; exact c1) | (simp at c1 ⊢; exact c1); done) | omega | simp | (simp +contextual; omega))
  refine qD ?_
  refine qB.freeze 50 (by conv=>lhs; simp) ?_
  refine qB.run [[51],[4]] ?_
  iterate 2 refine op1 tok ?_ (hv:=by first | with_reducible exact True.intro | (first | exact c1 | (simp; exact c1) | (simp at c1 ⊢; exact c1); done) | omega | simp | (simp +contextual; omega))
  exact qA (AW.ret qX)
 intro h47
 try simp at h47
 rw [if_neg h47]
 refine rgn [] [[],[5,6,52]] ?_
 iterate 2 refine op1 tok ?_
 refine qA (cnd ?_ ?_)
 ·intro h52
  try simp at h52
  rw [if_pos h52]
  refine AW.seq (rgn [] [[],[],[],[5,57]] ?_)
  iterate 4 refine op1 tok ?_
  refine qA (cnd ?_ ?_)
  ·intro h57
   try simp at h57
   rw [if_pos (by omega)]
   obtain ⟨key,hkey⟩:∃ key,x.keys[0]?=some key:=⟨x.keys[0]'(by omega),by simp [show 0<x.keys.length by omega]⟩
   obtain ⟨c1,c2⟩:=hw.cal h52 key hkey
   have hkg:x.keys.getD 0 []=key:=by rw [List.getD_eq_getElem?_getD,hkey]; rfl
   have hkg2:x.keys[0]?.getD []=key:=by rw [hkey]; rfl
   first | rw [hkg] | rw [hkg2] | simp only [hkg2]
   generalize zL key=Q at *
   refine AW.seqDrawS tok mixed 10 [[5],[58],[59],[5],[61],[62],[63],[64],[60,65],[66]] [.str key,.nilp,.str Q] [] (by kernel_rfl) ?_
   iterate 10 refine d1 ?_ (hv:=by first | with_reducible exact True.intro | (first | exact c1 | exact hkey | (simp [hkey]; done) | (simp [hkey]; omega) | omega; done) | omega | simp | (simp +contextual; omega))
   refine DGo.nil (by kernel_rfl) ⟨by kernel_rfl, ?_⟩
   refine qB.run [[4]] ?_
   refine op1 tok ?_
   exact qA (AW.ret qX)
  intro h57
  try simp at h57
  rw [if_neg (by simp [h57])]
  refine AW.skip (rgn [] [[],[],[4]] ?_)
  iterate 3 refine op1 tok ?_
  exact qA (AW.ret qX)
 intro h52
 try simp at h52
 rw [if_neg h52]
 obtain ⟨c1,c2,c3⟩:=hw.fil h30 h32 h36 h41 h47 h52
 generalize yM (yQ x) ks=F at *
 generalize yQ x=P at *
 refine AW.skip (rgn [.nilp,.str P,.nilp,.str F] [[],[]] ?_)
 iterate 2 refine op1 tok ?_ (hv:=by first | with_reducible exact True.intro | (first | exact c1 | exact c2 | (simp; exact c1) | (simp; exact c2) | (simp at c1 ⊢; exact c1); done) | omega | simp | (simp +contextual; omega))
 refine qD ?_
 refine qB.freeze 50 (by conv=>lhs; simp) ?_
 refine qB.run [[],[5,73],[5,9]] ?_
 iterate 3 refine op1 tok ?_ (hv:=by first | with_reducible exact True.intro | (first | exact c1 | exact c2 | (simp; exact c1) | (simp; exact c2) | (simp at c1 ⊢; exact c1); done) | omega | simp | (simp +contextual; omega))
 refine qA (AW.seq (rgn [] [[],[5,9,75]] ?_))
 iterate 2 refine op1 tok ?_
 refine qA (AW.block (rgn [] [[],[5,9,75,76]] ?_))
 iterate 2 refine op1 tok ?_
 refine qA (cnd ?_ ?_)
 ·intro h76
  try simp at h76
  rw [if_pos h76]
  obtain ⟨d1,d2⟩:=hw.key h76
  generalize zL x.text=Q at *
  refine rgz [.nilp,.str Q] [[],[],[],[78,81],[],[9]] ?_
  iterate 6 refine op1 tok ?_ (hv:=by first | with_reducible exact True.intro | (first | exact d1 | omega | (simp; omega); done) | omega | simp | (simp +contextual; omega))
  refine qA (rgn [] [[],[4]] ?_)
  iterate 2 refine op1 tok ?_
  exact qA (AW.ret qX)
 intro h76
 try simp at h76
 rw [if_neg h76]
 refine rgn [] [[],[5,9,83]] ?_
 iterate 2 refine op1 tok ?_
 refine qA (cnd ?_ ?_)
 ·intro h83
  try simp at h83
  rw [if_pos h83]
  obtain ⟨d1,d2⟩:=hw.ita h83
  generalize Lib.itoa x.n=I at *
  refine rgz [.nilp,.str I] [[],[],[],[85,88],[],[],[9]] ?_
  iterate 7 refine op1 tok ?_ (hv:=by first | with_reducible exact True.intro | (first | exact d1 | omega | (simp; omega); done) | omega | simp | (simp +contextual; omega))
  refine qA (rgn [] [[],[4]] ?_)
  iterate 2 refine op1 tok ?_
  exact qA (AW.ret qX)
 intro h83
 try simp at h83
 rw [if_neg h83]
 refine AW.skip (rgn [] [[],[4]] ?_)
 iterate 2 refine op1 tok ?_
 exact qA (AW.ret qX)
theorem qJI (l:List Nd) (t:List UInt8) (hl:0<l.length) (hl2:l.length≤100000) (hw:AFn Tryz.prog G 13 [.sl 8 (l.map Nd.enc),.int .i64 (l.length-1:Nat)] (.str t)):AFn Tryz.prog G 8 [.sl 8 (l.map Nd.enc)] (.str t):=by
 refine AFn.introU tok Tryz.func8 (by kernel_rfl) rfl rfl ?_
 simp only [Tryz.f8,qN,List.map_cons,List.map_nil]
 have hc:((l.length:Nat):Int)-1=((l.length-1:Nat):Int):=by omega
 have hle:(l.map Nd.enc).length=l.length:=by simp
 generalize l.map Nd.enc=LE at *
 refine rgn [] [[0]] ?_
 refine op1 tok ?_
 refine qA (rgn [.nilp,.str t] [[],[],[],[],[7],[2]] ?_)
 iterate 6 refine op1 tok ?_ (h:=by intro C; conv=>lhs; simp [hle,hc]) (hv:=by first | with_reducible exact True.intro | (first | exact hw | (simp [hle,hc]; exact hw) | omega | (simp; omega); done) | omega | simp | (simp +contextual; omega))
 exact qA (AW.ret qX)
end Go.Proofs.YtbhhphabggcacaaGreatDoor
