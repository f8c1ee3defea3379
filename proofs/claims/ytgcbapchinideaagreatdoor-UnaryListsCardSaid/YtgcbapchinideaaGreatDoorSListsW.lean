import Derived.Test.YtgcbapchinideaaGreatDoorSListsU
namespace Go.Proofs.YtgcbapchinideaaGreatDoor
open Sy Go
set_option maxRecDepth 100000
set_option maxHeartbeats 4000000
set_option linter.unusedSimpArgs false
set_option linter.unusedVariables false
variable {G:qK}
theorem qKU (l:List Item) (hl:∀ x∈l,x.keys.length≤140737488351232) (hi:∀ x∈l,InM x.mask):AFn Tryz.prog G 5 [.sl 6 (l.map Item.enc)] (.bool true):=by
 refine AFn.introU tok Tryz.func5 (by kernel_rfl) rfl rfl ?_
 simp only [Tryz.f5,qH,List.map_cons,List.map_nil]
 have hsh:=qRW (G:=G)
 have hbl:=zBR (G:=G) l hl
 have mv:=qXR l
 have iv:=zAZ hi
 have hz:=zAY l
 generalize jV l=v at *
 have hvk:=(xZ mv).2
 have hsame:=qRZ (G:=G) v mv v
 rw [qLD] at hsame
 simp only [Val.enc_def] at hbl hsame
 refine rgn [] [[0]] ?_
 refine op1 tok ?_
 refine qA (rgn [.nilp,.bool true] [[],[0,3]] ?_)
 iterate 2 refine oq1 tok hsh ?_
 refine qA (rgn [.nilp,v.enc] [[],[],[],[3,4]] ?_)
 iterate 4 refine oq1 tok hbl ?_
 refine qA (AW.seq (rgn [] [[],[],[3,4,20]] ?_))
 iterate 3 refine op1 tok ?_
 refine qA (cnd ?_ ?_)
 ·intro h20
  try simp at h20
  refine rgn [] [[],[2]] ?_
  iterate 2 refine op1 tok ?_
  exact qA (AW.ret qG)
 intro h20
 try simp at h20
 have h6:v.kind=6:=by simpa using h20
 obtain ⟨s,u,r,lo,hi,⟨cs,cu,cr,cr2,cl,ch,css,ss,sl,ul,up,sm,um,sa,ua,no,lm,hm⟩⟩:=qQA (G:=G) v mv iv hz h6
 simp only [Val.enc_def] at cs cu cr cr2 cl ch css ss
 refine AW.skip (rgn [.nilp,s.enc] [[],[],[],[3,4,5]] ?_)
 iterate 4 refine oq1 tok cs ?_
 refine qA (rgn [.nilp,u.enc] [[],[],[],[3,4,5,6]] ?_)
 iterate 4 refine oq1 tok cu ?_
 refine qA (rgn [.nilp,r.enc,.nilp,v.enc] [[],[],[],[],[3,4,5,6,7]] ?_)
 iterate 5 refine op1 tok ?_ (hv:=by first | with_reducible exact True.intro | (exact ⟨cr,cr2⟩; done) | omega | simp | (simp +contextual; omega))
 refine qA (rgn [.nilp,lo.enc] [[],[],[],[3,4,5,6,7,8]] ?_)
 iterate 4 refine oq1 tok cl ?_
 refine qA (rgn [.nilp,hi.enc] [[],[],[],[3,4,5,6,7,8,9]] ?_)
 iterate 4 refine oq1 tok ch ?_
 refine qA (rgn [.nilp,.bool true] [[],[],[],[3,4,5,6,8,9,10]] ?_)
 iterate 4 refine oq1 tok hsame ?_
 refine qA ?_
 refine AW.seqDrawS tok mixed 4 [[5],[36],[5],[37,38]] [.nilp,s.enc,.nilp,.bool true] [] (by kernel_rfl) ?_
 iterate 4 refine dq1 (ai css ss) ?_
 refine DGo.nil (by kernel_rfl) ⟨by kernel_rfl, ?_⟩
 refine qF.run [[3,4,5,6,8,9,10,11]] ?_
 refine op1 tok ?_
 refine qA (AW.seq (rgn [] [[],[],[],[],[],[3,4,5,6,8,9,10,11,42,45],[],[],[],[3,4,5,6,8,9,10,11,47,49],[],[],[],[3,5,6,8,9,10,11,47,50,53],[],[3,5,6,8,9,10,11,55],[],[],[],[3,5,6,8,9,11,59],[],[],[],[3,5,6,8,9,63]] ?_))
 iterate 24 first | refine op1 tok ?_ (hv:=by first | with_reducible exact True.intro | ((intros; first | trivial | omega | grind); done) | omega | simp | (simp +contextual; omega)) | refine op2 tok ?_ (hv:=by first | with_reducible exact True.intro | ((intros; first | trivial | omega | grind); done) | omega | simp | (simp +contextual; omega))
 refine qA (cnd ?_ ?_)
 ·intro h63
  try simp at h63
  omega
 intro h63
 try simp at h63
 refine AW.skip (AW.seq (rgn [] [[]] ?_))
 refine op1 tok ?_
 refine qA (AW.block ?_)
 refine AW.loop (α:=Nat) (fun k=>1≤k) (fun k=>⟨qS 147 [(3,.p (.bool true)),(5,.ptr 5 0),(6,.ptr 6 0),(8,.ptr 8 0),(9,.ptr 9 0),(12,.p (.int .i64 k))],[],[(5,.vars 31 s.cells),(6,.vars 31 u.cells),(8,.vars 31 lo.cells),(9,.vars 31 hi.cells)],0⟩) (fun k=>s.kids.length-k) (1) (Nat.le_refl _) ⟨qB (by simp),rfl,by simp,by simp⟩ ?_
 rintro k hk
 refine AW.seq (rgn [] [[],[],[],[],[3,5,6,8,9,12,68]] ?_)
 iterate 5 refine op1 tok ?_
 refine qA (cnd ?_ ?_)
 ·intro h68
  try simp at h68
  obtain ⟨a,ha⟩:∃ a,s.kids[k-1]?=some a:=⟨s.kids[k-1]'(by omega),by simp [show k-1<s.kids.length by omega]⟩
  obtain ⟨b,hb⟩:∃ a,s.kids[k]?=some a:=⟨s.kids[k]'(by omega),by simp [show k<s.kids.length by omega]⟩
  have hab:=sa (k-1) a b ha (by rw [show k-1+1=k by omega]; exact hb)
  have hc:=qCM (G:=G) a b (sm a (List.mem_of_getElem? ha)) (sm b (List.mem_of_getElem? hb))
  have g1:(s.kids.map Val.enc)[k-1]?=some a.enc:=by rw [List.getElem?_map,ha]; rfl
  have g2:(s.kids.map Val.enc)[k]?=some b.enc:=by rw [List.getElem?_map,hb]; rfl
  have hzt:((k:Int)-1).toNat=k-1:=by omega
  simp only [Val.enc_def] at hc
  refine AW.skip (AW.seq (AW.block ?_))
  refine AW.seqDrawS tok mixed 13 [[5],[71],[12],[73],[72,74],[75],[5],[77],[12],[78,79],[80],[76,81],[82]] [a.enc,b.enc,.nilp,.int .i64 (zD a b)] [] (by kernel_rfl) ?_
  iterate 13 refine d1 ?_ (hv:=by first | with_reducible exact True.intro | (first | exact hc | (refine ⟨by omega, ?_⟩; rw [hzt]; exact ⟨a,ha,rfl,rfl,rfl,rfl,rfl,rfl,rfl,rfl,rfl⟩) | (simp [hzt,ha]; done) | (simp [hzt,ha]; omega) | (simp [hb]; done); done) | omega | simp | (simp +contextual; omega))
  refine DGo.nil (by kernel_rfl) ⟨by kernel_rfl, ?_⟩
  refine qF.nil ?_
  refine cnd ?_ ?_
  ·intro h83
   try simp at h83
   omega
  intro h83
  try simp at h83
  refine AW.skip (rgz [] [[],[],[3,5,6,8,9,12]] ?_)
  iterate 3 refine op1 tok ?_
  refine qA ?_
  exact ⟨k+1,by omega,by omega,qB (by simp),rfl,by simp,by simp⟩
 intro h68
 try simp at h68
 skip
 refine AW.exit ?_
 simp
 refine AW.seq (rgn [] [[]] ?_)
 refine op1 tok ?_
 refine qA (AW.block ?_)
 refine AW.loop (α:=Nat) (fun k=>1≤k) (fun k=>⟨qS 147 [(3,.p (.bool true)),(5,.ptr 5 0),(6,.ptr 6 0),(8,.ptr 8 0),(9,.ptr 9 0),(13,.p (.int .i64 k))],[],[(5,.vars 31 s.cells),(6,.vars 31 u.cells),(8,.vars 31 lo.cells),(9,.vars 31 hi.cells)],0⟩) (fun k=>u.kids.length-k) (1) (Nat.le_refl _) ⟨qB (by simp),rfl,by simp,by simp⟩ ?_
 rintro k hk
 refine AW.seq (rgn [] [[],[],[],[],[3,5,6,8,9,13,88]] ?_)
 iterate 5 refine op1 tok ?_
 refine qA (cnd ?_ ?_)
 ·intro h88
  try simp at h88
  obtain ⟨a,ha⟩:∃ a,u.kids[k-1]?=some a:=⟨u.kids[k-1]'(by omega),by simp [show k-1<u.kids.length by omega]⟩
  obtain ⟨b,hb⟩:∃ a,u.kids[k]?=some a:=⟨u.kids[k]'(by omega),by simp [show k<u.kids.length by omega]⟩
  have hab:=ua (k-1) a b ha (by rw [show k-1+1=k by omega]; exact hb)
  have hc:=qCM (G:=G) a b (um a (List.mem_of_getElem? ha)) (um b (List.mem_of_getElem? hb))
  have hzt:((k:Int)-1).toNat=k-1:=by omega
  simp only [Val.enc_def] at hc
  refine AW.skip (AW.seq (AW.block ?_))
  refine AW.seqDrawS tok mixed 13 [[6],[91],[13],[93],[92,94],[95],[6],[97],[13],[98,99],[100],[96,101],[102]] [a.enc,b.enc,.nilp,.int .i64 (zD a b)] [] (by kernel_rfl) ?_
  iterate 13 refine d1 ?_ (hv:=by first | with_reducible exact True.intro | (first | exact hc | (refine ⟨by omega, ?_⟩; rw [hzt]; exact ⟨a,ha,rfl,rfl,rfl,rfl,rfl,rfl,rfl,rfl,rfl⟩) | (simp [hzt,ha]; done) | (simp [hzt,ha]; omega) | (simp [hb]; done); done) | omega | simp | (simp +contextual; omega))
  refine DGo.nil (by kernel_rfl) ⟨by kernel_rfl, ?_⟩
  refine qF.nil ?_
  refine cnd ?_ ?_
  ·intro h103
   try simp at h103
   omega
  intro h103
  try simp at h103
  refine AW.skip (rgz [] [[],[],[3,5,6,8,9,13]] ?_)
  iterate 3 refine op1 tok ?_
  refine qA ?_
  exact ⟨k+1,by omega,by omega,qB (by simp),rfl,by simp,by simp⟩
 intro h88
 try simp at h88
 refine AW.exit ?_
 simp
 refine rgn [] [[],[],[],[3,5,6,8,9,14]] ?_
 iterate 4 refine op1 tok ?_
 refine qA (AW.seq (rgn [] [[],[3,5,6,8,9,14,108]] ?_))
 iterate 2 refine op1 tok ?_
 refine qA (cnd ?_ ?_)
 ·intro h108
  try simp at h108
  have h108':s.kids.length=0:=by simpa using h108
  have hno:=no (by omega)
  obtain ⟨n1,n2⟩:=hno
  refine rgn [] [[],[],[],[9,110,112],[],[],[9,115],[],[],[],[119],[2]] ?_
  iterate 12 first | refine op1 tok ?_ | refine op2 tok ?_
  refine qA ?_
  exact AW.ret (qG (k:=by (simp [n1,n2])))
 intro h108
 try simp at h108
 have h108':0<s.kids.length:=by
  rcases Nat.eq_zero_or_pos s.kids.length with h | h
  ·exact absurd (by simpa using h) h108
  exact h
 obtain ⟨a,ha⟩:∃ a,s.kids[0]?=some a:=⟨s.kids[0]'(by omega),by simp [show 0<s.kids.length by omega]⟩
 obtain ⟨b,hb⟩:∃ a,s.kids[s.kids.length-1]?=some a:=⟨s.kids[s.kids.length-1]'(by omega),by simp [show s.kids.length-1<s.kids.length by omega]⟩
 obtain ⟨m1,z1⟩:=lm a ha
 obtain ⟨m2,z2⟩:=hm b hb
 have hc1:=qCM (G:=G) lo a m1 (sm a (List.mem_of_getElem? ha))
 have hc2:=qCM (G:=G) hi b m2 (sm b (List.mem_of_getElem? hb))
 rw [z1] at hc1
 rw [z2] at hc2
 have hup:=up (by omega)
 have hzt:((s.kids.length:Int)-1).toNat=s.kids.length-1:=by omega
 simp only [Val.enc_def] at hc1 hc2
 refine AW.skip ?_
 refine AW.seqDrawS tok mixed 27 [[3],[120],[8,121],[5,121],[123,121],[124,121],[125,121],[122,126,121],[127,121],[121,128],[129],[9,130],[5,130],[132,130],[14,130],[134,130],[133,135,130],[136,130],[131,137,130],[138,130],[130,139],[140],[6,141],[142,141],[143,141],[144,141],[141,145]] [a.enc,.nilp,.int .i64 0,b.enc,.nilp,.int .i64 0] [] (by kernel_rfl) ?_
 iterate 2 refine d1 ?_ (hv:=by first | with_reducible exact True.intro | (first | exact hc1 | exact hc2 | (simp [ha]; done) | (intro g; first | exact hc1 | exact hc2 | (refine ⟨by omega, ?_⟩; rw [hzt]; exact ⟨b,hb,rfl,rfl,rfl,rfl,rfl,rfl,rfl,rfl,rfl⟩) | (simp [ha]; done) | (simp [hzt,hb]; done) | (simp [hzt,hb]; omega)) | (simp [hzt,hb]; done) | (simp [hzt,hb]; omega); done) | omega | simp | (simp +contextual; omega))
 iterate 7 refine d2 121 rfl rfl ?_ (hv:=by first | with_reducible exact True.intro | (first | exact hc1 | exact hc2 | (simp [ha]; done) | (intro g; first | exact hc1 | exact hc2 | (refine ⟨by omega, ?_⟩; rw [hzt]; exact ⟨b,hb,rfl,rfl,rfl,rfl,rfl,rfl,rfl,rfl,rfl⟩) | (simp [ha]; done) | (simp [hzt,hb]; done) | (simp [hzt,hb]; omega)) | (simp [hzt,hb]; done) | (simp [hzt,hb]; omega); done) | omega | simp | (simp +contextual; omega))
 iterate 2 refine d1 ?_ (hv:=by first | with_reducible exact True.intro | (first | exact hc1 | exact hc2 | (simp [ha]; done) | (intro g; first | exact hc1 | exact hc2 | (refine ⟨by omega, ?_⟩; rw [hzt]; exact ⟨b,hb,rfl,rfl,rfl,rfl,rfl,rfl,rfl,rfl,rfl⟩) | (simp [ha]; done) | (simp [hzt,hb]; done) | (simp [hzt,hb]; omega)) | (simp [hzt,hb]; done) | (simp [hzt,hb]; omega); done) | omega | simp | (simp +contextual; omega))
 iterate 9 refine d2 130 rfl rfl ?_ (hv:=by first | with_reducible exact True.intro | (first | exact hc1 | exact hc2 | (simp [ha]; done) | (intro g; first | exact hc1 | exact hc2 | (refine ⟨by omega, ?_⟩; rw [hzt]; exact ⟨b,hb,rfl,rfl,rfl,rfl,rfl,rfl,rfl,rfl,rfl⟩) | (simp [ha]; done) | (simp [hzt,hb]; done) | (simp [hzt,hb]; omega)) | (simp [hzt,hb]; done) | (simp [hzt,hb]; omega); done) | omega | simp | (simp +contextual; omega))
 iterate 2 refine d1 ?_ (hv:=by first | with_reducible exact True.intro | (first | exact hc1 | exact hc2 | (simp [ha]; done) | (intro g; first | exact hc1 | exact hc2 | (refine ⟨by omega, ?_⟩; rw [hzt]; exact ⟨b,hb,rfl,rfl,rfl,rfl,rfl,rfl,rfl,rfl,rfl⟩) | (simp [ha]; done) | (simp [hzt,hb]; done) | (simp [hzt,hb]; omega)) | (simp [hzt,hb]; done) | (simp [hzt,hb]; omega); done) | omega | simp | (simp +contextual; omega))
 iterate 4 refine d2 141 rfl rfl ?_ (hv:=by first | with_reducible exact True.intro | (first | exact hc1 | exact hc2 | (simp [ha]; done) | (intro g; first | exact hc1 | exact hc2 | (refine ⟨by omega, ?_⟩; rw [hzt]; exact ⟨b,hb,rfl,rfl,rfl,rfl,rfl,rfl,rfl,rfl,rfl⟩) | (simp [ha]; done) | (simp [hzt,hb]; done) | (simp [hzt,hb]; omega)) | (simp [hzt,hb]; done) | (simp [hzt,hb]; omega); done) | omega | simp | (simp +contextual; omega))
 refine d1 ?_ (hv:=by first | with_reducible exact True.intro | (first | exact hc1 | exact hc2 | (simp [ha]; done) | (intro g; first | exact hc1 | exact hc2 | (refine ⟨by omega, ?_⟩; rw [hzt]; exact ⟨b,hb,rfl,rfl,rfl,rfl,rfl,rfl,rfl,rfl,rfl⟩) | (simp [ha]; done) | (simp [hzt,hb]; done) | (simp [hzt,hb]; omega)) | (simp [hzt,hb]; done) | (simp [hzt,hb]; omega); done) | omega | simp | (simp +contextual; omega))
 refine DGo.nil (by kernel_rfl) ⟨by kernel_rfl, ?_⟩
 refine qF.run [[2]] ?_
 refine op1 tok ?_
 refine qA ?_
 exact AW.ret (qG (k:=by (simp; omega)))
end Go.Proofs.YtgcbapchinideaaGreatDoor
