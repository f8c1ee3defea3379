import Derived.Test.YtdojfdaglbphlaaGreatDoorSRef14A
import Derived.Test.YtdojfdaglbphlaaGreatDoorSMerge14L
namespace Go.Proofs.YtdojfdaglbphlaaGreatDoor
open Sy Go
set_option maxRecDepth 100000
set_option maxHeartbeats 4000000
set_option linter.unusedSimpArgs false
set_option linter.unusedVariables false
variable {G:qR}
def qKM (a b:Val) (m:Int):Val:=if 200<(wU b b.keys.length a.keys a.kids).2.length then wQ 3 m else .mk 7 m dc0 [] (wU b b.keys.length a.keys a.kids).1 (wU b b.keys.length a.keys a.kids).2 0
def thB (a:Val) (key:List UInt8) (i:Nat):Bool:=(a.keys.take i).any fun x=>decide (x=key)
theorem zLC {a:Val} {key x:List UInt8} {i:Nat} (hx:a.keys[i]?=some x):thB a key (i+1)=(thB a key i || decide (x=key)):=by
 unfold thB; rw [List.take_add_one,hx,List.any_append]; simp
theorem zPT (a:Val) (key:List UInt8):thB a key a.keys.length=true↔key∈a.keys:=by
 unfold thB; rw [List.take_length,List.any_eq_true]
 constructor
 ·rintro ⟨x,hx,e⟩; rw [← of_decide_eq_true e]; exact hx
 exact fun h=>⟨key,h,by simp⟩
theorem zCZ (a b:Val) (m:Int) (hsa:a.kids.length≤1000000) (hsb:b.kids.length≤1000000) (hla:a.keys.length=a.kids.length) (hlb:b.keys.length=b.kids.length) (hna:a.keys.Nodup) (hnb:b.keys.Nodup):AFn Tryz.prog G 111 [a.enc,b.enc,.int .u64 m] ((qKM a b m).enc):=by
 refine AFn.introU tok Tryz.func111 (by kernel_rfl) rfl rfl ?_
 simp only [Tryz.f111,qI,List.map_cons,List.map_nil]
 have hmg:=zFH (b:=b) hla hna hnb b.keys.length (Nat.le_refl _)
 have hol:=qOK b hla b.keys.length
 have hnl:=qKJ b a.keys b.keys.length
 have hf:=vJ (G:=G) 3 m
 simp only [Val.enc_def] at hf
 have hR:qKM a b m=if 200<(qAB b a.keys a.kids b.keys.length++qCE b a.keys b.keys.length).length then wQ 3 m else .mk 7 m dc0 [] (a.keys++qCF b a.keys b.keys.length) (qAB b a.keys a.kids b.keys.length++qCE b a.keys b.keys.length) 0:=by
  unfold qKM; rw [hmg]
 rw [hR]
 refine rgn [] [[],[],[2,3,4,6]] ?_
 iterate 3 refine op1 tok ?_
 refine qA (rgn [] [[],[],[],[2,3,4,6,7]] ?_)
 iterate 4 refine op1 tok ?_
 refine qA (AW.seq (rgn [] [[]] ?_))
 refine op1 tok ?_
 refine qA (AW.block ?_)
 refine AW.beginBox 7 800 6 9 1 (by simp; exact ⟨rfl,rfl⟩) (by simp) (by simp) (by conv=>lhs; simp) ?_; refine AW.beginBox 7 801 7 31 9 (by simp; exact ⟨rfl,rfl⟩) (by simp) (by simp) (by conv=>lhs; simp) ?_
 refine AW.loop (α:=Nat) (fun k=>k≤a.keys.length) (fun k=>⟨qV 124 [(2,.p (.int .u64 m)),(3,.ptr 3 0),(4,.ptr 4 0),(6,.ptr 6 0),(7,.ptr 7 0),(8,.p (.int .i64 k))],[],[(3,.vars 31 a.cells),(4,.vars 31 b.cells),(6,.vars 31 [.p (.int .i64 0),.p (.int .u64 0),.p (.bool false),.p (.str []),.p (.int .i64 0),.p (.str []),.nilsl,.nilsl,.p (.int .i64 0)]),(7,.vars 31 [.p (.int .i64 7),.p (.int .u64 m),.p (.bool false),.p (.str []),.p (.int .i64 0),.p (.str []),.ms 800,.ms 801,.p (.int .i64 0)]),(800,.row 9 1 ((a.keys.take k).map PD.str)),(801,.row 31 9 (((qAB b a.keys a.kids b.keys.length).take k).map Val.enc))],0⟩) (fun k=>a.keys.length-k) (0) (by omega) ⟨qB (by simp),rfl,by simp,by simp⟩ ?_
 rintro k hk
 refine AW.seq (rgn [] [[],[],[],[],[2,3,4,6,7,8,20]] ?_)
 iterate 5 refine op1 tok ?_
 refine qA (cnd ?_ ?_)
 ·intro h20
  try simp at h20
  obtain ⟨key,hkey⟩:∃ x,a.keys[k]?=some x:=⟨a.keys[k],by simp [h20]⟩
  obtain ⟨z,hz⟩:∃ x,a.kids[k]?=some x:=⟨a.kids[k]'(by omega),List.getElem?_eq_getElem _⟩
  have hoz:(qAB b a.keys a.kids b.keys.length)[k]?=some (qHN b key z b.keys.length):=by
   unfold qAB; rw [List.getElem?_map,List.getElem?_zip_eq_some (z:=(key,z)) |>.2 ⟨hkey,hz⟩]; rfl
  have t1:(a.keys.map PD.str).take (k+1)=(a.keys.map PD.str).take k++[PD.str key]:=by rw [List.take_add_one,List.getElem?_map,hkey]; rfl
  have t2:((qAB b a.keys a.kids b.keys.length).map Val.enc).take (k+1)=((qAB b a.keys a.kids b.keys.length).map Val.enc).take k++[(qHN b key z b.keys.length).enc]:=by rw [List.take_add_one,List.getElem?_map,hoz]; rfl
  refine AW.skip (AW.seq (AW.block (rgn [z.enc] [[],[],[],[],[2,3,4,6,7,8,27],[],[2,3,4,6,7,8,9]] ?_)))
  iterate 7 refine op1 tok ?_ (hv:=by first | with_reducible exact True.intro | (first | (simp [hz]; done) | (simp [hz]; omega); done) | omega | simp | (simp +contextual; omega))
  refine qA (AW.seq (rgn [] [[]] ?_))
  refine op1 tok ?_
  refine qA (AW.block ?_)
  refine AW.loop (α:=Nat) (fun j=>j≤b.keys.length) (fun j=>⟨qV 124 [(2,.p (.int .u64 m)),(3,.ptr 3 0),(4,.ptr 4 0),(6,.ptr 6 0),(7,.ptr 7 0),(8,.p (.int .i64 k)),(9,.ptr 9 0),(10,.p (.int .i64 j))],[],[(3,.vars 31 a.cells),(4,.vars 31 b.cells),(6,.vars 31 [.p (.int .i64 0),.p (.int .u64 0),.p (.bool false),.p (.str []),.p (.int .i64 0),.p (.str []),.nilsl,.nilsl,.p (.int .i64 0)]),(7,.vars 31 [.p (.int .i64 7),.p (.int .u64 m),.p (.bool false),.p (.str []),.p (.int .i64 0),.p (.str []),.ms 800,.ms 801,.p (.int .i64 0)]),(800,.row 9 1 ((a.keys.take k).map PD.str)),(801,.row 31 9 (((qAB b a.keys a.kids b.keys.length).take k).map Val.enc)),(9,.vars 31 (qHN b key z j).cells)],0⟩) (fun j=>b.keys.length-j) (0) (by omega) ⟨qB (by simp [qHN]),by simp,by simp [qHN],by simp⟩ ?_
  rintro j hj
  refine AW.seq (rgn [] [[],[],[],[],[2,3,4,6,7,8,9,10,32]] ?_)
  iterate 5 refine op1 tok ?_
  refine qA (cnd ?_ ?_)
  ·intro h32
   try simp at h32
   obtain ⟨kb,hkb⟩:∃ x,b.keys[j]?=some x:=⟨b.keys[j],by simp [h32]⟩
   obtain ⟨vb,hvb⟩:∃ x,b.kids[j]?=some x:=⟨b.kids[j]'(by omega),List.getElem?_eq_getElem _⟩
   have hst:qHN b key z (j+1)=if kb=key then vb else qHN b key z j:=by simp only [qHN,List.getD_eq_getElem?_getD,hkb,hvb,Option.getD_some]
   generalize qHN b key z j=W at *
   refine AW.skip (AW.seq (AW.block ?_))
   refine AW.seqDrawS tok mixed 11 [[4],[35],[10],[36,37],[38],[3],[40],[8],[41,42],[43],[39,44]] [.str kb,.str key] [] (by kernel_rfl) ?_
   iterate 11 refine d1 ?_ (hv:=by first | with_reducible exact True.intro | (first | (simp [hkb]; done) | (simp [hkey]; done); done) | omega | simp | (simp +contextual; omega))
   refine DGo.nil (by kernel_rfl) ⟨by kernel_rfl, ?_⟩
   refine qC.nil ?_
   refine cnd ?_ ?_
   ·intro h45
    try simp at h45
    rw [if_pos h45] at hst
    refine rgz [vb.enc] [[],[],[],[],[2,3,4,6,7,8,9,10,50],[2,3,4,6,7,8,9,10]] ?_
    iterate 6 refine op1 tok ?_ (hv:=by first | with_reducible exact True.intro | (first | (simp [hvb]; done) | (simp [hvb]; omega); done) | omega | simp | (simp +contextual; omega))
    refine qA (rgz [] [[],[],[2,3,4,6,7,8,9,10]] ?_)
    iterate 3 refine op1 tok ?_
    refine qA ?_
    exact ⟨j+1,by omega,by omega,qB (by simp [hst]),rfl,by simp [hst],by simp [hst]⟩
   intro h45
   try simp at h45
   rw [if_neg h45] at hst
   refine AW.skip (rgz [] [[],[],[2,3,4,6,7,8,9,10]] ?_)
   iterate 3 refine op1 tok ?_
   refine qA ?_
   exact ⟨j+1,by omega,by omega,qB (by simp [hst]),rfl,by simp [hst],by simp [hst]⟩
  intro h32
  try simp at h32
  obtain rfl:j=b.keys.length:=by omega
  generalize qHN b key z b.keys.length=W at *
  refine AW.exit ?_
  simp
  refine AW.seqDrawS tok mixed 9 [[7],[51],[3],[53],[8],[54,55],[56],[57],[52,58]] [.str key,.str key] [] (by kernel_rfl) ?_
  iterate 9 refine d1 ?_ (hv:=by first | with_reducible exact True.intro | (first | (simp [hkey]; done) | (simp; omega); done) | omega | simp | (simp +contextual; omega))
  refine DGo.nil (by kernel_rfl) ⟨by kernel_rfl, ?_⟩
  refine qC.run [[],[2,3,4,6,7,8,9]] ?_
  iterate 2 refine op1 tok ?_
  refine qA ?_
  refine AW.renE 59 800 (by simp) (by conv=>lhs; simp) ?_
  refine rgz [W.enc,W.enc] [[],[],[],[],[2,3,4,6,7,8,65],[],[2,3,4,6,7,8]] ?_
  iterate 7 refine op1 tok ?_ (hv:=by first | with_reducible exact True.intro | (first | (simp; done) | (simp; omega); done) | omega | simp | (simp +contextual; omega))
  refine qA (rgz [] [[],[],[2,3,4,6,7,8]] ?_)
  iterate 3 refine op1 tok ?_
  refine qA ?_
  exact ⟨k+1,by omega,by omega,qB (by simp [t1,t2]),rfl,by simp [t1,t2],by simp [t1,t2]⟩
 intro h20
 try simp at h20
 obtain rfl:k=a.keys.length:=by omega
 have u1:(a.keys.map PD.str).take a.keys.length=a.keys.map PD.str:=List.take_of_length_le (by simp)
 have u2:((qAB b a.keys a.kids b.keys.length).map Val.enc).take a.keys.length=(qAB b a.keys a.kids b.keys.length).map Val.enc:=List.take_of_length_le (by simp [hol])
 refine AW.exit ?_
 simp
 refine AW.seq (rgn [] [[]] ?_)
 refine op1 tok ?_
 refine qA (AW.block ?_)
 refine AW.loop (α:=Nat) (fun j=>j≤b.keys.length) (fun j=>⟨qV 124 [(2,.p (.int .u64 m)),(3,.ptr 3 0),(4,.ptr 4 0),(6,.ptr 6 0),(7,.ptr 7 0),(11,.p (.int .i64 j))],[],[(3,.vars 31 a.cells),(4,.vars 31 b.cells),(6,.vars 31 [.p (.int .i64 0),.p (.int .u64 0),.p (.bool false),.p (.str []),.p (.int .i64 0),.p (.str []),.nilsl,.nilsl,.p (.int .i64 0)]),(7,.vars 31 [.p (.int .i64 7),.p (.int .u64 m),.p (.bool false),.p (.str []),.p (.int .i64 0),.p (.str []),.ms 800,.ms 801,.p (.int .i64 0)]),(800,.row 9 1 (a.keys.map PD.str++(qCF b a.keys j).map PD.str)),(801,.row 31 9 ((qAB b a.keys a.kids b.keys.length).map Val.enc++(qCE b a.keys j).map Val.enc))],0⟩) (fun j=>b.keys.length-j) (0) (by omega) ⟨qB (by simp),rfl,by simp [qCF,qCE,u1,u2],by simp⟩ ?_
 rintro j hj
 have hnj:=qKJ b a.keys j
 refine AW.seq (rgn [] [[],[],[],[],[2,3,4,6,7,11,71]] ?_)
 iterate 5 refine op1 tok ?_
 refine qA (cnd ?_ ?_)
 ·intro h71
  try simp at h71
  obtain ⟨kb,hkb⟩:∃ x,b.keys[j]?=some x:=⟨b.keys[j],by simp [h71]⟩
  obtain ⟨vb,hvb⟩:∃ x,b.kids[j]?=some x:=⟨b.kids[j]'(by omega),List.getElem?_eq_getElem _⟩
  have n1:qCF b a.keys (j+1)=if kb∈a.keys then qCF b a.keys j else qCF b a.keys j++[kb]:=by simp only [qCF,List.getD_eq_getElem?_getD,hkb,Option.getD_some]
  have n2:qCE b a.keys (j+1)=if kb∈a.keys then qCE b a.keys j else qCE b a.keys j++[vb]:=by simp only [qCE,List.getD_eq_getElem?_getD,hkb,hvb,Option.getD_some]
  have hta:=zPT a kb
  refine AW.skip (AW.seq (AW.block (rgn [] [[]] ?_)))
  refine op1 tok ?_
  refine qA (AW.seq (rgn [] [[]] ?_))
  refine op1 tok ?_
  refine qA (AW.block ?_)
  refine AW.loop (α:=Nat) (fun i=>i≤a.keys.length) (fun i=>⟨qV 124 [(2,.p (.int .u64 m)),(3,.ptr 3 0),(4,.ptr 4 0),(6,.ptr 6 0),(7,.ptr 7 0),(11,.p (.int .i64 j)),(12,.p (.bool (thB a kb i))),(13,.p (.int .i64 i))],[],[(3,.vars 31 a.cells),(4,.vars 31 b.cells),(6,.vars 31 [.p (.int .i64 0),.p (.int .u64 0),.p (.bool false),.p (.str []),.p (.int .i64 0),.p (.str []),.nilsl,.nilsl,.p (.int .i64 0)]),(7,.vars 31 [.p (.int .i64 7),.p (.int .u64 m),.p (.bool false),.p (.str []),.p (.int .i64 0),.p (.str []),.ms 800,.ms 801,.p (.int .i64 0)]),(800,.row 9 1 (a.keys.map PD.str++(qCF b a.keys j).map PD.str)),(801,.row 31 9 ((qAB b a.keys a.kids b.keys.length).map Val.enc++(qCE b a.keys j).map Val.enc))],0⟩) (fun i=>a.keys.length-i) (0) (by omega) ⟨qB (by simp [thB]),by simp,by simp,by simp⟩ ?_
  rintro i hi
  refine AW.seq (rgn [] [[],[],[],[],[2,3,4,6,7,11,12,13,78]] ?_)
  iterate 5 refine op1 tok ?_
  refine qA (cnd ?_ ?_)
  ·intro h78
   try simp at h78
   obtain ⟨ka,hka⟩:∃ x,a.keys[i]?=some x:=⟨a.keys[i],by simp [h78]⟩
   have hst:=zLC (key:=kb) hka
   generalize thB a kb i=th at *
   refine AW.skip (AW.seq (AW.block ?_))
   refine AW.drawS tok mixed 14 [[12],[81],[3,82],[83,82],[13,82],[84,85,82],[86,82],[4,82],[88,82],[11,82],[89,90,82],[91,82],[87,92,82],[82,93]] [.str ka,.str kb] [] (by kernel_rfl) ?_
   iterate 2 refine d1 ?_ (hv:=by first | with_reducible exact True.intro | (first | (simp [hka]; done) | (simp [hkb]; done); done) | omega | simp | (simp +contextual; omega))
   iterate 11 refine d2 82 rfl rfl ?_ (hv:=by first | with_reducible exact True.intro | (first | (simp [hka]; done) | (simp [hkb]; done); done) | omega | simp | (simp +contextual; omega))
   refine d1 ?_ (hv:=by first | with_reducible exact True.intro | (first | (simp [hka]; done) | (simp [hkb]; done); done) | omega | simp | (simp +contextual; omega))
   refine DGo.nil (by kernel_rfl) ⟨by kernel_rfl, ?_⟩
   refine qC.run [[2,3,4,6,7,11,12,13]] ?_
   refine op1 tok ?_
   refine qA (rgz [] [[],[],[2,3,4,6,7,11,12,13]] ?_)
   iterate 3 refine op1 tok ?_
   refine qA ?_
   exact ⟨i+1,by omega,by omega,qB (by simp [hst]),rfl,by simp [hst],by simp [hst]⟩
  intro h78
  try simp at h78
  obtain rfl:i=a.keys.length:=by omega
  refine AW.exit ?_
  simp
  refine rgn [] [[],[2,3,4,6,7,11,96]] ?_
  iterate 2 refine op1 tok ?_
  refine qA (cnd ?_ ?_)
  ·intro h96
   try simp at h96
   have hno:kb ∉ a.keys:=fun h=>by rw [hta.2 h] at h96; simp at h96
   rw [if_neg hno] at n1 n2
   refine AW.seqDrawS tok mixed 9 [[7],[97],[4],[99],[11],[100,101],[102],[103],[98,104]] [.str kb,.str kb] [] (by kernel_rfl) ?_
   iterate 9 refine d1 ?_ (hv:=by first | with_reducible exact True.intro | (first | (simp [hkb]; done) | (simp; omega); done) | omega | simp | (simp +contextual; omega))
   refine DGo.nil (by kernel_rfl) ⟨by kernel_rfl, ?_⟩
   refine qC.run [[],[2,3,4,6,7,11]] ?_
   iterate 2 refine op1 tok ?_
   refine qA ?_
   refine AW.renE 105 800 (by simp) (by conv=>lhs; simp) ?_
   refine AW.drawS tok mixed 9 [[7],[107],[4],[109],[11],[110,111],[112],[113],[108,114]] [vb.enc,vb.enc] [] (by kernel_rfl) ?_
   iterate 9 refine d1 ?_ (hv:=by first | with_reducible exact True.intro | (first | (simp [hvb]; done) | (simp; omega); done) | omega | simp | (simp +contextual; omega))
   refine DGo.nil (by kernel_rfl) ⟨by kernel_rfl, ?_⟩
   refine qC.run [[],[2,3,4,6,7,11]] ?_
   iterate 2 refine op1 tok ?_
   refine qA ?_
   refine AW.renE 115 801 (by simp) (by conv=>lhs; simp) ?_
   refine rgz [] [[],[],[2,3,4,6,7,11]] ?_
   iterate 3 refine op1 tok ?_
   refine qA ?_
   exact ⟨j+1,by omega,by omega,qB (by simp [n1,n2]),rfl,by simp [n1,n2],by simp [n1,n2]⟩
  intro h96
  try simp at h96
  have hyes:kb∈a.keys:=hta.1 (by simpa using h96)
  rw [if_pos hyes] at n1 n2
  refine AW.skip (rgz [] [[],[],[2,3,4,6,7,11]] ?_)
  iterate 3 refine op1 tok ?_
  refine qA ?_
  exact ⟨j+1,by omega,by omega,qB (by simp [n1,n2]),rfl,by simp [n1,n2],by simp [n1,n2]⟩
 intro h71
 try simp at h71
 obtain rfl:j=b.keys.length:=by omega
 refine AW.exit ?_
 simp
 refine AW.seq (rgn [] [[],[],[],[2,6,7,120]] ?_)
 iterate 4 refine op1 tok ?_
 refine qA (cnd ?_ ?_)
 ·intro h120
  try simp at h120
  rw [if_pos (show 200<(qAB b a.keys a.kids b.keys.length).length+(qCE b a.keys b.keys.length).length by omega)]
  refine rgn [.nilp,(wQ 3 m).enc] [[],[],[6]] ?_
  iterate 3 refine oq1 tok hf ?_
  exact qA (AW.ret qG)
 intro h120
 try simp at h120
 rw [if_neg (show ¬ 200<(qAB b a.keys a.kids b.keys.length).length+(qCE b a.keys b.keys.length).length by omega)]
 refine AW.skip ?_
 refine AW.freezeE 800 (by conv=>lhs; simp) ?_
 refine AW.freezeE 801 (by conv=>lhs; simp) ?_
 refine rgn [] [[],[6]] ?_
 iterate 2 refine op1 tok ?_
 refine qA ?_
 exact AW.ret (qG (k:=by simp [dc0]))
end Go.Proofs.YtdojfdaglbphlaaGreatDoor
