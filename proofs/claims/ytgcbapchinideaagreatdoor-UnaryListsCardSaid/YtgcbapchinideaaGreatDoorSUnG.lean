import Derived.Test.YtgcbapchinideaaGreatDoorK3
import Derived.Test.YtgcbapchinideaaGreatDoorSNumMay
import Derived.Test.YtgcbapchinideaaGreatDoorK1
namespace Go.Proofs.YtgcbapchinideaaGreatDoor
open Sy Go
set_option maxRecDepth 100000
set_option maxHeartbeats 4000000
set_option linter.unusedSimpArgs false
set_option linter.unusedVariables false
variable {G:qK}
def qOX (d:Dc):List Val→Dc × Int
 | []=>(d,0)
 | v::l=>if (qGH d v.num).2≠0 then qGH d v.num else qOX (qGH d v.num).1 l
def qXZ (l:List Val) (m:Int):Val:=if l.length=0 then qPN m else if qGE l [5]=true then qQG l [] m else if qGE l [4]=false then wD 40 m else qSG (qOX (qJJ 0) l) m
theorem zCZ (l:List Val) (m:Int) (hl:l.length≤1000000) (hj:(Lib.join (l.map Val.text) []).length≤1000000000) (hm:∀ v∈l,zC v=true):AFn Tryz.prog G 86 [.agg [.int .u64 m],.sl 9 (l.map Val.enc)] ((qXZ l m).enc):=by
 refine AFn.introU tok Tryz.func86 (by kernel_rfl) rfl rfl ?_
 simp only [Tryz.f86,qH,List.map_cons,List.map_nil]
 have hf:=yD (G:=G) 40 m
 have hn:=qPS (G:=G) m
 have ha5:=qTO (G:=G) l [5]
 have ha4:=qTO (G:=G) l [4]
 have hjn:=qZM (G:=G) l [] m hl hj
 have hd0:=qYC (G:=G) 0 (by decide) (by decide)
 have hr:=fun r=>qJA (G:=G) r m
 have hm0:=qZY (n:=0) (by decide) (by decide)
 have hnum:qGE l [4]=true→∀ v∈l,zP v.num=true:=fun h v hv=>by
  have:=List.all_eq_true.1 h v hv
  simp at this
  exact qCP (hm v hv) this
 have e:qXZ l m=if l.length=0 then qPN m else if qGE l [5]=true then qQG l [] m else if qGE l [4]=false then wD 40 m else qSG (qOX (qJJ 0) l) m:=rfl
 rw [e]
 have hle:(l.map Val.enc).length=l.length:=by simp
 generalize qGE l [5]=b5 at *
 generalize qGE l [4]=b4 at *
 generalize qQG l [] m=J at *
 generalize qJJ 0=D0 at *
 obtain ⟨R,hRe⟩:∃ R,qOX D0 l=R:=⟨_,rfl⟩
 rw [hRe]
 simp only [Val.enc_def,Dc.enc,List.map_cons,List.map_nil] at hf hn ha5 ha4 hjn hd0 hr
 refine rgn [] [[],[1,2,4]] ?_
 iterate 2 refine op1 tok ?_
 refine qA (AW.seq (AW.block (rgn [] [[],[],[],[1,2,4,9]] ?_)))
 iterate 4 refine op1 tok ?_
 refine qA (cnd ?_ ?_)
 ·intro h9
  try simp at h9
  rw [if_pos (by simpa using h9)]
  refine rgn [.nilp,(qPN m).enc] [[],[],[4]] ?_
  iterate 3 refine oq1 tok hn ?_
  exact qA (AW.ret qG)
 intro h9
 try simp at h9
 rw [if_neg (by simpa using h9)]
 refine rgn [.int .i64 5,.nilp,.bool b5] [[],[],[],[1,2,4,15]] ?_
 iterate 4 refine oq1 tok ha5 ?_
 refine qA (cnd ?_ ?_)
 ·intro h15
  try simp at h15
  rw [if_pos h15]
  refine rgn [.nilp,J.enc] [[],[],[4,21],[4]] ?_
  iterate 4 refine op1 tok ?_ (hv:=by first | with_reducible exact True.intro | (first | exact hjn | (simp at hjn ⊢; exact hjn); done) | omega | simp | (simp +contextual; omega))
  exact qA (AW.ret qG)
 intro h15
 try simp at h15
 rw [if_neg (by simp [h15])]
 refine rgn [.int .i64 4,.nilp,.bool b4] [[],[],[],[],[1,2,4,22]] ?_
 iterate 5 refine oq1 tok ha4 ?_
 refine qA (cnd ?_ ?_)
 ·intro h22
  try simp at h22
  rw [if_pos h22]
  refine rgn [.nilp,(wD 40 m).enc] [[],[],[4]] ?_
  iterate 3 refine oq1 tok hf ?_
  exact qA (AW.ret qG)
 intro h22
 try simp at h22
 rw [if_neg (by simp [h22])]
 have hnum:=hnum (by simpa using h22)
 refine AW.skip (rgn [.nilp,D0.enc] [[],[],[],[1,2,4,5,6]] ?_)
 iterate 4 refine oq1 tok hd0 ?_
 refine qA ?_
 refine AW.join (α:=Unit) (fun _=>True) (fun a=>⟨qS 50 [(2,.ptr 2 0),(4,.ptr 4 0),(5,.ptr 5 0),(6,.p (.int .i64 R.2))],[],[(2,.vars 61 [.p (.int .u64 m)]),(4,.vars 31 [.p (.int .i64 0),.p (.int .u64 0),.p (.bool false),.p (.str []),.p (.int .i64 0),.p (.str []),.nilsl,.nilsl,.p (.int .i64 0)]),(5,.vars 26 [.p (.bool R.1.neg),.p (.str R.1.digits),.p (.int .i64 R.1.scale)])],0⟩) ?_ ?_
 ·
  refine rgn [] [[],[],[2,4,5,6,30,31,32]] ?_
  iterate 3 refine op1 tok ?_
  refine qA (AW.block ?_)
  refine AW.loop (α:=Nat × Dc) (fun a=>a.1≤l.length∧R=qOX a.2 (l.drop a.1)∧zP a.2=true) (fun a=>⟨qS 50 [(2,.ptr 2 0),(4,.ptr 4 0),(5,.ptr 5 0),(6,.p (.int .i64 0)),(30,.p (.sl 9 (l.map Val.enc))),(31,.p (.int .i64 l.length)),(32,.p (.int .i64 a.1))],[],[(2,.vars 61 [.p (.int .u64 m)]),(4,.vars 31 [.p (.int .i64 0),.p (.int .u64 0),.p (.bool false),.p (.str []),.p (.int .i64 0),.p (.str []),.nilsl,.nilsl,.p (.int .i64 0)]),(5,.vars 26 [.p (.bool a.2.neg),.p (.str a.2.digits),.p (.int .i64 a.2.scale)])],0⟩) (fun a=>l.length-a.1) ((0,D0)) ⟨by simp,by simp [hRe],hm0⟩ ⟨qB (by simp),rfl,by simp,by simp⟩ ?_
  rintro ⟨k,d⟩ ⟨hk,hs,hdm⟩
  simp only at hk hs hdm
  refine rgn [] [[]] ?_
  refine op1 tok ?_
  refine qA (AW.seq (cnd ?_ ?_))
  ·intro h33
   try simp at h33
   obtain ⟨v,hv⟩:∃ v,l[k]?=some v:=⟨l[k]'(by omega),by simp [show k<l.length by omega]⟩
   have hvm:=hnum v (List.mem_of_getElem? hv)
   have had:=qYD (G:=G) d v.num (wM hdm).1 (wM hvm).1
   have hdr:l.drop k=v::l.drop (k+1):=by
    obtain ⟨h1,h2⟩:=List.getElem?_eq_some_iff.1 hv
    rw [List.drop_eq_getElem_cons h1,h2]
   have hst:qOX d (l.drop k)=if (qGH d v.num).2≠0 then qGH d v.num else qOX (qGH d v.num).1 (l.drop (k+1)):=by rw [hdr]; rfl
   have hmm:=fun h=>zBJ (a:=d) (b:=v.num) h
   generalize qGH d v.num=R2 at *
   obtain ⟨r,c⟩:=R2
   simp only [Dc.enc] at had hst hmm
   refine AW.skip (AW.seq (AW.block (rgn [v.enc] [[],[],[],[2,4,5,8,30,31,32]] ?_)))
   iterate 4 refine op1 tok ?_ (hv:=by first | with_reducible exact True.intro | (first | (simp [hv]; done) | (simp [hv]; omega); done) | omega | simp | (simp +contextual; omega))
   refine qA (rgn [.nilp,.tup [r.enc,.int .i64 c]] [[],[],[],[2,4,5,30,31,32,40],[],[],[],[],[2,4,5,6,30,31,32]] ?_)
   iterate 9 refine oq1 tok had ?_
   refine qA (rgn [] [[],[2,4,5,6,30,31,32,44]] ?_)
   iterate 2 refine op1 tok ?_
   refine qA (cnd ?_ ?_)
   ·intro h44
    try simp at h44
    rw [if_pos h44] at hst
    obtain rfl:=hs.trans hst
    refine AW.exit ?_
    simp [-exists_const, -exists_eq_left, -true_and, -exists_and_left, -exists_and_right]
    exact ⟨(),trivial,qB (by simp),rfl,by simp,by simp⟩
   intro h44
   try simp at h44
   rw [if_neg (by simpa using h44)] at hst
   obtain rfl:c=0:=by simpa using h44
   refine AW.skip (rgz [] [[],[2,4,5,6,30,31,32]] ?_)
   iterate 2 refine op1 tok ?_
   refine qA ?_
   exact ⟨(k+1,r),⟨by simp only; omega,hs.trans hst,hmm rfl⟩,by simp only; omega,qB (by simp),rfl,by simp,by simp⟩
  intro h33
  try simp at h33
  obtain rfl:k=l.length:=by omega
  rw [List.drop_length] at hs
  have hs2:R=(d,0):=hs
  subst hs2
  refine AW.exit ?_
  simp [-exists_const, -exists_eq_left, -true_and, -exists_and_left, -exists_and_right]
  exact ⟨(),trivial,qB (by simp),rfl,by simp,by simp⟩
 ·
  rintro a hI
  have hr:=hr R
  refine rgn [.nilp,(qSG R m).enc] [[],[],[],[4,49],[4]] ?_
  iterate 5 refine op1 tok ?_ (hv:=by first | with_reducible exact True.intro | (first | exact hr | (simp; done) | (simp at hr ⊢; exact hr); done) | omega | simp | (simp +contextual; omega))
  exact qA (AW.ret qG)
end Go.Proofs.YtgcbapchinideaaGreatDoor
