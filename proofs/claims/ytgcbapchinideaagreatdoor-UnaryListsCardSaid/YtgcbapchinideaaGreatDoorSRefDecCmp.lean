import Derived.Test.YtgcbapchinideaaGreatDoorK2
import Derived.Test.YtgcbapchinideaaGreatDoorM3
namespace Go.Proofs.YtgcbapchinideaaGreatDoor
open Sy Go
set_option maxRecDepth 100000
set_option maxHeartbeats 4000000
set_option linter.unusedSimpArgs false
set_option linter.unusedVariables false
variable {G:qK}
theorem qPJ (a b:Dc) (ha:okD a) (hb:okD b):AFn Tryz.prog G 58 [a.enc,b.enc] (.tup [.str (alX (jP a b) (jO a b)),.str (alY (jP a b) (jO a b)),.int .i64 (qY a b)]):=by
 refine AFn.introU tok Tryz.func58 (by kernel_rfl) rfl rfl ?_
 simp only [Tryz.f58,qH,List.map_cons,List.map_nil]
 obtain ⟨a1,a2,a3,a4⟩:=ha
 obtain ⟨b1,b2,b3,b4⟩:=hb
 have hm:0≤qY a b∧qY a b≤1000:=by unfold qY; split <;> omega
 have hz1:=qBC (G:=G) (qY a b-a.scale) (by omega)
 have hz2:=qBC (G:=G) (qY a b-b.scale) (by omega)
 have hl1:(jP a b).length≤2000:=by unfold jP zE; simp; omega
 have hl2:(jO a b).length≤2000:=by unfold jO zE; simp; omega
 have f1:(if a.scale<b.scale then b.scale else a.scale)=qY a b:=rfl
 have f2:a.digits++zE (qY a b-a.scale).toNat=jP a b:=rfl
 have f3:b.digits++zE (qY a b-b.scale).toNat=jO a b:=rfl
 generalize hnn:(if (jP a b).length<(jO a b).length then ((jO a b).length:Int) else ((jP a b).length:Int))=n
 have hn1:0≤n∧n≤2000:=by rw [← hnn]; split <;> omega
 have hz3:=qBC (G:=G) (n-(jP a b).length) (by omega)
 have hz4:=qBC (G:=G) (n-(jO a b).length) (by omega)
 have e1:alX (jP a b) (jO a b)=zE (n-(jP a b).length).toNat++jP a b:=by unfold alX; rw [hnn]
 have e2:alY (jP a b) (jO a b)=zE (n-(jO a b).length).toNat++jO a b:=by unfold alY; rw [hnn]
 rw [e1,e2]
 have g1:(zE (qY a b-a.scale).toNat).length≤1000:=by unfold zE; simp; omega
 have g2:(zE (qY a b-b.scale).toNat).length≤1000:=by unfold zE; simp; omega
 have g3:(zE (n-(jP a b).length).toNat).length≤2000:=by unfold zE; simp; omega
 have g4:(zE (n-(jO a b).length).toNat).length≤2000:=by unfold zE; simp; omega
 generalize zE (n-(jP a b).length).toNat=Z3 at *
 generalize zE (n-(jO a b).length).toNat=Z4 at *
 have hmx:a.scale≤qY a b∧b.scale≤qY a b:=by unfold qY; split <;> omega
 refine rgn [] [[],[],[],[2,3],[2,3]] ?_
 iterate 5 refine op1 tok ?_
 refine qA (rgn [] [[],[],[],[],[2,3,15],[2,3,7]] ?_)
 iterate 6 refine op1 tok ?_ (h:=by intro C; conv=>lhs; simp [f1])
 refine qA ?_
 refine AW.seqDrawS tok mixed 8 [[2],[16],[7],[2],[19],[18,20],[21],[17,22]] [.nilp,.str (zE (qY a b-a.scale).toNat)] [] (by kernel_rfl) ?_
 iterate 8 refine dq1 hz1 ?_ (h:=by intro C; conv=>lhs; simp [f2])
 refine DGo.nil (by kernel_rfl) ⟨by kernel_rfl, ?_⟩
 refine qF.run [[3,7,8]] ?_
 refine op1 tok ?_ (h:=by intro C; conv=>lhs; simp [f2])
 refine qA ?_
 refine AW.seqDrawS tok mixed 8 [[3],[24],[7],[3],[27],[26,28],[29],[25,30]] [.nilp,.str (zE (qY a b-b.scale).toNat)] [] (by kernel_rfl) ?_
 iterate 8 refine dq1 hz2 ?_ (h:=by intro C; conv=>lhs; simp [f3])
 refine DGo.nil (by kernel_rfl) ⟨by kernel_rfl, ?_⟩
 refine qF.run [[7,8,9]] ?_
 refine op1 tok ?_ (h:=by intro C; conv=>lhs; simp [f3])
 refine qA (rgn [] [[],[],[],[],[7,8,9,36],[7,8,9,10]] ?_)
 iterate 6 refine op1 tok ?_ (h:=by intro C; conv=>lhs; simp [hnn])
 refine qA (rgn [.nilp,.str Z3,.nilp,.str Z4] [[],[],[],[],[7,8,9,10,41],[],[],[7,9,43,44],[],[],[],[7,9,43,48],[],[],[43,50,51],[],[],[4,5,6]] ?_)
 iterate 18 refine oq1 tok (ai hz3 hz4) ?_
 exact qA (AW.ret qG)
theorem qSB (a b:Dc) (ha:zP a=true) (hb:zP b=true):AFn Tryz.prog G 25 [a.enc,b.enc] (.int .i64 (xU a b)):=by
 refine AFn.introU tok Tryz.func25 (by kernel_rfl) rfl rfl ?_
 simp only [Tryz.f25,qH,List.map_cons,List.map_nil]
 have hal:=qPJ (G:=G) a b (wM ha).1 (wM hb).1
 have hlaw:=fun h=>qPI ha hb h
 have hself:=fun h:a=b=>(show xU a b=0 by rw [← h]; exact qXM ha)
 generalize alX (jP a b) (jO a b)=X at *
 generalize alY (jP a b) (jO a b)=Y at *
 generalize hls:(if a.neg=b.neg then (if a.neg=true then Op.bytesLess Y X else Op.bytesLess X Y) else a.neg)=ls at *
 generalize xU a b=R at *
 refine rgn [] [[],[],[2,3]] ?_
 iterate 3 refine op1 tok ?_
 refine qA (AW.seq (rgn [] [[],[],[2,3,11]] ?_))
 iterate 3 refine op1 tok ?_
 refine qA (cnd ?_ ?_)
 ·intro h11
  try simp at h11
  have hR:R=0:=hself (Dc.ext' h11.1 h11.2.1 h11.2.2)
  refine rgn [] [[]] ?_
  refine op1 tok ?_
  refine qA ?_
  exact AW.ret (qG (k:=by simp [hR]))
 intro h11
 try simp at h11
 have hR:R=if ls=true then -1 else 1:=hlaw fun h=>by subst h; simp at h11
 refine AW.skip (rgn [.nilp,.tup [.str X,.str Y,.int .i64 (qY a b)]] [[],[],[],[],[],[],[2,3,16,17,18],[],[],[2,3,5,6]] ?_)
 iterate 10 refine op1 tok ?_ (hv:=by first | with_reducible exact True.intro | ((simp at hal ⊢; exact hal); done) | omega | simp | (simp +contextual; omega))
 refine qA (rgn [] [[],[],[],[2,3,5,6,8]] ?_)
 iterate 4 refine op1 tok ?_
 refine qA ?_
 refine AW.join (α:=Unit) (fun _=>True) (fun a=>⟨qS 35 [(8,.p (.bool ls))],[],[],0⟩) ?_ ?_
 ·
  refine rgn [] [[],[],[],[],[2,5,6,8,26]] ?_
  iterate 5 refine op1 tok ?_
  refine qA (cnd ?_ ?_)
  ·intro h26
   try simp at h26
   have e8:a.neg=ls:=by rw [← hls,if_neg (by simpa using h26)]
   refine rgz [] [[],[],[8]] ?_
   iterate 3 refine op1 tok ?_
   refine qA ?_
   exact ⟨(),trivial,qB (by simp [e8]),rfl,by simp [e8],by simp [e8]⟩
  intro h26
  try simp at h26
  have e9:a.neg=b.neg:=by simpa using h26
  refine rgn [] [[],[5,6,8,30]] ?_
  iterate 2 refine op1 tok ?_
  refine qA (cnd ?_ ?_)
  ·intro h30
   try simp at h30
   have e8:Op.bytesLess Y X=ls:=by rw [← hls,if_pos e9,if_pos h30]
   refine rgz [] [[],[],[33],[8]] ?_
   iterate 4 refine op1 tok ?_
   refine qA ?_
   exact ⟨(),trivial,qB (by simp [e8]),rfl,by simp [e8],by simp [e8]⟩
  intro h30
  try simp at h30
  have e8:Op.bytesLess X Y=ls:=by rw [← hls,if_pos e9,if_neg (by simp [h30])]
  refine AW.skip ?_
  exact ⟨(),trivial,qB (by simp [e8]),rfl,by simp [e8],by simp [e8]⟩
 ·
  rintro a hI
  refine AW.seq (rgn [] [[34]] ?_)
  refine op1 tok ?_
  refine qA (cnd ?_ ?_)
  ·intro h34
   try simp at h34
   rw [h34] at hR
   refine rgn [] [[]] ?_
   refine op1 tok ?_
   refine qA ?_
   exact AW.ret (qG (k:=by simp [hR]))
  intro h34
  try simp at h34
  rw [h34] at hR
  refine AW.skip (rgn [] [[]] ?_)
  refine op1 tok ?_
  refine qA ?_
  exact AW.ret (qG (k:=by simp [hR]))
end Go.Proofs.YtgcbapchinideaaGreatDoor
