import Derived.Test.YtgcbapchinideaaGreatDoorK1
import Derived.Test.YtgcbapchinideaaGreatDoorM3
namespace Go.Proofs.YtgcbapchinideaaGreatDoor
open Sy Go
set_option maxRecDepth 100000
set_option maxHeartbeats 4000000
set_option linter.unusedSimpArgs false
set_option linter.unusedVariables false
variable {G:qM}
theorem qEA (a b:Dc) (ha:okD a) (hb:okD b):AFn Tryz.prog G 58 [a.enc,b.enc] (.tup [.str (alX (wO a b) (wN a b)),.str (alY (wO a b) (wN a b)),.int .i64 (qX a b)]):=by
 refine AFn.introU tok Tryz.func58 (by kernel_rfl) rfl rfl ?_
 simp only [Tryz.f58,qO,List.map_cons,List.map_nil]
 obtain ⟨a1,a2,a3,a4⟩:=ha
 obtain ⟨b1,b2,b3,b4⟩:=hb
 have hm:0≤qX a b∧qX a b≤1000:=by unfold qX; split <;> omega
 have hz1:=qBR (G:=G) (qX a b-a.scale) (by omega)
 have hz2:=qBR (G:=G) (qX a b-b.scale) (by omega)
 have hl1:(wO a b).length≤2000:=by unfold wO qV; simp; omega
 have hl2:(wN a b).length≤2000:=by unfold wN qV; simp; omega
 have f1:(if a.scale<b.scale then b.scale else a.scale)=qX a b:=rfl
 have f2:a.digits++qV (qX a b-a.scale).toNat=wO a b:=rfl
 have f3:b.digits++qV (qX a b-b.scale).toNat=wN a b:=rfl
 generalize hnn:(if (wO a b).length<(wN a b).length then ((wN a b).length:Int) else ((wO a b).length:Int))=n
 have hn1:0≤n∧n≤2000:=by rw [← hnn]; split <;> omega
 have hz3:=qBR (G:=G) (n-(wO a b).length) (by omega)
 have hz4:=qBR (G:=G) (n-(wN a b).length) (by omega)
 have e1:alX (wO a b) (wN a b)=qV (n-(wO a b).length).toNat++wO a b:=by unfold alX; rw [hnn]
 have e2:alY (wO a b) (wN a b)=qV (n-(wN a b).length).toNat++wN a b:=by unfold alY; rw [hnn]
 rw [e1,e2]
 have g1:(qV (qX a b-a.scale).toNat).length≤1000:=by unfold qV; simp; omega
 have g2:(qV (qX a b-b.scale).toNat).length≤1000:=by unfold qV; simp; omega
 have g3:(qV (n-(wO a b).length).toNat).length≤2000:=by unfold qV; simp; omega
 have g4:(qV (n-(wN a b).length).toNat).length≤2000:=by unfold qV; simp; omega
 generalize qV (n-(wO a b).length).toNat=Z3 at *
 generalize qV (n-(wN a b).length).toNat=Z4 at *
 have hmx:a.scale≤qX a b∧b.scale≤qX a b:=by unfold qX; split <;> omega
 refine rgn [] [[],[],[],[2,3],[2,3]] ?_
 iterate 5 refine op1 tok ?_
 refine qA (rgn [] [[],[],[],[],[2,3,15],[2,3,7]] ?_)
 iterate 6 refine op1 tok ?_ (h:=by intro C; conv=>lhs; simp [f1])
 refine qA ?_
 refine AW.seqDrawS tok mixed 8 [[2],[16],[7],[2],[19],[18,20],[21],[17,22]] [.nilp,.str (qV (qX a b-a.scale).toNat)] [] (by kernel_rfl) ?_
 iterate 8 refine dq1 hz1 ?_ (h:=by intro C; conv=>lhs; simp [f2])
 refine DGo.nil (by kernel_rfl) ⟨by kernel_rfl, ?_⟩
 refine qH.run [[3,7,8]] ?_
 refine op1 tok ?_ (h:=by intro C; conv=>lhs; simp [f2])
 refine qA ?_
 refine AW.seqDrawS tok mixed 8 [[3],[24],[7],[3],[27],[26,28],[29],[25,30]] [.nilp,.str (qV (qX a b-b.scale).toNat)] [] (by kernel_rfl) ?_
 iterate 8 refine dq1 hz2 ?_ (h:=by intro C; conv=>lhs; simp [f3])
 refine DGo.nil (by kernel_rfl) ⟨by kernel_rfl, ?_⟩
 refine qH.run [[7,8,9]] ?_
 refine op1 tok ?_ (h:=by intro C; conv=>lhs; simp [f3])
 refine qA (rgn [] [[],[],[],[],[7,8,9,36],[7,8,9,10]] ?_)
 iterate 6 refine op1 tok ?_ (h:=by intro C; conv=>lhs; simp [hnn])
 refine qA (rgn [.nilp,.str Z3,.nilp,.str Z4] [[],[],[],[],[7,8,9,10,41],[],[],[7,9,43,44],[],[],[],[7,9,43,48],[],[],[43,50,51],[],[],[4,5,6]] ?_)
 iterate 18 refine oq1 tok (ai hz3 hz4) ?_
 exact qA (AW.ret qK)
theorem qFZ (a b:Dc) (ha:qQ a=true) (hb:qQ b=true):AFn Tryz.prog G 25 [a.enc,b.enc] (.int .i64 (qCP a b)):=by
 refine AFn.introU tok Tryz.func25 (by kernel_rfl) rfl rfl ?_
 simp only [Tryz.f25,qO,List.map_cons,List.map_nil]
 have hal:=qEA (G:=G) a b (zJ ha).1 (zJ hb).1
 have hlaw:=fun h=>qMK ha hb h
 have hself:=fun h:a=b=>(show qCP a b=0 by rw [← h]; exact qTG ha)
 generalize alX (wO a b) (wN a b)=X at *
 generalize alY (wO a b) (wN a b)=Y at *
 generalize hls:(if a.neg=b.neg then (if a.neg=true then Op.bytesLess Y X else Op.bytesLess X Y) else a.neg)=ls at *
 generalize qCP a b=R at *
 refine rgn [] [[],[],[2,3]] ?_
 iterate 3 refine op1 tok ?_
 refine qA (AW.seq (rgn [] [[],[],[2,3,11]] ?_))
 iterate 3 refine op1 tok ?_
 refine qA (cnd ?_ ?_)
 ·intro h11
  try simp at h11
  have hR:R=0:=hself (Dc.ext' h11.1 h11.2.1 h11.2.2)
  refine rgn [] [[]] ?_
  refine op1 tok ?_
  refine qA ?_
  exact AW.ret (qK (k:=by simp [hR]))
 intro h11
 try simp at h11
 have hR:R=if ls=true then -1 else 1:=hlaw fun h=>by subst h; simp at h11
 refine AW.skip (rgn [.nilp,.tup [.str X,.str Y,.int .i64 (qX a b)]] [[],[],[],[],[],[],[2,3,16,17,18],[],[],[2,3,5,6]] ?_)
 iterate 10 refine op1 tok ?_ (hv:=by first | with_reducible exact True.intro | ((simp at hal ⊢; exact hal); done) | omega | simp | (simp +contextual; omega))
 refine qA (rgn [] [[],[],[],[2,3,5,6,8]] ?_)
 iterate 4 refine op1 tok ?_
 refine qA ?_
 refine AW.join (α:=Unit) (fun _=>True) (fun a=>⟨zF 35 [(8,.p (.bool ls))],[],[],0⟩) ?_ ?_
 ·
  refine rgn [] [[],[],[],[],[2,5,6,8,26]] ?_
  iterate 5 refine op1 tok ?_
  refine qA (cnd ?_ ?_)
  ·intro h26
   try simp at h26
   have e8:a.neg=ls:=by rw [← hls,if_neg (by simpa using h26)]
   refine rgz [] [[],[],[8]] ?_
   iterate 3 refine op1 tok ?_
   refine qA ?_
   exact ⟨(),trivial,qF (by simp [e8]),rfl,by simp [e8],by simp [e8]⟩
  intro h26
  try simp at h26
  have e9:a.neg=b.neg:=by simpa using h26
  refine rgn [] [[],[5,6,8,30]] ?_
  iterate 2 refine op1 tok ?_
  refine qA (cnd ?_ ?_)
  ·intro h30
   try simp at h30
   have e8:Op.bytesLess Y X=ls:=by rw [← hls,if_pos e9,if_pos h30]
   refine rgz [] [[],[],[33],[8]] ?_
   iterate 4 refine op1 tok ?_
   refine qA ?_
   exact ⟨(),trivial,qF (by simp [e8]),rfl,by simp [e8],by simp [e8]⟩
  intro h30
  try simp at h30
  have e8:Op.bytesLess X Y=ls:=by rw [← hls,if_pos e9,if_neg (by simp [h30])]
  refine AW.skip ?_
  exact ⟨(),trivial,qF (by simp [e8]),rfl,by simp [e8],by simp [e8]⟩
 ·
  rintro a hI
  refine AW.seq (rgn [] [[34]] ?_)
  refine op1 tok ?_
  refine qA (cnd ?_ ?_)
  ·intro h34
   try simp at h34
   rw [h34] at hR
   refine rgn [] [[]] ?_
   refine op1 tok ?_
   refine qA ?_
   exact AW.ret (qK (k:=by simp [hR]))
  intro h34
  try simp at h34
  rw [h34] at hR
  refine AW.skip (rgn [] [[]] ?_)
  refine op1 tok ?_
  refine qA ?_
  exact AW.ret (qK (k:=by simp [hR]))
end Go.Proofs.YtgcbapchinideaaGreatDoor
