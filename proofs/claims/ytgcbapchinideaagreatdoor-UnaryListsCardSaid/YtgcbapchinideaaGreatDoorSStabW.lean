import Derived.Test.YtgcbapchinideaaGreatDoorSSymW
import Derived.Test.YtgcbapchinideaaGreatDoorSStabB
namespace Go.Proofs.YtgcbapchinideaaGreatDoor
open Sy Go
set_option maxRecDepth 100000
set_option maxHeartbeats 4000000
set_option linter.unusedSimpArgs false
set_option linter.unusedVariables false
variable {G:qK}
theorem qCN (s:Nat) (l:List Val):kK s 0 l=[]:=rfl
theorem qCG {l:List Val} (h:yZ l):yZ (srt leV l):=fun v hv=>h v (qDY.1 hv)
def qAX (s k w:Nat) (l:List Val):List Val:=if w<l.length∨k=0 then qBA s (l.drop w) else []
theorem qVV (l:List Val) (hl:l.length≤1000000) (hm:yZ l):AX Tryz.prog G 120 [.ms 890,.p (.int .i64 l.length),.p (.fn 83)] [(890,.row 31 9 (zF l))] (.tuple []) [890] [(890,.row 31 9 (zF (srt leV l)))]:=by
 refine AX.introU tok 700 Tryz.func120 (by kernel_rfl) rfl rfl ?_
 simp only [Tryz.f120,qH,List.map_cons,List.map_nil]
 have e0:kK 20 0 l++l.drop (20 * 0)=l:=by simp [kK]
 refine rgn [] [[]] ?_
 refine op1 tok ?_
 refine qA (rgn [] [[],[],[0,1,2,6,7,8]] ?_)
 iterate 3 refine op1 tok ?_
 refine qA (AW.seq (AW.block ?_))
 refine AW.loop (α:=Nat) (fun k=>20 * k≤l.length) (fun k=>⟨qS 63 [(0,.ms 890),(1,.p (.int .i64 l.length)),(2,.p (.fn 83)),(6,.p (.int .i64 20)),(7,.p (.int .i64 ((20 * k:Nat):Int))),(8,.p (.int .i64 ((20 * k+20:Nat):Int)))],[890],[(890,.row 31 9 (zF (kK 20 k l++l.drop (20 * k))))],700⟩) (fun k=>l.length-20 * k) (0) (Nat.zero_le _) ⟨qB (by simp),rfl,by simp [qCN],by simp [qCN]⟩ ?_
 rintro k hk
 have hpl:=qIW k l hk
 refine AW.seq (rgn [] [[],[],[0,1,2,6,7,8,13]] ?_)
 iterate 3 refine op1 tok ?_
 refine qA (cnd ?_ ?_)
 ·intro h13
  try simp at h13
  have hS:((l.drop (20 * k)).take 20).length=20:=by rw [List.length_take,List.length_drop]; omega
  have hD:(l.drop (20 * (k+1))).length=l.length-20 * (k+1):=List.length_drop
  have hc:=qUX (G:=G) (kK 20 k l) ((l.drop (20 * k)).take 20) (l.drop (20 * (k+1))) (by omega) (fun v hv=>hm v (List.mem_of_mem_drop (List.mem_of_mem_take hv)))
  have e1:(l.drop (20 * k)).take 20++l.drop (20 * (k+1))=l.drop (20 * k):=by
   have:=List.take_append_drop 20 (l.drop (20 * k))
   rwa [List.drop_drop,← Nat.mul_succ] at this
  have e2:kK 20 k l++(srt leV ((l.drop (20 * k)).take 20)++l.drop (20 * (k+1)))=kK 20 (k+1) l++l.drop (20 * (k+1)):=by simp [kK]
  rw [e1,e2,hpl,hS] at hc
  refine AW.skip (AW.block (rgn [] [[],[],[],[]] ?_))
  iterate 4 refine op1 tok ?_
  refine zX ?_
  refine qF.stepK [0,1,2,6,8] (uC rfl hc (by simp)) (by conv=>lhs; simp) rfl ?_
  refine qF.nil ?_
  refine rgn [] [[],[0,1,2,6,7,8]] ?_
  iterate 2 refine op1 tok ?_
  refine qA (rgz [] [[],[],[],[0,1,2,6,7,8]] ?_)
  iterate 4 refine op1 tok ?_
  refine qA ?_
  exact ⟨k+1,by omega,by omega,qB (by simp [show (20 * (k:Int)+20)=20 * (k+1) from by omega]),rfl,by simp [show (20 * (k:Int)+20)=20 * (k+1) from by omega],by simp [show (20 * (k:Int)+20)=20 * (k+1) from by omega]⟩
 intro h13
 try simp at h13
 have hr:(l.drop (20 * k)).length=l.length-20 * k:=List.length_drop
 have hc:=qUX (G:=G) (kK 20 k l) (l.drop (20 * k)) [] (by simp; omega) (fun v hv=>hm v (List.mem_of_mem_drop hv))
 have hb:kK 20 k l++(srt leV (l.drop (20 * k))++[])=qBA 20 l:=by
  rw [qNI (by decide) k l hk,List.append_nil]
  by_cases h:20 * k<l.length∨k=0
  ·rw [if_pos h,yJ (by omega)]
  rw [if_neg h,List.eq_nil_of_length_eq_zero (show (l.drop (20 * k)).length=0 by omega)]; simp [srt]
 rw [hb,List.append_nil,hpl,show 20 * k+(l.drop (20 * k)).length=l.length by omega] at hc
 refine AW.exit ?_
 simp
 refine rgn [] [[],[],[],[]] ?_
 iterate 4 refine op1 tok ?_
 refine zX ?_
 refine qF.stepK [0,1,2,6] (uC rfl hc (by simp)) (by conv=>lhs; simp) rfl ?_
 refine qF.nil ?_
 refine AW.block ?_
 refine AW.loop (α:=Nat) (fun s=>20≤s∧s≤2000000) (fun s=>⟨qS 63 [(0,.ms 890),(1,.p (.int .i64 l.length)),(2,.p (.fn 83)),(6,.p (.int .i64 s))],[890],[(890,.row 31 9 (zF (qBA s l)))],700⟩) (fun s=>l.length-s) (20) ⟨by omega,by omega⟩ ⟨qB (by simp),rfl,by simp,by simp⟩ ?_
 rintro s ⟨hs1,hs2⟩
 refine AW.seq (rgn [] [[],[],[0,1,2,6,30]] ?_)
 iterate 3 refine op1 tok ?_
 refine qA (cnd ?_ ?_)
 ·intro h30
  try simp at h30
  refine AW.skip (AW.block (rgn [] [[],[],[],[0,1,2,6,7,8]] ?_))
  iterate 4 refine op1 tok ?_
  refine qA (AW.seq (AW.block ?_))
  refine AW.loop (α:=Nat × Nat) (fun a=>a.2=2 * s * a.1∧a.2≤l.length) (fun a=>⟨qS 63 [(0,.ms 890),(1,.p (.int .i64 l.length)),(2,.p (.fn 83)),(6,.p (.int .i64 s)),(7,.p (.int .i64 a.2)),(8,.p (.int .i64 ((a.2+2 * s:Nat):Int)))],[890],[(890,.row 31 9 (zF (kK (2 * s) a.1 l++qAX s a.1 a.2 l)))],700⟩) (fun a=>l.length-a.2) ((0,0)) ⟨by simp,Nat.zero_le _⟩ ⟨qB (by simp),rfl,by simp [qCN,qAX],by simp [qCN,qAX]⟩ ?_
  rintro ⟨k,w⟩ ⟨hw,hwl⟩
  simp only at hw hwl
  have hpl:(kK (2 * s) k l).length=w:=by rw [qIW k l (by omega),hw]
  have hrl:(l.drop w).length=l.length-w:=List.length_drop
  have hrm:yZ (l.drop w):=fun v hv=>hm v (List.mem_of_mem_drop hv)
  refine AW.seq (rgn [] [[],[],[0,1,2,6,7,8,35]] ?_)
  iterate 3 refine op1 tok ?_
  refine qA (cnd ?_ ?_)
  ·intro h35
   try simp at h35
   obtain ⟨t1,t2⟩:=zDQ (s:=s) (l:=l.drop w) (by omega) hrm (by omega)
   obtain ⟨R,hR⟩:∃ R,(if 2 * s<(l.drop w).length then qBA s ((l.drop w).drop (2 * s)) else [])=R:=⟨_,rfl⟩
   have hRt:R=qAX s (k+1) (w+2 * s) l:=by
    rw [← hR]; unfold qAX
    rw [List.drop_drop]
    by_cases h:2 * s<(l.drop w).length
    ·rw [if_pos h,if_pos (.inl (by omega))]
    rw [if_neg h,if_neg (by omega)]
   have hRl:R.length≤l.length-w-2 * s:=by
    rw [← hR]; split
    ·rw [zBC (by omega),List.length_drop]; omega
    simp
   rw [hR] at t1
   have l1:(srt leV ((l.drop w).take s)).length=s:=by rw [jD,List.length_take]; omega
   have l2:(srt leV (((l.drop w).drop s).take s)).length=s:=by rw [jD,List.length_take,List.length_drop]; omega
   have hc:=qYT (G:=G) (kK (2 * s) k l) (srt leV ((l.drop w).take s)) (srt leV (((l.drop w).drop s).take s)) R ⟨by omega,by omega,by omega,qCG (fun v hv=>hrm v (List.mem_of_mem_take hv)),qCG (fun v hv=>hrm v (List.mem_of_mem_drop (List.mem_of_mem_take hv))),qAE xL _ (fun v hv=>hrm v (List.mem_of_mem_take hv)),qAE xL _ (fun v hv=>hrm v (List.mem_of_mem_drop (List.mem_of_mem_take hv)))⟩
   unfold qKE at hc
   have e1:kK (2 * s) k l++qAX s k w l=kK (2 * s) k l++(srt leV ((l.drop w).take s)++(srt leV (((l.drop w).drop s).take s)++R)):=by
    rw [← t1]; unfold qAX; rw [if_pos (.inl (by omega))]
   have e2:kK (2 * s) k l++(mrg leV (srt leV ((l.drop w).take s)) (srt leV (((l.drop w).drop s).take s))++R)=kK (2 * s) (k+1) l++qAX s (k+1) (w+2 * s) l:=by
    rw [t2,hRt]; simp [kK,← hw]
   rw [← e1,e2,hpl,l1,l2,show w+s+s=w+2 * s by omega] at hc
   refine AW.skip (AW.block (rgn [] [[],[],[],[],[],[],[]] ?_))
   iterate 7 refine op1 tok ?_
   refine zX ?_
   refine qF.stepK [0,1,2,6,8] (uC rfl hc (by simp)) (by conv=>lhs; simp) rfl ?_
   refine qF.nil ?_
   refine rgn [] [[],[0,1,2,6,7,8]] ?_
   iterate 2 refine op1 tok ?_
   refine qA (rgz [] [[],[],[],[0,1,2,6,7,48],[0,1,2,6,7,8]] ?_)
   iterate 5 refine op1 tok ?_
   refine qA ?_
   exact ⟨(k+1,w+2 * s),⟨by simp only; rw [Nat.mul_succ,hw],by simp only; omega⟩,by simp only; omega,qB (by simp [show ((w:Int)+2 * s+2 * s)=w+2 * s+2 * s from rfl]),rfl,by simp [show ((w:Int)+2 * s+2 * s)=w+2 * s+2 * s from rfl],by simp [show ((w:Int)+2 * s+2 * s)=w+2 * s+2 * s from rfl]⟩
  intro h35
  try simp at h35
  have hpb:=qNI (s:=2 * s) (by omega) k l (by omega)
  rw [← hw] at hpb
  refine AW.exit ?_
  simp
  refine AW.join (α:=Unit) (fun _=>True) (fun a=>⟨qS 63 [(0,.ms 890),(1,.p (.int .i64 l.length)),(2,.p (.fn 83)),(6,.p (.int .i64 s))],[890],[(890,.row 31 9 (zF (qBA (2 * s) l)))],700⟩) ?_ ?_
  ·
   refine rgn [] [[],[],[],[0,1,2,6,7,9]] ?_
   iterate 4 refine op1 tok ?_
   refine qA (rgn [] [[],[],[0,1,2,6,7,9,54]] ?_)
   iterate 3 refine op1 tok ?_
   refine qA (cnd ?_ ?_)
   ·intro h54
    try simp at h54
    obtain ⟨t1,t2⟩:=zBB (s:=s) (l:=l.drop w) (by omega) hrm (by omega) (by omega)
    have l1:(srt leV ((l.drop w).take s)).length=s:=by rw [jD,List.length_take]; omega
    have l2:(srt leV ((l.drop w).drop s)).length=l.length-w-s:=by rw [jD,List.length_drop]; omega
    have hc:=qYT (G:=G) (kK (2 * s) k l) (srt leV ((l.drop w).take s)) (srt leV ((l.drop w).drop s)) [] ⟨by rw [hpl,l1,l2,List.length_nil]; omega,by omega,by omega,qCG (fun v hv=>hrm v (List.mem_of_mem_take hv)),qCG (fun v hv=>hrm v (List.mem_of_mem_drop hv)),qAE xL _ (fun v hv=>hrm v (List.mem_of_mem_take hv)),qAE xL _ (fun v hv=>hrm v (List.mem_of_mem_drop hv))⟩
    unfold qKE at hc
    have e1:kK (2 * s) k l++qAX s k w l=kK (2 * s) k l++(srt leV ((l.drop w).take s)++(srt leV ((l.drop w).drop s)++[])):=by
     rw [List.append_nil,← t1]; unfold qAX; rw [if_pos (.inl (by omega))]
    have e2:kK (2 * s) k l++(mrg leV (srt leV ((l.drop w).take s)) (srt leV ((l.drop w).drop s))++[])=qBA (2 * s) l:=by
     rw [t2,hpb,if_pos (.inl (by omega)),List.append_nil,yJ (by omega)]
    rw [← e1,e2,hpl,l1,l2,show w+s+(l.length-w-s)=l.length by omega] at hc
    refine rgz [] [[],[],[],[],[]] ?_
    iterate 5 refine op1 tok ?_
    refine zX ?_
    refine qF.stepK [0,1,2,6] (uC rfl hc (by simp)) (by conv=>lhs; simp) rfl ?_
    refine qF.nil ?_
    exact ⟨(),trivial,qB (by simp),rfl,by simp,by simp⟩
   intro h54
   try simp at h54
   have e1:kK (2 * s) k l++qAX s k w l=qBA (2 * s) l:=by
    rw [hpb]; unfold qAX
    by_cases h:w<l.length∨k=0
    ·rw [if_pos h,if_pos h,yJ (by omega),yJ (by omega)]
    rw [if_neg h,if_neg h,List.append_nil]
   rw [e1]
   refine AW.skip ?_
   exact ⟨(),trivial,qB (by simp),rfl,by simp,by simp⟩
  ·
   rintro a hI
   refine rgz [] [[],[],[0,1,2,6]] ?_
   iterate 3 refine op1 tok ?_
   refine qA ?_
   exact ⟨2 * s,⟨by omega,by omega⟩,by omega,qB (by simp [show ((s:Int) * 2)=2 * s from by omega]),rfl,by simp [show ((s:Int) * 2)=2 * s from by omega],by simp [show ((s:Int) * 2)=2 * s from by omega]⟩
 intro h30
 try simp at h30
 rw [show srt leV l=qBA s l from (yJ (by omega)).symm]
 refine AW.exit ?_
 simp
 exact qCV
theorem qPC (l:List Val) (hl:l.length≤1000000) (hm:yZ l):AX Tryz.prog G 82 [.ms 890,.p (.fn 83)] [(890,.row 31 9 (zF l))] (.tuple []) [890] [(890,.row 31 9 (zF (srt leV l)))]:=by
 refine AX.introU tok 700 Tryz.func82 (by kernel_rfl) rfl rfl ?_
 simp only [Tryz.f82,qH,List.map_cons,List.map_nil]
 have hc:=qVV (G:=G) l hl hm
 rw [← yL l] at hc
 refine rgz [] [[],[],[],[]] ?_
 iterate 4 refine op1 tok ?_
 refine zX ?_
 refine qF.stepK [] (uC rfl hc (by simp)) (by conv=>lhs; simp) rfl ?_
 refine qF.nil ?_
 exact qCV
end Go.Proofs.YtgcbapchinideaaGreatDoor
