import Derived.Test.YtlmedakhioiahaaGreatDoorSReadQ
namespace Go.Proofs.YtlmedakhioiahaaGreatDoor
open Sy Go
set_option maxRecDepth 100000
set_option maxHeartbeats 4000000
set_option linter.unusedSimpArgs false
set_option linter.unusedVariables false
variable {G:qR}
attribute [local simp] zV
def qVH (G:qR) (s:List UInt8):Prop:=∀ k,AFn Tryz.prog G 98 [.str ((s.drop k).takeWhile zY)] (.tup [(zJ ((s.drop k).takeWhile zY)).1.enc,.int .i64 (zJ ((s.drop k).takeWhile zY)).2])
theorem zNY {s:List UInt8} (hs:s.length≤100000):qVH G s:=fun k=>by
 have hle:=(List.takeWhile_sublist zY (l:=s.drop k)).length_le
 rw [List.length_drop] at hle
 have h:=zFT (G:=G) ((s.drop k).takeWhile zY) (by omega)
 rwa [qTK] at h
theorem qWK (s:List UInt8) (q:RQ) (hs:s.length≤100000) (hp:q.pos≤s.length) (hNu:qVH G s):AX Tryz.prog G 62 [.ptr 2 0] [(2,.vars 70 (rqC s q))] (.agg (jQ s q).2.cells) [2] [(2,.vars 70 (rqC s (jQ s q).1))]:=by
 refine AX.introU tok 900 Tryz.func62 (by kernel_rfl) rfl rfl ?_
 simp only [Tryz.f62,qO,List.map_cons,List.map_nil]
 have hle:((s.drop q.pos).takeWhile zY).length≤s.length-q.pos:=by
  have:=(List.takeWhile_sublist zY (l:=s.drop q.pos)).length_le
  rwa [List.length_drop] at this
 have hpa:=hNu q.pos
 have hnq:jQ s q=({ q with pos:=q.pos+((s.drop q.pos).takeWhile zY).length,big:=Bool.or q.big (decide ((zJ ((s.drop q.pos).takeWhile zY)).2=3)),bad:=Bool.or q.bad (decide ((zJ ((s.drop q.pos).takeWhile zY)).2≠3∧(zJ ((s.drop q.pos).takeWhile zY)).2≠0)) },
  .mk 4 0 (if (zJ ((s.drop q.pos).takeWhile zY)).2=3 then ⟨false,[48],0⟩ else (zJ ((s.drop q.pos).takeWhile zY)).1) [] [] [] 0):=rfl
 rw [hnq]
 have htw:=fun k=>vU (p:=zY) (l:=s.drop q.pos) (n:=k)
 have hA:(s.drop q.pos).take ((s.drop q.pos).takeWhile zY).length=(s.drop q.pos).takeWhile zY:=(List.prefix_iff_eq_take.1 (List.takeWhile_prefix zY)).symm
 generalize (s.drop q.pos).takeWhile zY=A at *
 generalize zJ A=p at *
 obtain ⟨dc,e⟩:=p
 simp only [Dc.enc] at hpa
 simp only
 refine rgn [] [[]] ?_
 refine op1 tok ?_
 refine qA (rgn [] [[],[],[],[],[0,2,3]] ?_)
 iterate 5 refine op1 tok ?_
 refine qA (AW.seq (AW.block ?_))
 refine AW.loop (α:=Nat) (fun k=>k≤A.length) (fun k=>⟨zI 66 [(0,.ptr 2 0),(2,.ptr 902 0),(3,.p (.int .i64 q.pos))],[2],[(2,.vars 70 [.p (.str s),.p (.int .i64 (q.pos+k:Nat)),.p (.int .i64 q.nodes),.p (.bool q.bad),.p (.bool q.deep),.p (.bool q.big)]),(902,.vars 42 [.p (.int .i64 0),.p (.int .u64 0),.p (.bool false),.p (.str []),.p (.int .i64 0),.p (.str []),.nilsl,.nilsl,.p (.int .i64 0)])],900⟩) (fun k=>A.length-k) (0) (by omega) ⟨qE (by simp),rfl,by simp,by simp⟩ ?_
 rintro k hk
 have hlt:=htw k hk
 have hg:=fun h=>getD_some (s:=s) (k:=q.pos+k) h
 have hnu:=qWJ (G:=G) (s.getD (q.pos+k) 0)
 generalize s.getD (q.pos+k) 0=c at *
 refine AW.seq ?_
 refine AW.seqDrawS tok mixed 22 [[0],[10],[11],[12],[0],[14],[15],[16],[17],[13,18],[19],[0,20],[21,20],[22,20],[23,20],[0,20],[25,20],[26,20],[27,20],[24,28,20],[29,20],[20,30]] [.int .u8 c.toNat,.nilp,.bool (zY c)] [] (by kernel_rfl) ?_
 iterate 11 refine d1 ?_ (hv:=by first | with_reducible exact True.intro | (first | (intros; exact ⟨by assumption,by omega,c,hg (by omega),rfl⟩) | (intros; exact ⟨by omega,by omega,c,hg (by omega),rfl⟩) | (intros; exact ⟨by omega,hnu⟩) | (intros; exact hnu); done) | omega | simp | (simp +contextual; omega))
 iterate 10 refine d2 20 rfl rfl ?_ (hv:=by first | with_reducible exact True.intro | (first | (intros; exact ⟨by assumption,by omega,c,hg (by omega),rfl⟩) | (intros; exact ⟨by omega,by omega,c,hg (by omega),rfl⟩) | (intros; exact ⟨by omega,hnu⟩) | (intros; exact hnu); done) | omega | simp | (simp +contextual; omega))
 refine d1 ?_ (hv:=by first | with_reducible exact True.intro | (first | (intros; exact ⟨by assumption,by omega,c,hg (by omega),rfl⟩) | (intros; exact ⟨by omega,by omega,c,hg (by omega),rfl⟩) | (intros; exact ⟨by omega,hnu⟩) | (intros; exact hnu); done) | omega | simp | (simp +contextual; omega))
 refine DGo.nil (by kernel_rfl) ⟨by kernel_rfl, ?_⟩
 refine qB.nil ?_
 refine cnd ?_ ?_
 ·intro h31
  try simp at h31
  have hkb:k<A.length:=hlt.2 ⟨c,by rw [List.getElem?_drop]; exact hg (by omega),h31.2⟩
  refine AW.skip (AW.block (rgz [] [[],[],[],[],[],[0,2,3,36,37],[],[0,2,3]] ?_))
  iterate 8 refine op1 tok ?_
  refine qA ?_
  exact ⟨k+1,by omega,by omega,qE (by simp [show (q.pos:Int)+((k:Int)+1)=(q.pos:Int)+k+1 from by omega]),rfl,by simp [show (q.pos:Int)+((k:Int)+1)=(q.pos:Int)+k+1 from by omega],by simp [show (q.pos:Int)+((k:Int)+1)=(q.pos:Int)+k+1 from by omega]⟩
 intro h31
 try simp at h31
 have hkb:k=A.length:=by
  rcases Nat.lt_or_ge k A.length with h | h
  ·obtain ⟨b,hb1,hb2⟩:=hlt.1 h
   rw [List.getElem?_drop] at hb1
   have hl:=(List.getElem?_eq_some_iff.1 hb1).1
   rw [hg hl] at hb1
   cases hb1
   have:=h31 (by omega)
   rw [hb2] at this; cases this
  omega
 subst hkb
 have hsl:(s.take (q.pos+A.length)).drop q.pos=A:=by rw [List.drop_take,Nat.add_sub_cancel_left]; exact hA
 have hti:((q.pos:Int)+(A.length:Int)).toNat=q.pos+A.length:=by omega
 refine AW.exit ?_
 simp
 refine AW.seqDrawS tok mixed 16 [[0],[40],[41],[42],[3],[0],[45],[46],[47],[43,44,48],[49],[50],[39],[39],[],[4,51]] [.nilp,.tup [.agg [.bool dc.neg,.str dc.digits,.int .i64 dc.scale],.int .i64 e]] [] (by kernel_rfl) ?_
 iterate 16 refine d1 ?_ (h:=by intro C; conv=>lhs; simp [hti,hsl]) (hv:=by first | with_reducible exact True.intro | (first | exact hpa | omega | (intros; omega); done) | omega | simp | (simp +contextual; omega))
 refine DGo.nil (by kernel_rfl) ⟨by kernel_rfl, ?_⟩
 refine qB.run [[0,2,4,5]] ?_
 refine op1 tok ?_ (h:=by intro C; conv=>lhs; simp [hti,hsl])
 refine qA (AW.seq (rgn [] [[],[0,2,4,5,54]] ?_))
 iterate 2 refine op1 tok ?_
 refine qA (cnd ?_ ?_)
 ·intro h54
  try simp at h54
  subst h54
  rw [if_pos rfl]
  refine rgn [] [[],[],[],[2,4]] ?_
  iterate 4 refine op1 tok ?_
  refine qA (rgz [] [[],[2,4]] ?_)
  iterate 2 refine op1 tok ?_
  refine qA (rgn [] [[],[],[2]] ?_)
  iterate 3 refine op1 tok ?_
  refine qA ?_
  refine AW.fillE 902 [none,none,none,none,none,none,some 1,some 9,none] (by conv=>lhs; simp) ?_
  exact AW.ret qV
 intro h54
 try simp at h54
 rw [if_neg h54]
 refine rgn [] [[],[0,2,4,60]] ?_
 iterate 2 refine op1 tok ?_
 refine qA (cnd ?_ ?_)
 ·intro h60
  try simp at h60
  simp only [ne_eq,h54,h60,not_false_eq_true,and_self,decide_true,decide_false]
  refine rgz [] [[],[],[],[2,4]] ?_
  iterate 4 refine op1 tok ?_
  refine qA (rgn [] [[],[],[2]] ?_)
  iterate 3 refine op1 tok ?_
  refine qA ?_
  refine AW.fillE 902 [none,none,none,none,none,none,some 1,some 9,none] (by conv=>lhs; simp) ?_
  exact AW.ret (qV (k:=by simp [h54]))
 intro h60
 try simp at h60
 subst h60
 refine AW.skip (rgn [] [[],[],[2]] ?_)
 iterate 3 refine op1 tok ?_
 refine qA ?_
 refine AW.fillE 902 [none,none,none,none,none,none,some 1,some 9,none] (by conv=>lhs; simp) ?_
 exact AW.ret qV
theorem zHE (ks:List (List UInt8)) (vs:List Val) (key:List UInt8) (v:Val) (hlen:ks.length=vs.length) (hl:vs.length≤1000000000):AX Tryz.prog G 96 [.agg [.p (.int .i64 7),.p (.int .u64 0),.p (.bool false),.p (.str []),.p (.int .i64 0),.p (.str []),.ms 3,.ms 8,.p (.int .i64 0)],.p (.str key),.p v.enc] [(3,.row 9 1 (ks.map PD.str)),(8,.row 42 9 (vs.map Val.enc))] (.agg [.p (.int .i64 7),.p (.int .u64 0),.p (.bool false),.p (.str []),.p (.int .i64 0),.p (.str []),.ms 3,.ms 8,.p (.int .i64 0)]) [] [(3,.row 9 1 ((kW ks vs key v).1.map PD.str)),(8,.row 42 9 ((kW ks vs key v).2.map Val.enc))]:=by
 refine AX.introU tok 900 Tryz.func96 (by kernel_rfl) rfl rfl ?_
 simp only [Tryz.f96,qO,List.map_cons,List.map_nil]
 have hput:kW ks vs key v=if key∈ks then (ks,vs.set (ks.idxOf key) v) else (ks++[key],vs++[v]):=rfl
 rw [hput]
 refine rgn [] [[],[],[1,3,5,6]] ?_
 iterate 3 refine op1 tok ?_
 refine qA (AW.seq (rgn [] [[]] ?_))
 refine op1 tok ?_
 refine qA (AW.block ?_)
 refine AW.loop (α:=Nat) (fun k=>k≤ks.length∧key ∉ ks.take k) (fun k=>⟨zI 41 [(1,.p (.str key)),(3,.ptr 903 0),(5,.ptr 905 0),(6,.ptr 906 0),(7,.p (.int .i64 k))],[3,8],[(903,.vars 42 [.p (.int .i64 7),.p (.int .u64 0),.p (.bool false),.p (.str []),.p (.int .i64 0),.p (.str []),.ms 3,.ms 8,.p (.int .i64 0)]),(905,.vars 42 v.cells),(906,.vars 42 [.p (.int .i64 0),.p (.int .u64 0),.p (.bool false),.p (.str []),.p (.int .i64 0),.p (.str []),.nilsl,.nilsl,.p (.int .i64 0)]),(3,.row 9 1 (ks.map PD.str)),(8,.row 42 9 (vs.map Val.enc))],900⟩) (fun k=>ks.length-k) (0) ⟨by omega,by simp⟩ ⟨qE (by simp),rfl,by simp,by simp⟩ ?_
 rintro k ⟨hk,hno⟩
 refine AW.seq (rgn [] [[],[],[],[],[1,3,5,6,7,12]] ?_)
 iterate 5 refine op1 tok ?_
 refine qA (cnd ?_ ?_)
 ·intro h12
  try simp at h12
  obtain ⟨x,hx⟩:∃ x,ks[k]?=some x:=⟨ks[k],by simp [h12]⟩
  refine AW.skip (AW.seq (AW.block (rgn [.str x] [[],[],[],[],[1,3,5,6,7,19],[],[1,3,5,6,7,21]] ?_)))
  iterate 7 refine op1 tok ?_ (hv:=by first | with_reducible exact True.intro | (first | (simp [hx]; done) | (simp [hx]; omega); done) | omega | simp | (simp +contextual; omega))
  refine qA (cnd ?_ ?_)
  ·intro h21
   try simp at h21
   subst h21
   have hm:x∈ks:=List.mem_of_getElem? hx
   have hi:ks.idxOf x=k:=by
    obtain ⟨h1,h2⟩:=List.getElem?_eq_some_iff.1 hx
    have h3:=List.take_append_drop k ks
    rw [← h3,List.idxOf_append,if_neg hno,List.drop_eq_getElem_cons h1,h2,List.idxOf_cons_self]
    simp; omega
   rw [if_pos hm,hi]
   obtain ⟨o,ho⟩:∃ o,vs[k]?=some o:=⟨vs[k]'(by omega),by simp⟩
   refine rgn [o.enc,v.enc] [[],[],[],[],[3,6,25,26],[3,6]] ?_
   iterate 6 refine op1 tok ?_ (hv:=by first | with_reducible exact True.intro | (first | omega | (simp [ho]; done) | (simp [ho,Val.cells,V.fitsL]; done); done) | omega | simp | (simp +contextual; omega))
   refine qA (rgn [] [[],[6]] ?_)
   iterate 2 refine op1 tok ?_
   refine qA ?_
   exact AW.ret qV
  intro h21
  try simp at h21
  have hno2:key ∉ ks.take (k+1):=by
   rw [List.take_add_one,hx]
   simp only [Option.toList_some,List.mem_append,List.mem_singleton,not_or]
   exact ⟨hno,fun e=>h21 e.symm⟩
  refine AW.skip (rgz [] [[],[],[1,3,5,6,7]] ?_)
  iterate 3 refine op1 tok ?_
  refine qA ?_
  exact ⟨k+1,⟨by omega,hno2⟩,by omega,qE (by simp),rfl,by simp,by simp⟩
 intro h12
 try simp at h12
 rw [List.take_of_length_le (by omega)] at hno
 rw [if_neg hno]
 refine AW.exit ?_
 simp
 refine rgn [.str key] [[],[],[],[],[3,5,6,32],[],[3,5,6]] ?_
 iterate 7 refine op1 tok ?_
 refine qA (rgn [v.enc] [[],[],[],[],[3,6,38],[],[3,6]] ?_)
 iterate 7 refine op1 tok ?_
 refine qA (rgn [] [[],[6]] ?_)
 iterate 2 refine op1 tok ?_
 refine qA ?_
 exact AW.ret qV
end Go.Proofs.YtlmedakhioiahaaGreatDoor
