import Derived.Test.YtlmedakhioiahaaGreatDoorK1
import Derived.Test.YtlmedakhioiahaaGreatDoorK2
import Derived.Test.YtlmedakhioiahaaGreatDoorSPrintAll
namespace Go.Proofs.YtlmedakhioiahaaGreatDoor
open Sy Go
set_option maxRecDepth 100000
set_option maxHeartbeats 4000000
set_option linter.unusedSimpArgs false
set_option linter.unusedVariables false
variable {G:qO}
def qBT (s:List UInt8):Val := .mk 5 0 dc0 s [] [] 0
def qDM (n:Int):Val := .mk 4 0 (uC n) [] [] [] 0
def zN (j:Jb):List Val:=[qBT j.p,qBT j.f,qBT j.i,qBT j.n,qDM j.a,qDM j.b,qDM j.c,qDM j.d]
def qCA (j:Jb):Val := .mk 7 0 dc0 [] yU (zN j) 0
def qRZ (j:Jb):List UInt8 × Int:=if (zN j).all wF=true then (qR (qCA j),0) else ([],1)
def wC (j:Jb) (k:Nat):List UInt8:=[j.p,j.f,j.i,j.n].getD k []
def yT (j:Jb) (k:Nat):Int:=[j.a,j.b,j.c,j.d].getD k 0
theorem qJD (j:Jb) {k:Nat} (h:k<4):yU[k]?=zF[k]?∧(∃ s,zF[k]?=some s)∧j.cells[k]?=some (.p (.str (wC j k)))∧(zN j)[k]?=some (qBT (wC j k))∧∀ i,([V.ptr i 0,V.ptr i 1,V.ptr i 2,V.ptr i 3])[k]?=some (.ptr i k):=by
 match k,h with
 | 0,_=>exact ⟨rfl,⟨_,rfl⟩,rfl,rfl,fun _=>rfl⟩
 | 1,_=>exact ⟨rfl,⟨_,rfl⟩,rfl,rfl,fun _=>rfl⟩
 | 2,_=>exact ⟨rfl,⟨_,rfl⟩,rfl,rfl,fun _=>rfl⟩
 | 3,_=>exact ⟨rfl,⟨_,rfl⟩,rfl,rfl,fun _=>rfl⟩
theorem qFS (j:Jb) {k:Nat} (h:k<4):yU[k+4]?=zY[k]?∧(∃ s,zY[k]?=some s∧s ∉ zF)∧j.cells[k+4]?=some (.p (.int .i64 (yT j k)))∧(zN j)[k+4]?=some (qDM (yT j k))∧∀ i,([V.ptr i 4,V.ptr i 5,V.ptr i 6,V.ptr i 7])[k]?=some (.ptr i (k+4)):=by
 match k,h with
 | 0,_=>exact ⟨rfl,⟨_,rfl,by decide⟩,rfl,rfl,fun _=>rfl⟩
 | 1,_=>exact ⟨rfl,⟨_,rfl,by decide⟩,rfl,rfl,fun _=>rfl⟩
 | 2,_=>exact ⟨rfl,⟨_,rfl,by decide⟩,rfl,rfl,fun _=>rfl⟩
 | 3,_=>exact ⟨rfl,⟨_,rfl,by decide⟩,rfl,rfl,fun _=>rfl⟩
def zCA (j:Jb):Prop:=∀ k,k<4 → -9223372036854775808≤yT j k∧yT j k≤9223372036854775807
theorem qXC (hG:U8 G) (j:Jb) (hb:zCA j) (hP:(zN j).all wF=true→AFn Tryz.prog G 22 [(qCA j).enc] (.str (qR (qCA j)))):AFn Tryz.prog G 7 [j.enc] (.tup [.str (qRZ j).1,.int .i64 (qRZ j).2]):=by
 refine AFn.introU tok Tryz.func7 (by kernel_rfl) rfl rfl ?_
 simp only [Tryz.f7,qL,List.map_cons,List.map_nil]
 have hkeys:=qHM (G:=G)
 have hM:qRZ j=if (zN j).all wF=true then (qR (qCA j),0) else ([],1):=rfl
 have hw:=qRD (G:=G) 1 j.cells (by decide) (by simp [V.noRefL,V.noRef])
 have hn:=qKX (G:=G) 1 j.cells (by decide) (by simp [V.noRefL,V.noRef])
 have hkl:(zN j).length=8:=rfl
 have hjl:yU.length=8:=rfl
 rw [hM]
 refine rgn [] [[],[],[1]] ?_
 iterate 3 refine op1 tok ?_
 refine qA (rgn [.nilp,.sl 1 (yU.map PD.str)] [[],[],[],[1,4]] ?_)
 iterate 4 refine oq1 tok hkeys ?_
 refine qA (AW.seq (rgn [] [[],[],[],[1,4,13,14,15]] ?_))
 iterate 4 refine op1 tok ?_
 refine qA (AW.block ?_)
 refine AW.beginBox 4 800 7 42 9 (by simp; exact ⟨rfl,rfl⟩) (by simp) (by simp) (by conv=>lhs; simp) ?_
 refine AW.loop (α:=Nat) (fun k=>k≤8∧((zN j).take k).all wF=true) (fun k=>⟨zD 50 [(1,.ptr 1 0),(4,.ptr 4 0),(13,.p (.sl 1 (yU.map PD.str))),(14,.p (.int .i64 8)),(15,.p (.int .i64 k))],[],[(1,.vars 23 j.cells),(4,.vars 42 [.p (.int .i64 7),.p (.int .u64 0),.p (.bool false),.p (.str []),.p (.int .i64 0),.p (.str []),.p (.sl 1 (yU.map PD.str)),.ms 800,.p (.int .i64 0)]),(800,.row 42 9 (((zN j).take k).map Val.enc))],0⟩) (fun k=>8-k) (0) ⟨by omega,by simp⟩ ⟨qD (by simp [hjl]),rfl,by simp,by simp⟩ ?_
 rintro k ⟨hk,hall⟩
 refine rgn [] [[]] ?_
 refine op1 tok ?_
 refine qA (AW.seq (cnd ?_ ?_))
 ·intro h16
  try simp at h16
  obtain ⟨key,hkey⟩:∃ s,yU[k]?=some s:=⟨yU[k]'(by omega),List.getElem?_eq_getElem _⟩
  refine AW.skip (AW.seq (AW.block (rgn [.str key] [[],[],[1,4,6,13,14,15]] ?_)))
  iterate 3 refine op1 tok ?_ (hv:=by first | with_reducible exact True.intro | (first | (simp [hkey]; done) | (simp [hkey,hjl]; omega); done) | omega | simp | (simp +contextual; omega))
  refine qA (rgn [] [[],[],[1,4,6,7,13,14,15]] ?_)
  iterate 3 refine op1 tok ?_
  refine qA (AW.seq ?_)
  by_cases hs6:k<4
  ·
   obtain ⟨w1,⟨s1,w2⟩,w3,w4,w5⟩:=qJD j hs6
   have hkw:zF[k]?=some key:=by rw [← w1]; exact hkey
   have hmay:=qXK (G:=G) hG (qBT (wC j k))
   have hen:(qBT (wC j k)).enc = .agg [.int .i64 5,.int .u64 0,.bool false,.str [],.int .i64 0,.str (wC j k),.sl 1 [],.sl 9 [],.int .i64 0]:=by rw [Val.enc_def]; rfl
   rw [hen] at hmay
   have hte:((zN j).take (k+1)).map Val.enc=((zN j).take k).map Val.enc++[.agg [.int .i64 5,.int .u64 0,.bool false,.str [],.int .i64 0,.str (wC j k),.sl 1 [],.sl 9 [],.int .i64 0]]:=by rw [List.take_add_one,w4,List.map_append]; show _++[Val.enc _]=_; rw [hen]
   have hta:((zN j).take (k+1)).all wF=(((zN j).take k).all wF && wF (qBT (wC j k))):=by rw [List.take_add_one,w4,List.all_append]; simp
   have hno:wF (qBT (wC j k))=false→¬ (zN j).all wF=true:=fun h h'=>by
    have:=List.all_eq_true.1 h' _ (List.mem_of_getElem? w4)
    rw [h] at this; cases this
   generalize wF (qBT (wC j k))=mk at *
   refine AW.seqRegionO [] ?_
   refine qB.stepK [1,4,6,7,13,14,15,21] (qZ rfl hw (by simp)) (by conv=>lhs; simp) rfl ?_
   refine qB.run [[]] ?_
   refine op1 tok ?_
   refine qI ?_
   refine qB.stepK [1,4,6,7,13,14,15,23] (qCW tok rfl rfl rfl (by conv=>lhs; simp) trivial (by conv=>lhs; simp) trivial rfl (by decide) k hkw (w5 1)) (by conv=>lhs; simp) rfl ?_
   refine qB.run [[],[],[],[],[1,4,6,7,8,9,13,14,15]] ?_
   iterate 5 refine op1 tok ?_
   refine qA (rgn [] [[1,4,6,7,8,13,14,15,26]] ?_)
   refine op1 tok ?_
   refine qA (cnd ?_ ?_)
   ·intro h26
    try simp at h26
    refine rgz [] [[],[]] ?_
    iterate 2 refine op1 tok ?_
    refine qI ?_
    refine qB.stepK [1,4,7,13,14,15,29] (qJP tok rfl rfl rfl (by conv=>lhs; simp) trivial rfl w3) (by conv=>lhs; simp) rfl ?_
    refine qB.run [[],[1,4,7,13,14,15]] ?_
    iterate 2 refine op1 tok ?_
    refine qA (AW.seq (rgn [.nilp,.bool mk] [[],[],[1,4,7,13,14,15,40]] ?_))
    iterate 3 refine oq1 tok hmay ?_
    refine qA (cnd ?_ ?_)
    ·intro h40
     try simp at h40
     rw [if_neg (hno (by simpa using h40))]
     refine rgn [] [[],[]] ?_
     iterate 2 refine op1 tok ?_
     exact qA (AW.ret qK)
    intro h40
    try simp at h40
    have hmk:mk=true:=by simpa using h40
    refine AW.skip (rgz [.agg [.int .i64 5,.int .u64 0,.bool false,.str [],.int .i64 0,.str (wC j k),.sl 1 [],.sl 9 [],.int .i64 0]] [[],[],[],[],[1,4,13,14,15,45],[],[1,4,13,14,15]] ?_)
    iterate 7 refine op1 tok ?_ (hv:=by first | with_reducible exact True.intro | (first | (simp; done) | (simp; omega); done) | omega | simp | (simp +contextual; omega))
    refine qA (rgz [] [[],[1,4,13,14,15]] ?_)
    iterate 2 refine op1 tok ?_
    refine qA ?_
    exact ⟨k+1,⟨by omega,by rw [hta,hall,hmk]; rfl⟩,by omega,qD (by simp [hte]),rfl,by simp [hte],by simp [hte]⟩
   intro h26
   try simp at h26
  ·
   obtain ⟨m,rfl⟩:∃ m,k=m+4:=⟨k-4,by omega⟩
   obtain ⟨w1,⟨s1,w2,wn⟩,w3,w4,w5⟩:=qFS j (k:=m) (by omega)
   have hkw:zY[m]?=some key:=by rw [← w1]; exact hkey
   have hnw:key ∉ zF:=by rw [w2] at hkw; cases hkw; exact wn
   obtain ⟨nb1,nb2⟩:=hb m (by omega)
   have hdi:=zAM (G:=G) (yT j m) nb1 nb2
   have hmay:=qXK (G:=G) hG (qDM (yT j m))
   have hen:(qDM (yT j m)).enc = .agg [.int .i64 4,.int .u64 0,.bool (uC (yT j m)).neg,.str (uC (yT j m)).digits,.int .i64 (uC (yT j m)).scale,.str [],.sl 1 [],.sl 9 [],.int .i64 0]:=by rw [Val.enc_def]; rfl
   rw [hen] at hmay
   have hte:((zN j).take (m+4+1)).map Val.enc=((zN j).take (m+4)).map Val.enc++[.agg [.int .i64 4,.int .u64 0,.bool (uC (yT j m)).neg,.str (uC (yT j m)).digits,.int .i64 (uC (yT j m)).scale,.str [],.sl 1 [],.sl 9 [],.int .i64 0]]:=by rw [List.take_add_one,w4,List.map_append]; show _++[Val.enc _]=_; rw [hen]
   have hta:((zN j).take (m+4+1)).all wF=(((zN j).take (m+4)).all wF && wF (qDM (yT j m))):=by rw [List.take_add_one,w4,List.all_append]; simp
   have hno:wF (qDM (yT j m))=false→¬ (zN j).all wF=true:=fun h h'=>by
    have:=List.all_eq_true.1 h' _ (List.mem_of_getElem? w4)
    rw [h] at this; cases this
   generalize wF (qDM (yT j m))=mk at *
   generalize uC (yT j m)=q at *
   simp only [Dc.enc] at hdi
   refine AW.seqRegionO [] ?_
   refine qB.stepK [1,4,6,7,13,14,15,21] (qZ rfl hw (by simp)) (by conv=>lhs; simp) rfl ?_
   refine qB.run [[]] ?_
   refine op1 tok ?_
   refine qI ?_
   refine qB.stepK [1,4,6,7,13,14,15,23] (qCX tok rfl rfl rfl rfl rfl (by conv=>lhs; simp) trivial (by conv=>lhs; simp) trivial rfl hnw) (by conv=>lhs; simp) rfl ?_
   refine qB.run [[],[],[],[],[1,4,6,7,8,9,13,14,15]] ?_
   iterate 5 refine op1 tok ?_
   refine qA (rgn [] [[1,4,6,7,8,13,14,15,26]] ?_)
   refine op1 tok ?_
   refine qA (cnd ?_ ?_)
   ·intro h26
    try simp at h26
   intro h26
   try simp at h26
   refine AW.regionO [.nilp,.agg [.bool q.neg,.str q.digits,.int .i64 q.scale]] ?_
   refine qB.stepK [1,4,6,7,13,14,15,31] (qZ rfl hn (by simp)) (by conv=>lhs; simp) rfl ?_
   refine qB.run [[]] ?_
   refine oq1 tok hdi ?_
   refine qI ?_
   refine qB.stepK [1,4,7,13,14,15,33] (qCW tok rfl rfl rfl (by conv=>lhs; simp) trivial (by conv=>lhs; simp) trivial rfl (by decide) m hkw (w5 1)) (by conv=>lhs; simp) rfl ?_
   refine qB.run [[]] ?_
   refine oq1 tok hdi ?_
   refine qI ?_
   refine qB.stepK [1,4,7,13,14,15,35] (qJP tok rfl rfl rfl (by conv=>lhs; simp) trivial rfl w3) (by conv=>lhs; simp) rfl ?_
   refine qB.run [[],[],[1,4,7,13,14,15]] ?_
   iterate 3 refine oq1 tok hdi ?_
   refine qA (AW.seq (rgn [.nilp,.bool mk] [[],[],[1,4,7,13,14,15,40]] ?_))
   iterate 3 refine oq1 tok hmay ?_
   refine qA (cnd ?_ ?_)
   ·intro h40
    try simp at h40
    rw [if_neg (hno (by simpa using h40))]
    refine rgn [] [[],[]] ?_
    iterate 2 refine op1 tok ?_
    exact qA (AW.ret qK)
   intro h40
   try simp at h40
   have hmk:mk=true:=by simpa using h40
   refine AW.skip (rgz [.agg [.int .i64 4,.int .u64 0,.bool q.neg,.str q.digits,.int .i64 q.scale,.str [],.sl 1 [],.sl 9 [],.int .i64 0]] [[],[],[],[],[1,4,13,14,15,45],[],[1,4,13,14,15]] ?_)
   iterate 7 refine op1 tok ?_ (hv:=by first | with_reducible exact True.intro | (first | (simp; done) | (simp; omega); done) | omega | simp | (simp +contextual; omega))
   refine qA (rgz [] [[],[1,4,13,14,15]] ?_)
   iterate 2 refine op1 tok ?_
   refine qA ?_
   exact ⟨m+4+1,⟨by omega,by rw [hta,hall,hmk]; rfl⟩,by omega,qD (by simp [hte]),rfl,by simp [hte],by simp [hte]⟩
 intro h16
 try simp at h16
 obtain rfl:k=8:=by omega
 have ht8:(zN j).take 8=zN j:=rfl
 rw [ht8] at hall
 rw [if_pos hall]
 have ht9:List.take 8 ((zN j).map Val.enc)=(zN j).map Val.enc:=rfl
 try rw [ht8]
 try rw [ht9]
 have hP:=hP hall
 have hen:(qCA j).enc = .agg [.int .i64 7,.int .u64 0,.bool false,.str [],.int .i64 0,.str [],.sl 1 (yU.map PD.str),.sl 9 ((zN j).map Val.enc),.int .i64 0]:=by rw [Val.enc_def]; rfl
 rw [hen] at hP
 generalize qR (qCA j)=out at *
 generalize (zN j).map Val.enc=kk at *
 refine AW.exit ?_
 simp
 refine AW.freezeE 800 (by conv=>lhs; simp) ?_
 refine rgn [.nilp,.str out] [[],[],[],[2,3]] ?_
 iterate 4 refine oq1 tok hP ?_
 exact qA (AW.ret qK)
end Go.Proofs.YtlmedakhioiahaaGreatDoor
