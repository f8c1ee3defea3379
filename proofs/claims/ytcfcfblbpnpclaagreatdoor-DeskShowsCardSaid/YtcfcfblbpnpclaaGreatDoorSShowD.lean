import Derived.Test.YtcfcfblbpnpclaaGreatDoorSLineD
import Derived.Test.YtcfcfblbpnpclaaGreatDoorSCore37
namespace Go.Proofs.YtcfcfblbpnpclaaGreatDoor
open Sy Go
set_option maxRecDepth 100000
set_option maxHeartbeats 4000000
set_option linter.unusedSimpArgs false
set_option linter.unusedVariables false
variable {G:qM}
def okI (n:Int):Prop := -9223372036854775808≤n∧n≤9223372036854775807
structure OOK (o:Outc) (N M:Nat):Prop where
 c:okI o.code
 d:okI o.docs
 u:okI o.outs
 h:okI o.charge
 e:∀ n∈o.errs,okI n
 el:o.errs.length≤N
 ol:o.out.length≤M
 ll:o.log.length≤M
theorem uV {n:Int} (h:okI n):∀ x∈[n], -9223372036854775808≤x∧x≤9223372036854775807:=fun x hx=>by rw [List.mem_singleton.1 hx]; exact h
theorem qDV (o:Outc) (hP:PWd G) (ho:OOK o 1000 1000000):AFn Tryz.prog G 7 [o.enc] (.str (qBT o)):=by
 refine AFn.introU tok Tryz.func7 (by kernel_rfl) rfl rfl ?_
 simp only [Tryz.f7,qT,List.map_cons,List.map_nil]
 obtain ⟨hc,hd,hu,hh,he,hel,hol,hll⟩:=ho
 have l1:=uW (G:=G) [99,111,100,101] [o.code] hP (by simp) (by simp) (uV hc)
 have l2:=uW (G:=G) [100,111,110,101] [o.docs,o.outs,o.charge] hP (by simp) (by simp) (fun n hn=>by simp at hn; rcases hn with rfl | rfl | rfl; exact hd; exact hu; exact hh)
 have l3:=uW (G:=G) [101,114,114,111,114,115] o.errs hP (by omega) (by simp) he
 have l4:=qCL (G:=G) [111,117,116] o.out hP (by omega) (by simp)
 have l5:=qCL (G:=G) [108,111,103] o.log hP (by omega) (by simp)
 have b1:(qX [99,111,100,101] [o.code]).length≤30000:=by unfold qX; have:=zO (l:=[o.code]) (uV hc); simp at this ⊢; omega
 have b2:(qX [100,111,110,101] [o.docs,o.outs,o.charge]).length≤30000:=by unfold qX; have:=zO (l:=[o.docs,o.outs,o.charge]) (fun n hn=>by simp at hn; rcases hn with rfl | rfl | rfl; exact hd; exact hu; exact hh); simp at this ⊢; omega
 have b3:(qX [101,114,114,111,114,115] o.errs).length≤30000:=by unfold qX; have:=zO he; simp at this ⊢; omega
 have q4:∀ n∈[(o.out.length:Int),(wN o.out:Int)], -9223372036854775808≤n∧n≤9223372036854775807:=fun n hn=>by have:=kZ o.out; simp at hn; rcases hn with rfl | rfl <;> omega
 have q5:∀ n∈[(o.log.length:Int),(wN o.log:Int)], -9223372036854775808≤n∧n≤9223372036854775807:=fun n hn=>by have:=kZ o.log; simp at hn; rcases hn with rfl | rfl <;> omega
 have b4:(qX [111,117,116] [o.out.length,wN o.out]).length≤30000:=by unfold qX; have:=zO q4; simp at this ⊢; omega
 have b5:(qX [108,111,103] [o.log.length,wN o.log]).length≤30000:=by unfold qX; have:=zO q5; simp at this ⊢; omega
 have e:qBT o=qX [99,111,100,101] [o.code]++qX [100,111,110,101] [o.docs,o.outs,o.charge]++qX [101,114,114,111,114,115] o.errs++qX [111,117,116] [o.out.length,wN o.out]++qX [108,111,103] [o.log.length,wN o.log]:=rfl
 rw [e,Outc.enc_def]
 generalize qX [99,111,100,101] [o.code]=L1 at *
 generalize qX [100,111,110,101] [o.docs,o.outs,o.charge]=L2 at *
 generalize qX [101,114,114,111,114,115] o.errs=L3 at *
 generalize qX [111,117,116] [o.out.length,wN o.out]=L4 at *
 generalize qX [108,111,103] [o.log.length,wN o.log]=L5 at *
 simp only [List.map_cons,List.map_nil,inD] at l1 l2
 refine rgn [] [[],[1]] ?_
 iterate 2 refine op1 tok ?_
 refine qA (rgn [] [[]] ?_)
 refine op1 tok ?_
 refine qA (AW.seq (rgn [] [[],[],[],[1,3,7,8,9]] ?_))
 iterate 4 refine op1 tok ?_
 refine qA (AW.block ?_)
 refine AW.beginE 3 100 3 1 (by simp) (by simp) (by conv=>lhs; simp) ?_
 refine AW.loop (α:=Nat) (fun k=>k≤o.errs.length) (fun k=>⟨qZ 42 [(1,.ptr 1 0),(3,.ms 100),(7,.p (.sl 1 (o.errs.map inD))),(8,.p (.int .i64 o.errs.length)),(9,.p (.int .i64 k))],[],[(1,.vars 28 [.p (.int .i64 o.code),.p (.int .i64 o.docs),.p (.int .i64 o.outs),.p (.int .i64 o.charge),.p (.sl 1 (o.errs.map inD)),.p (.sl 1 (o.out.map byD)),.p (.sl 1 (o.log.map byD))]),(100,.row 3 1 (List.take k (o.errs.map inD)))],0⟩) (fun k=>o.errs.length-k) (0) (by omega) ⟨qJ (by simp),rfl,by simp,by simp⟩ ?_
 rintro k hk
 refine rgn [] [[]] ?_
 refine op1 tok ?_
 refine qA (AW.seq (cnd ?_ ?_))
 ·intro h10
  try simp at h10
  obtain ⟨n,hx⟩:∃ n,o.errs[k]?=some n:=⟨o.errs[k]'(by omega),by simp [show k<o.errs.length by omega]⟩
  have htk:List.take (k+1) (o.errs.map inD)=List.take k (o.errs.map inD)++[.int .i64 n]:=by rw [List.take_add_one,List.getElem?_map,hx]; rfl
  refine AW.skip (AW.seq (AW.block (rgn [.int .i64 n] [[],[],[1,3,5,7,8,9]] ?_)))
  iterate 3 refine op1 tok ?_ (hv:=by first | with_reducible exact True.intro | (first | (simp [hx,inD]; done) | (simp [hx,inD]; omega); done) | omega | simp | (simp +contextual; omega))
  refine qA (rgz [.int .i64 n] [[],[],[],[1,7,8,9,16],[1,3,7,8,9]] ?_)
  iterate 5 refine op1 tok ?_
  refine qA (rgz [] [[],[1,3,7,8,9]] ?_)
  iterate 2 refine op1 tok ?_
  refine qA ?_
  exact ⟨k+1,by omega,by omega,qJ (by simp [htk]),rfl,by simp [htk],by simp [htk]⟩
 intro h10
 try simp at h10
 obtain rfl:k=o.errs.length:=by omega
 rw [show List.take o.errs.length (o.errs.map inD)=o.errs.map inD from List.take_of_length_le (by simp)]
 refine AW.exit ?_
 simp
 refine AW.seqDrawR mixed 24 [[1],[18],[19],[20],[1],[22],[1],[24],[1],[26],[23,25,27],[28],[21,29],[3],[31],[30,32],[1],[34],[35],[33,36],[1],[38],[39],[37,40]] [] (by kernel_rfl) ?_
 iterate 2 refine qI.one tok (orc:=[]) (by intro C; conv=>lhs; simp) (by first | with_reducible exact True.intro | (first | exact l1 | exact l2 | exact l4 | exact l5 | (simp; omega); done) | omega | simp | (simp +contextual; omega)) rfl (by kernel_rfl) ?_
 refine qI.plainRow tok [.int .i64 o.code] rfl rfl rfl rfl rfl rfl rfl (by conv=>lhs; simp) (by simp) (by decide) (by decide) 51 (by simp) (by kernel_rfl) (by conv=>lhs; simp) ?_
 refine qI.one tok (orc:=[.nilp,.str L1]) (by intro C; conv=>lhs; simp) (by first | with_reducible exact True.intro | (first | exact l1 | exact l2 | exact l4 | exact l5 | (simp; omega); done) | omega | simp | (simp +contextual; omega)) rfl (by kernel_rfl) ?_
 iterate 6 refine qI.one tok (orc:=[]) (by intro C; conv=>lhs; simp) (by first | with_reducible exact True.intro | (first | exact l1 | exact l2 | exact l4 | exact l5 | (simp; omega); done) | omega | simp | (simp +contextual; omega)) rfl (by kernel_rfl) ?_
 refine qI.plainRow tok [.int .i64 o.docs,.int .i64 o.outs,.int .i64 o.charge] rfl rfl rfl rfl rfl rfl rfl (by conv=>lhs; simp) (by simp) (by decide) (by decide) 510 (by simp) (by kernel_rfl) (by conv=>lhs; simp) ?_
 refine qI.one tok (orc:=[.nilp,.str L2]) (by intro C; conv=>lhs; simp) (by first | with_reducible exact True.intro | (first | exact l1 | exact l2 | exact l4 | exact l5 | (simp; omega); done) | omega | simp | (simp +contextual; omega)) rfl (by kernel_rfl) ?_
 refine qI.one tok (orc:=[]) (by intro C; conv=>lhs; simp) (by first | with_reducible exact True.intro | (first | exact l1 | exact l2 | exact l4 | exact l5 | (simp; omega); done) | omega | simp | (simp +contextual; omega)) rfl (by kernel_rfl) ?_
 refine qI.q [100] (.ms 100) rfl (qFS tok (orc:=[]) (orc':=[]) (v:=True) (by conv=>lhs; simp) trivial) (by simp) (by kernel_rfl) (by conv=>lhs; simp) ?_
 refine qI.callZ [(100,.row 3 1 (o.errs.map inD))] l3 rfl rfl rfl trivial (by simp) (by simp) (by kernel_rfl) (by simp) (by kernel_rfl) (by kernel_rfl) (by conv=>lhs; simp) ?_
 iterate 3 refine qI.one tok (orc:=[]) (by intro C; conv=>lhs; simp) (by first | with_reducible exact True.intro | (first | exact l1 | exact l2 | exact l4 | exact l5 | (simp; omega); done) | omega | simp | (simp +contextual; omega)) rfl (by kernel_rfl) ?_
 refine qI.one tok (orc:=[.nilp,.str L4]) (by intro C; conv=>lhs; simp) (by first | with_reducible exact True.intro | (first | exact l1 | exact l2 | exact l4 | exact l5 | (simp; omega); done) | omega | simp | (simp +contextual; omega)) rfl (by kernel_rfl) ?_
 iterate 3 refine qI.one tok (orc:=[]) (by intro C; conv=>lhs; simp) (by first | with_reducible exact True.intro | (first | exact l1 | exact l2 | exact l4 | exact l5 | (simp; omega); done) | omega | simp | (simp +contextual; omega)) rfl (by kernel_rfl) ?_
 refine qI.one tok (orc:=[.nilp,.str L5]) (by intro C; conv=>lhs; simp) (by first | with_reducible exact True.intro | (first | exact l1 | exact l2 | exact l4 | exact l5 | (simp; omega); done) | omega | simp | (simp +contextual; omega)) rfl (by kernel_rfl) ?_
 refine qI.one tok (orc:=[]) (by intro C; conv=>lhs; simp) (by first | with_reducible exact True.intro | (first | exact l1 | exact l2 | exact l4 | exact l5 | (simp; omega); done) | omega | simp | (simp +contextual; omega)) rfl (by kernel_rfl) ?_
 refine qI.nil (by kernel_rfl) ⟨by kernel_rfl, ?_⟩
 refine qB.run [[2]] ?_
 refine op1 tok ?_
 exact qA (AW.ret jE)
theorem qGW (o:Outc) (hP:PWd G) (ho:OOK o 1000 1000000):AFn Tryz.prog G 8 [o.enc] (.str (qBT o)):=by
 refine AFn.introU tok Tryz.func8 (by kernel_rfl) rfl rfl ?_
 simp only [Tryz.f8,qT,List.map_cons,List.map_nil]
 obtain ⟨hc,hd,hu,hh,he,hel,hol,hll⟩:=ho
 have q4:∀ n∈[(o.out.length:Int),(wN o.out:Int)], -9223372036854775808≤n∧n≤9223372036854775807:=fun n hn=>by have:=kZ o.out; simp at hn; rcases hn with rfl | rfl <;> omega
 have q5:∀ n∈[(o.log.length:Int),(wN o.log:Int)], -9223372036854775808≤n∧n≤9223372036854775807:=fun n hn=>by have:=kZ o.log; simp at hn; rcases hn with rfl | rfl <;> omega
 have l1:=kS (G:=G) [99,111,100,101] [o.code] hP (by simp) (by simp) (uV hc)
 have l2:=kS (G:=G) [100,111,110,101] [o.docs,o.outs,o.charge] hP (by simp) (by simp) (fun n hn=>by simp at hn; rcases hn with rfl | rfl | rfl; exact hd; exact hu; exact hh)
 have l3:=kS (G:=G) [101,114,114,111,114,115] o.errs hP (by omega) (by simp) he
 have l4:=kS (G:=G) [111,117,116] [o.out.length,wN o.out] hP (by simp) (by simp) q4
 have l5:=kS (G:=G) [108,111,103] [o.log.length,wN o.log] hP (by simp) (by simp) q5
 have s4:=qDT (G:=G) o.out (by omega)
 have s5:=qDT (G:=G) o.log (by omega)
 have z4:=kZ o.out
 have z5:=kZ o.log
 have b1:(qX [99,111,100,101] [o.code]).length≤30000:=by unfold qX; have:=zO (l:=[o.code]) (uV hc); simp at this ⊢; omega
 have b2:(qX [100,111,110,101] [o.docs,o.outs,o.charge]).length≤30000:=by unfold qX; have:=zO (l:=[o.docs,o.outs,o.charge]) (fun n hn=>by simp at hn; rcases hn with rfl | rfl | rfl; exact hd; exact hu; exact hh); simp at this ⊢; omega
 have b3:(qX [101,114,114,111,114,115] o.errs).length≤30000:=by unfold qX; have:=zO he; simp at this ⊢; omega
 have b4:(qX [111,117,116] [o.out.length,wN o.out]).length≤30000:=by unfold qX; have:=zO q4; simp at this ⊢; omega
 have b5:(qX [108,111,103] [o.log.length,wN o.log]).length≤30000:=by unfold qX; have:=zO q5; simp at this ⊢; omega
 have e:qBT o=qX [99,111,100,101] [o.code]++qX [100,111,110,101] [o.docs,o.outs,o.charge]++qX [101,114,114,111,114,115] o.errs++qX [111,117,116] [o.out.length,wN o.out]++qX [108,111,103] [o.log.length,wN o.log]:=rfl
 rw [e,Outc.enc_def]
 generalize qX [99,111,100,101] [o.code]=L1 at *
 generalize qX [100,111,110,101] [o.docs,o.outs,o.charge]=L2 at *
 generalize qX [101,114,114,111,114,115] o.errs=L3 at *
 generalize qX [111,117,116] [o.out.length,wN o.out]=L4 at *
 generalize qX [108,111,103] [o.log.length,wN o.log]=L5 at *
 generalize wN o.out=S4 at *
 generalize wN o.log=S5 at *
 simp only [List.map_cons,List.map_nil,inD] at l1 l2 l4 l5
 refine rgn [] [[],[1]] ?_
 iterate 2 refine op1 tok ?_
 refine qA (rgn [] [[],[1,3]] ?_)
 iterate 2 refine op1 tok ?_
 refine qA (AW.seq (rgn [] [[]] ?_))
 refine op1 tok ?_
 refine qA (AW.block ?_)
 refine AW.loop (α:=Nat) (fun k=>k≤o.errs.length) (fun k=>⟨qZ 59 [(1,.ptr 1 0),(3,.ms 6),(4,.p (.int .i64 k))],[],[(1,.vars 28 [.p (.int .i64 o.code),.p (.int .i64 o.docs),.p (.int .i64 o.outs),.p (.int .i64 o.charge),.p (.sl 1 (o.errs.map inD)),.p (.sl 1 (o.out.map byD)),.p (.sl 1 (o.log.map byD))]),(6,.row 3 1 (List.take k (o.errs.map inD)))],0⟩) (fun k=>o.errs.length-k) (0) (by omega) ⟨qJ (by simp),rfl,by simp,by simp⟩ ?_
 rintro k hk
 refine AW.seq (rgn [] [[],[],[],[],[1,3,4,11]] ?_)
 iterate 5 refine op1 tok ?_
 refine qA (cnd ?_ ?_)
 ·intro h11
  try simp at h11
  obtain ⟨n,hx⟩:∃ n,o.errs[k]?=some n:=⟨o.errs[k]'(by omega),by simp [show k<o.errs.length by omega]⟩
  have htk:List.take (k+1) (o.errs.map inD)=List.take k (o.errs.map inD)++[.int .i64 n]:=by rw [List.take_add_one,List.getElem?_map,hx]; rfl
  refine AW.skip (AW.seq (AW.block (rgz [.int .i64 n,.int .i64 n] [[],[],[],[],[1,4,14,18],[],[],[1,4,21],[1,3,4]] ?_)))
  iterate 9 refine op1 tok ?_ (hv:=by first | with_reducible exact True.intro | (first | (simp [hx,inD]; done) | (simp [hx,inD]; omega) | (simp; omega); done) | omega | simp | (simp +contextual; omega))
  refine qA (rgz [] [[],[],[1,3,4]] ?_)
  iterate 3 refine op1 tok ?_
  refine qA ?_
  exact ⟨k+1,by omega,by omega,qJ (by simp [htk]),rfl,by simp [htk],by simp [htk]⟩
 intro h11
 try simp at h11
 obtain rfl:k=o.errs.length:=by omega
 rw [show List.take o.errs.length (o.errs.map inD)=o.errs.map inD from List.take_of_length_le (by simp)]
 refine AW.exit ?_
 simp
 refine AW.seqDrawR mixed 16 [[1],[22],[23],[24],[1],[26],[1],[28],[1],[30],[27,29,31],[32],[25,33],[3],[35],[34,36]] [] (by kernel_rfl) ?_
 iterate 2 refine qI.one tok (orc:=[]) (by intro C; conv=>lhs; simp) (by first | with_reducible exact True.intro | (first | exact l1 | exact l2 | (simp; omega); done) | omega | simp | (simp +contextual; omega)) rfl (by kernel_rfl) ?_
 refine qI.plainRow tok [.int .i64 o.code] rfl rfl rfl rfl rfl rfl rfl (by conv=>lhs; simp) (by simp) (by decide) (by decide) 51 (by simp) (by kernel_rfl) (by conv=>lhs; simp) ?_
 refine qI.one tok (orc:=[.nilp,.str L1]) (by intro C; conv=>lhs; simp) (by first | with_reducible exact True.intro | (first | exact l1 | exact l2 | (simp; omega); done) | omega | simp | (simp +contextual; omega)) rfl (by kernel_rfl) ?_
 iterate 6 refine qI.one tok (orc:=[]) (by intro C; conv=>lhs; simp) (by first | with_reducible exact True.intro | (first | exact l1 | exact l2 | (simp; omega); done) | omega | simp | (simp +contextual; omega)) rfl (by kernel_rfl) ?_
 refine qI.plainRow tok [.int .i64 o.docs,.int .i64 o.outs,.int .i64 o.charge] rfl rfl rfl rfl rfl rfl rfl (by conv=>lhs; simp) (by simp) (by decide) (by decide) 510 (by simp) (by kernel_rfl) (by conv=>lhs; simp) ?_
 refine qI.one tok (orc:=[.nilp,.str L2]) (by intro C; conv=>lhs; simp) (by first | with_reducible exact True.intro | (first | exact l1 | exact l2 | (simp; omega); done) | omega | simp | (simp +contextual; omega)) rfl (by kernel_rfl) ?_
 refine qI.one tok (orc:=[]) (by intro C; conv=>lhs; simp) (by first | with_reducible exact True.intro | (first | exact l1 | exact l2 | (simp; omega); done) | omega | simp | (simp +contextual; omega)) rfl (by kernel_rfl) ?_
 refine qI.q [6] (.ms 6) rfl (qFS tok (orc:=[]) (orc':=[]) (v:=True) (by conv=>lhs; simp) trivial) (by simp) (by kernel_rfl) (by conv=>lhs; simp) ?_
 refine qI.callZ [(6,.row 3 1 (o.errs.map inD))] l3 rfl rfl rfl trivial (by simp) (by simp) (by kernel_rfl) (by simp) (by kernel_rfl) (by kernel_rfl) (by conv=>lhs; simp) ?_
 refine qI.one tok (orc:=[]) (by intro C; conv=>lhs; simp) (by first | with_reducible exact True.intro | (first | exact l1 | exact l2 | (simp; omega); done) | omega | simp | (simp +contextual; omega)) rfl (by kernel_rfl) ?_
 refine qI.nil (by kernel_rfl) ⟨by kernel_rfl, ?_⟩
 refine qB.run [[1,5]] ?_
 refine op1 tok ?_
 refine qA ?_
 refine AW.seqDrawR mixed 21 [[5],[1],[39],[40],[1],[42],[43],[44],[41,45],[46],[38,47],[1],[49],[50],[1],[52],[53],[54],[51,55],[56],[48,57]] [] (by kernel_rfl) ?_
 iterate 6 refine qI.one tok (orc:=[]) (by intro C; conv=>lhs; simp) (by first | with_reducible exact True.intro | (first | exact s4 | exact s5 | exact l4 | exact l5 | (simp; omega); done) | omega | simp | (simp +contextual; omega)) rfl (by kernel_rfl) ?_
 refine qI.one tok (orc:=[.nilp,.int .u32 S4]) (by intro C; conv=>lhs; simp) (by first | with_reducible exact True.intro | (first | exact s4 | exact s5 | exact l4 | exact l5 | (simp; omega); done) | omega | simp | (simp +contextual; omega)) rfl (by kernel_rfl) ?_
 refine qI.one tok (orc:=[]) (by intro C; conv=>lhs; simp) (by first | with_reducible exact True.intro | (first | exact s4 | exact s5 | exact l4 | exact l5 | (simp; omega); done) | omega | simp | (simp +contextual; omega)) rfl (by kernel_rfl) ?_
 refine qI.plainRow tok [.int .i64 o.out.length,.int .i64 S4] rfl rfl rfl rfl rfl rfl rfl (by conv=>lhs; simp) (by simp) (by decide) (by decide) 52 (by simp) (by kernel_rfl) (by conv=>lhs; simp) ?_
 refine qI.one tok (orc:=[.nilp,.str L4]) (by intro C; conv=>lhs; simp) (by first | with_reducible exact True.intro | (first | exact s4 | exact s5 | exact l4 | exact l5 | (simp; omega); done) | omega | simp | (simp +contextual; omega)) rfl (by kernel_rfl) ?_
 iterate 6 refine qI.one tok (orc:=[]) (by intro C; conv=>lhs; simp) (by first | with_reducible exact True.intro | (first | exact s4 | exact s5 | exact l4 | exact l5 | (simp; omega); done) | omega | simp | (simp +contextual; omega)) rfl (by kernel_rfl) ?_
 refine qI.one tok (orc:=[.nilp,.int .u32 S5]) (by intro C; conv=>lhs; simp) (by first | with_reducible exact True.intro | (first | exact s4 | exact s5 | exact l4 | exact l5 | (simp; omega); done) | omega | simp | (simp +contextual; omega)) rfl (by kernel_rfl) ?_
 refine qI.one tok (orc:=[]) (by intro C; conv=>lhs; simp) (by first | with_reducible exact True.intro | (first | exact s4 | exact s5 | exact l4 | exact l5 | (simp; omega); done) | omega | simp | (simp +contextual; omega)) rfl (by kernel_rfl) ?_
 refine qI.plainRow tok [.int .i64 o.log.length,.int .i64 S5] rfl rfl rfl rfl rfl rfl rfl (by conv=>lhs; simp) (by simp) (by decide) (by decide) 520 (by simp) (by kernel_rfl) (by conv=>lhs; simp) ?_
 refine qI.one tok (orc:=[.nilp,.str L5]) (by intro C; conv=>lhs; simp) (by first | with_reducible exact True.intro | (first | exact s4 | exact s5 | exact l4 | exact l5 | (simp; omega); done) | omega | simp | (simp +contextual; omega)) rfl (by kernel_rfl) ?_
 refine qI.one tok (orc:=[]) (by intro C; conv=>lhs; simp) (by first | with_reducible exact True.intro | (first | exact s4 | exact s5 | exact l4 | exact l5 | (simp; omega); done) | omega | simp | (simp +contextual; omega)) rfl (by kernel_rfl) ?_
 refine qI.nil (by kernel_rfl) ⟨by kernel_rfl, ?_⟩
 refine qB.run [[2]] ?_
 refine op1 tok ?_
 exact qA (AW.ret jE)
def vO (o:Outc):Outc:={ o with errs:=o.errs.take 70,out:=o.out.take 600,log:=o.log.take 600 }
end Go.Proofs.YtcfcfblbpnpclaaGreatDoor
