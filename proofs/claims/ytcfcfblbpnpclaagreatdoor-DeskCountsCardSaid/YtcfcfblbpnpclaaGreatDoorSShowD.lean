import Derived.Test.YtcfcfblbpnpclaaGreatDoorSLineD
import Derived.Test.YtcfcfblbpnpclaaGreatDoorSCore37
namespace Go.Proofs.YtcfcfblbpnpclaaGreatDoor
open Sy Go
set_option maxRecDepth 100000
set_option maxHeartbeats 4000000
set_option linter.unusedSimpArgs false
set_option linter.unusedVariables false
variable {G:qK}
def okI (n:Int):Prop := -9223372036854775808≤n∧n≤9223372036854775807
structure OOK (o:Outc) (N M:Nat):Prop where
 c:okI o.code
 d:okI o.docs
 u:okI o.outs
 h:okI o.charge
 e:∀ n∈o.errs,okI n
 el:o.errs.length≤N
 ol:o.out.length≤M
 ll:o.log.length≤M
theorem qFV {n:Int} (h:okI n):∀ x∈[n], -9223372036854775808≤x∧x≤9223372036854775807:=fun x hx=>by rw [List.mem_singleton.1 hx]; exact h
theorem qHT (o:Outc) (hP:PWd G) (ho:OOK o 1000 1000000):AFn Tryz.prog G 7 [o.enc] (.str (qHS o)):=by
 refine AFn.introU tok Tryz.func7 (by kernel_rfl) rfl rfl ?_
 simp only [Tryz.f7,qV,List.map_cons,List.map_nil]
 obtain ⟨hc,hd,hu,hh,he,hel,hol,hll⟩:=ho
 have l1:=uQ (G:=G) [99,111,100,101] [o.code] hP (by simp) (by simp) (qFV hc)
 have l2:=uQ (G:=G) [100,111,110,101] [o.docs,o.outs,o.charge] hP (by simp) (by simp) (fun n hn=>by simp at hn; rcases hn with rfl | rfl | rfl; exact hd; exact hu; exact hh)
 have l3:=uQ (G:=G) [101,114,114,111,114,115] o.errs hP (by omega) (by simp) he
 have l4:=qCO (G:=G) [111,117,116] o.out hP (by omega) (by simp)
 have l5:=qCO (G:=G) [108,111,103] o.log hP (by omega) (by simp)
 have b1:(zQ [99,111,100,101] [o.code]).length≤30000:=by unfold zQ; have:=wX (l:=[o.code]) (qFV hc); simp at this ⊢; omega
 have b2:(zQ [100,111,110,101] [o.docs,o.outs,o.charge]).length≤30000:=by unfold zQ; have:=wX (l:=[o.docs,o.outs,o.charge]) (fun n hn=>by simp at hn; rcases hn with rfl | rfl | rfl; exact hd; exact hu; exact hh); simp at this ⊢; omega
 have b3:(zQ [101,114,114,111,114,115] o.errs).length≤30000:=by unfold zQ; have:=wX he; simp at this ⊢; omega
 have q4:∀ n∈[(o.out.length:Int),(jJ o.out:Int)], -9223372036854775808≤n∧n≤9223372036854775807:=fun n hn=>by have:=qCU o.out; simp at hn; rcases hn with rfl | rfl <;> omega
 have q5:∀ n∈[(o.log.length:Int),(jJ o.log:Int)], -9223372036854775808≤n∧n≤9223372036854775807:=fun n hn=>by have:=qCU o.log; simp at hn; rcases hn with rfl | rfl <;> omega
 have b4:(zQ [111,117,116] [o.out.length,jJ o.out]).length≤30000:=by unfold zQ; have:=wX q4; simp at this ⊢; omega
 have b5:(zQ [108,111,103] [o.log.length,jJ o.log]).length≤30000:=by unfold zQ; have:=wX q5; simp at this ⊢; omega
 have e:qHS o=zQ [99,111,100,101] [o.code]++zQ [100,111,110,101] [o.docs,o.outs,o.charge]++zQ [101,114,114,111,114,115] o.errs++zQ [111,117,116] [o.out.length,jJ o.out]++zQ [108,111,103] [o.log.length,jJ o.log]:=rfl
 rw [e,Outc.enc_def]
 generalize zQ [99,111,100,101] [o.code]=L1 at *
 generalize zQ [100,111,110,101] [o.docs,o.outs,o.charge]=L2 at *
 generalize zQ [101,114,114,111,114,115] o.errs=L3 at *
 generalize zQ [111,117,116] [o.out.length,jJ o.out]=L4 at *
 generalize zQ [108,111,103] [o.log.length,jJ o.log]=L5 at *
 simp only [List.map_cons,List.map_nil,inD] at l1 l2
 refine rgn [] [[],[1]] ?_
 iterate 2 refine op1 tok ?_
 refine qA (rgn [] [[]] ?_)
 refine op1 tok ?_
 refine qA (AW.seq (rgn [] [[],[],[],[1,3,7,8,9]] ?_))
 iterate 4 refine op1 tok ?_
 refine qA (AW.block ?_)
 refine AW.beginE 3 100 3 1 (by simp) (by simp) (by conv=>lhs; simp) ?_
 refine AW.loop (α:=Nat) (fun k=>k≤o.errs.length) (fun k=>⟨zA 42 [(1,.ptr 1 0),(3,.ms 100),(7,.p (.sl 1 (o.errs.map inD))),(8,.p (.int .i64 o.errs.length)),(9,.p (.int .i64 k))],[],[(1,.vars 28 [.p (.int .i64 o.code),.p (.int .i64 o.docs),.p (.int .i64 o.outs),.p (.int .i64 o.charge),.p (.sl 1 (o.errs.map inD)),.p (.sl 1 (o.out.map byD)),.p (.sl 1 (o.log.map byD))]),(100,.row 3 1 (List.take k (o.errs.map inD)))],0⟩) (fun k=>o.errs.length-k) (0) (by omega) ⟨qM (by simp),rfl,by simp,by simp⟩ ?_
 rintro k hk
 refine rgn [] [[]] ?_
 refine op1 tok ?_
 refine qA (AW.seq (cnd ?_ ?_))
 ·intro h10
  try simp at h10
  obtain ⟨n,hx⟩:∃ n,o.errs[k]?=some n:=⟨o.errs[k]'(by omega),by simp [show k<o.errs.length by omega]⟩
  have htk:List.take (k+1) (o.errs.map inD)=List.take k (o.errs.map inD)++[.int .i64 n]:=by rw [List.take_add_one,List.getElem?_map,hx]; rfl
  refine AW.skip (AW.seq (AW.block (rgn [.int .i64 n] [[],[],[1,3,5,7,8,9]] ?_)))
  iterate 3 refine op1 tok ?_ (hv:=by first | with_reducible exact True.intro | (first | (simp [hx,inD]; done) | (simp [hx,inD]; omega); done) | omega | simp | (simp +contextual; omega))
  refine qA (rgz [.int .i64 n] [[],[],[],[1,7,8,9,16],[1,3,7,8,9]] ?_)
  iterate 5 refine op1 tok ?_
  refine qA (rgz [] [[],[1,3,7,8,9]] ?_)
  iterate 2 refine op1 tok ?_
  refine qA ?_
  exact ⟨k+1,by omega,by omega,qM (by simp [htk]),rfl,by simp [htk],by simp [htk]⟩
 intro h10
 try simp at h10
 obtain rfl:k=o.errs.length:=by omega
 rw [show List.take o.errs.length (o.errs.map inD)=o.errs.map inD from List.take_of_length_le (by simp)]
 refine AW.exit ?_
 simp
 refine AW.seqDrawR mixed 24 [[1],[18],[19],[20],[1],[22],[1],[24],[1],[26],[23,25,27],[28],[21,29],[3],[31],[30,32],[1],[34],[35],[33,36],[1],[38],[39],[37,40]] [] (by kernel_rfl) ?_
 iterate 2 refine qJ.one tok (orc:=[]) (by intro C; conv=>lhs; simp) (by first | with_reducible exact True.intro | (first | exact l1 | exact l2 | exact l4 | exact l5 | (simp; omega); done) | omega | simp | (simp +contextual; omega)) rfl (by kernel_rfl) ?_
 refine qJ.plainRow tok [.int .i64 o.code] rfl rfl rfl rfl rfl rfl rfl (by conv=>lhs; simp) (by simp) (by decide) (by decide) 51 (by simp) (by kernel_rfl) (by conv=>lhs; simp) ?_
 refine qJ.one tok (orc:=[.nilp,.str L1]) (by intro C; conv=>lhs; simp) (by first | with_reducible exact True.intro | (first | exact l1 | exact l2 | exact l4 | exact l5 | (simp; omega); done) | omega | simp | (simp +contextual; omega)) rfl (by kernel_rfl) ?_
 iterate 6 refine qJ.one tok (orc:=[]) (by intro C; conv=>lhs; simp) (by first | with_reducible exact True.intro | (first | exact l1 | exact l2 | exact l4 | exact l5 | (simp; omega); done) | omega | simp | (simp +contextual; omega)) rfl (by kernel_rfl) ?_
 refine qJ.plainRow tok [.int .i64 o.docs,.int .i64 o.outs,.int .i64 o.charge] rfl rfl rfl rfl rfl rfl rfl (by conv=>lhs; simp) (by simp) (by decide) (by decide) 510 (by simp) (by kernel_rfl) (by conv=>lhs; simp) ?_
 refine qJ.one tok (orc:=[.nilp,.str L2]) (by intro C; conv=>lhs; simp) (by first | with_reducible exact True.intro | (first | exact l1 | exact l2 | exact l4 | exact l5 | (simp; omega); done) | omega | simp | (simp +contextual; omega)) rfl (by kernel_rfl) ?_
 refine qJ.one tok (orc:=[]) (by intro C; conv=>lhs; simp) (by first | with_reducible exact True.intro | (first | exact l1 | exact l2 | exact l4 | exact l5 | (simp; omega); done) | omega | simp | (simp +contextual; omega)) rfl (by kernel_rfl) ?_
 refine qJ.q [100] (.ms 100) rfl (qJM tok (orc:=[]) (orc':=[]) (v:=True) (by conv=>lhs; simp) trivial) (by simp) (by kernel_rfl) (by conv=>lhs; simp) ?_
 refine qJ.callZ [(100,.row 3 1 (o.errs.map inD))] l3 rfl rfl rfl trivial (by simp) (by simp) (by kernel_rfl) (by simp) (by kernel_rfl) (by kernel_rfl) (by conv=>lhs; simp) ?_
 iterate 3 refine qJ.one tok (orc:=[]) (by intro C; conv=>lhs; simp) (by first | with_reducible exact True.intro | (first | exact l1 | exact l2 | exact l4 | exact l5 | (simp; omega); done) | omega | simp | (simp +contextual; omega)) rfl (by kernel_rfl) ?_
 refine qJ.one tok (orc:=[.nilp,.str L4]) (by intro C; conv=>lhs; simp) (by first | with_reducible exact True.intro | (first | exact l1 | exact l2 | exact l4 | exact l5 | (simp; omega); done) | omega | simp | (simp +contextual; omega)) rfl (by kernel_rfl) ?_
 iterate 3 refine qJ.one tok (orc:=[]) (by intro C; conv=>lhs; simp) (by first | with_reducible exact True.intro | (first | exact l1 | exact l2 | exact l4 | exact l5 | (simp; omega); done) | omega | simp | (simp +contextual; omega)) rfl (by kernel_rfl) ?_
 refine qJ.one tok (orc:=[.nilp,.str L5]) (by intro C; conv=>lhs; simp) (by first | with_reducible exact True.intro | (first | exact l1 | exact l2 | exact l4 | exact l5 | (simp; omega); done) | omega | simp | (simp +contextual; omega)) rfl (by kernel_rfl) ?_
 refine qJ.one tok (orc:=[]) (by intro C; conv=>lhs; simp) (by first | with_reducible exact True.intro | (first | exact l1 | exact l2 | exact l4 | exact l5 | (simp; omega); done) | omega | simp | (simp +contextual; omega)) rfl (by kernel_rfl) ?_
 refine qJ.nil (by kernel_rfl) ⟨by kernel_rfl, ?_⟩
 refine qC.run [[2]] ?_
 refine op1 tok ?_
 exact qA (AW.ret xP)
def qKP (o:Outc):Outc:={ o with errs:=o.errs.take 70,out:=o.out.take 600,log:=o.log.take 600 }
end Go.Proofs.YtcfcfblbpnpclaaGreatDoor
