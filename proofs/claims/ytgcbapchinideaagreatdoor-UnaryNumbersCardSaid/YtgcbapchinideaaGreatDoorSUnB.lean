import Derived.Test.YtgcbapchinideaaGreatDoorK2
namespace Go.Proofs.YtgcbapchinideaaGreatDoor
open Sy Go
set_option maxRecDepth 100000
set_option maxHeartbeats 4000000
set_option linter.unusedSimpArgs false
set_option linter.unusedVariables false
variable {G:qM}
theorem qVZ (s:List UInt8) (m:Int):Few (wP s m):=by
 unfold wP zO
 split <;> exact .mk (by simp) (by simp) (by simp)
theorem qXZ (s:List UInt8):AX Tryz.prog G 36 [.agg [.p (.int .u64 0)],.p (.str s)] [] (.p (wP s 0).enc) [] [] :=
 AX.ofFn (uL s 0) (by simp [V.fitsL,V.fits])
theorem qYV (ws:List (List UInt8)) (m:Int) (hn:ws.length≤1000000):AX Tryz.prog G 66 [.p (.agg [.int .u64 m]),.p (.sl 1 (ws.map PD.str)),.func (.func 36) [.agg [.p (.int .u64 0)]] []] [] (.agg (qJA (ws.map fun s=>wP s 0) m).cells) [] []:=by
 refine AX.introU tok 900 Tryz.func66 (by kernel_rfl) rfl rfl ?_
 simp only [Tryz.f66,qO,List.map_cons,List.map_nil]
 have hl:=qVE (G:=G) (ws.map fun s=>wP s 0) m (by simp [qVZ]) (by simpa using hn)
 generalize hws:(ws.map fun s=>wP s 0)=vs at *
 have hvl:vs.length=ws.length:=by rw [← hws]; simp
 have hvg:∀ (k:Nat) s,ws[k]?=some s→vs[k]?=some (wP s 0):=fun k s h=>by rw [← hws,List.getElem?_map,h]; rfl
 simp only [Val.enc_def] at hl
 refine rgn [] [[],[1,2,3,6]] ?_
 iterate 2 refine op1 tok ?_
 refine qA (rgn [] [[]] ?_)
 refine op1 tok ?_
 refine qA (AW.seq (rgn [] [[],[],[2,3,6,7,10,11,12]] ?_))
 iterate 3 refine op1 tok ?_
 refine qA (AW.block ?_)
 refine AW.beginE 7 50 31 9 (by simp) (by simp) (by conv=>lhs; simp) ?_
 refine AW.loop (α:=Nat) (fun k=>k≤ws.length) (fun k=>⟨zF 26 [(2,.func (.func 36) [.agg [.p (.int .u64 0)]] []),(3,.ptr 903 0),(6,.ptr 906 0),(7,.ms 50),(10,.p (.sl 1 (ws.map PD.str))),(11,.p (.int .i64 ws.length)),(12,.p (.int .i64 k))],[],[(903,.vars 61 [.p (.int .u64 m)]),(906,.vars 31 [.p (.int .i64 0),.p (.int .u64 0),.p (.bool false),.p (.str []),.p (.int .i64 0),.p (.str []),.nilsl,.nilsl,.p (.int .i64 0)]),(50,.row 31 9 ((vs.map Val.enc).take k))],900⟩) (fun k=>ws.length-k) (0) (by omega) ⟨qF (by simp),rfl,by simp,by simp⟩ ?_
 rintro k hk
 refine rgn [] [[]] ?_
 refine op1 tok ?_
 refine qA (AW.seq (cnd ?_ ?_))
 ·intro h13
  try simp at h13
  obtain ⟨s,hs⟩:∃ s,ws[k]?=some s:=⟨ws[k]'(by omega),by simp [show k<ws.length by omega]⟩
  have hv:=hvg k s hs
  have hgp:(vs.map Val.enc)[k]?=some (wP s 0).enc:=by rw [List.getElem?_map,hv]; rfl
  have htk:(vs.map Val.enc).take k++[(wP s 0).enc]=(vs.map Val.enc).take (k+1):=by rw [List.take_add_one,hgp]; rfl
  have hw:=qXZ (G:=G) s
  simp only [Val.enc_def] at htk hw
  refine AW.skip (AW.seq (AW.block (rgn [.str s] [[],[],[2,3,6,7,9,10,11,12]] ?_)))
  iterate 3 refine op1 tok ?_ (hv:=by first | with_reducible exact True.intro | ((simp [hs]); done) | omega | simp | (simp +contextual; omega))
  refine qA (rgz [(wP s 0).enc] [[],[],[]] ?_)
  iterate 3 refine op1 tok ?_
  refine zS ?_
  refine qH.stepK [2,3,6,10,11,12,16,19] (yQ rfl hw (by simp)) (by conv=>lhs; simp) rfl ?_
  refine qH.run [[],[],[2,3,6,7,10,11,12]] ?_
  iterate 3 refine op1 tok ?_
  refine qA (rgz [] [[],[2,3,6,7,10,11,12]] ?_)
  iterate 2 refine op1 tok ?_
  refine qA ?_
  exact ⟨k+1,by omega,by omega,qF (by simp [htk]),rfl,by simp [htk],by simp [htk]⟩
 intro h13
 try simp at h13
 obtain rfl:k=ws.length:=by omega
 have hall:(vs.map Val.enc).take ws.length=vs.map Val.enc:=List.take_of_length_le (by simp [hvl])
 simp only [hall]
 refine AW.exit ?_
 simp
 refine rgn [.nilp,(qJA vs m).enc] [[]] ?_
 refine op1 tok ?_ (hv:=by first | with_reducible exact True.intro | (first | exact hl | (simp at hl ⊢; exact hl); done) | omega | simp | (simp +contextual; omega))
 refine zS ?_
 refine qH.freeze 50 (by conv=>lhs; simp) ?_
 refine qH.run [[],[6,25],[6]] ?_
 iterate 3 refine op1 tok ?_ (hv:=by first | with_reducible exact True.intro | (first | exact hl | (simp at hl ⊢; exact hl); done) | omega | simp | (simp +contextual; omega))
 refine qA ?_
 exact AW.ret yH
end Go.Proofs.YtgcbapchinideaaGreatDoor
