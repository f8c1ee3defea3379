import Derived.Test.YtgcbapchinideaaGreatDoorSInsS
namespace Go.Proofs.YtgcbapchinideaaGreatDoor
open Sy Go
set_option maxRecDepth 100000
set_option maxHeartbeats 4000000
set_option linter.unusedSimpArgs false
set_option linter.unusedVariables false
variable {G:qK}
theorem qIF (X A M B Y:List Val) (hl:X.length+A.length+M.length+B.length+Y.length≤1000000) (hab:A.length=B.length):AX Tryz.prog G 232 [.ms 890,.p (.int .i64 X.length),.p (.int .i64 ((X.length+A.length+M.length:Nat):Int)),.p (.int .i64 A.length),.p (.fn 83)] [(890,.row 31 9 (zF (X++(A++(M++(B++Y))))))] (.tuple []) [890] [(890,.row 31 9 (zF (X++(B++(M++(A++Y))))))]:=by
 refine AX.introU tok 700 Tryz.func232 (by kernel_rfl) rfl rfl ?_
 simp only [Tryz.f232,qH,List.map_cons,List.map_nil]
 refine rgn [] [[]] ?_
 refine op1 tok ?_
 refine qA (AW.block ?_)
 refine AW.loop (α:=Nat) (fun k=>k≤A.length) (fun k=>⟨qS 38 [(0,.ms 890),(1,.p (.int .i64 X.length)),(2,.p (.int .i64 ((X.length+A.length+M.length:Nat):Int))),(3,.p (.int .i64 A.length)),(10,.p (.int .i64 k))],[890],[(890,.row 31 9 (zF (X++(B.take k++(A.drop k++(M++(A.take k++(B.drop k++Y))))))))],700⟩) (fun k=>A.length-k) (0) (by omega) ⟨qB (by simp),rfl,by simp,by simp⟩ ?_
 rintro k hk
 refine AW.seq (rgn [] [[],[],[0,1,2,3,10,13]] ?_)
 iterate 3 refine op1 tok ?_
 refine qA (cnd ?_ ?_)
 ·intro h13
  try simp at h13
  obtain ⟨p,hp⟩:∃ x,A[k]?=some x:=⟨A[k]'(by omega),by simp [show k<A.length by omega]⟩
  obtain ⟨q,hq⟩:∃ x,B[k]?=some x:=⟨B[k]'(by omega),by simp [show k<B.length by omega]⟩
  have hd1:A.drop k=p::A.drop (k+1):=by
   obtain ⟨h1,h2⟩:=List.getElem?_eq_some_iff.1 hp
   rw [List.drop_eq_getElem_cons h1,h2]
  have hd2:B.drop k=q::B.drop (k+1):=by
   obtain ⟨h1,h2⟩:=List.getElem?_eq_some_iff.1 hq
   rw [List.drop_eq_getElem_cons h1,h2]
  have ht1:A.take (k+1)=A.take k++[p]:=by rw [List.take_add_one,hp]; rfl
  have ht2:B.take (k+1)=B.take k++[q]:=by rw [List.take_add_one,hq]; rfl
  have hla:(A.take k).length=k:=by rw [List.length_take]; omega
  have hlb:(B.take k).length=k:=by rw [List.length_take]; omega
  have hl3:(A.drop (k+1)).length=A.length-(k+1):=List.length_drop
  have hl4:(B.drop (k+1)).length=A.length-(k+1):=by rw [List.length_drop]; omega
  rw [hd1,hd2]
  have hfin:zF (X++(B.take (k+1)++(A.drop (k+1)++(M++(A.take (k+1)++(B.drop (k+1)++Y))))))=zF (X++(B.take k++(q::(A.drop (k+1)++(M++(A.take k++(p::(B.drop (k+1)++Y)))))))):=by rw [ht1,ht2]; simp
  generalize hA1:A.take k=A1 at *
  generalize hB1:B.take k=B1 at *
  generalize hA3:A.drop (k+1)=A3 at *
  generalize hB3:B.drop (k+1)=B3 at *
  have hn1:(X++B1).length=X.length+k:=by simp [hlb]
  have hn2:(X++(B1++(p::(A3++(M++A1))))).length=X.length+A.length+M.length+k:=by simp [hla,hlb,hl3]; omega
  have hn3:(X++(B1++(q::(A3++(M++A1))))).length=X.length+A.length+M.length+k:=by simp [hla,hlb,hl3]; omega
  have b1:=wL (A:=X++B1) (B:=A3++(M++(A1++(q::(B3++Y))))) (x:=p)
  have b2:=wL (A:=X++(B1++(p::(A3++(M++A1))))) (B:=B3++Y) (x:=q)
  have b3:=vC (A:=X++B1) (B:=A3++(M++(A1++(q::(B3++Y))))) (x:=p) (y:=q)
  have b4:=wL (A:=X++(B1++(q::(A3++(M++A1))))) (B:=B3++Y) (x:=q)
  have b5:=vC (A:=X++(B1++(q::(A3++(M++A1))))) (B:=B3++Y) (x:=q) (y:=p)
  rw [hn1] at b1 b3
  rw [hn2] at b2
  rw [hn3] at b4 b5
  simp only [List.append_assoc,List.cons_append] at b1 b2 b3 b4 b5
  have hrl:(zF (X++(B1++(p::(A3++(M++(A1++(q::(B3++Y))))))))).length=X.length+A.length+M.length+A.length+Y.length:=by rw [yL]; simp [hla,hlb,hl3,hl4]; omega
  have ht:((X.length:Int)+k).toNat=X.length+k:=by omega
  have htb:((X.length:Int)+A.length+M.length+k).toNat=X.length+A.length+M.length+k:=by omega
  simp only [Val.enc_def p,Val.enc_def q] at b1 b2 b3 b4 b5
  refine AW.skip (AW.seq (AW.block ?_))
  refine AW.drawR mixed 22 [[0],[1],[10],[17,18],[0],[2],[10],[21,22],[0],[2],[10],[25,26],[24,27],[28],[0],[1],[10],[31,32],[30,33],[34],[16,19],[36,29]] [q.enc,p.enc] (by kernel_rfl) ?_
  iterate 4 refine zB.one tok (orc:=[]) (by intro C; conv=>lhs; simp) (by first | with_reducible exact True.intro | (first | (rw [ht]; exact b1) | (rw [htb]; exact b2) | (refine ⟨by omega, ?_⟩; rw [hrl]; omega) | omega; done) | omega | simp | (simp +contextual; omega)) rfl (by kernel_rfl) ?_
  refine zB.q [890] (.ms 890) rfl (qAD tok (orc:=[]) (orc':=[]) (v:=True) (by conv=>lhs; simp) trivial) (by simp) (by kernel_rfl) (by conv=>lhs; simp) ?_
  iterate 8 refine zB.one tok (orc:=[]) (by intro C; conv=>lhs; simp) (by first | with_reducible exact True.intro | (first | (rw [ht]; exact b1) | (rw [htb]; exact b2) | (refine ⟨by omega, ?_⟩; rw [hrl]; omega) | omega; done) | omega | simp | (simp +contextual; omega)) rfl (by kernel_rfl) ?_
  refine zB.one tok (orc:=[q.enc]) (by intro C; conv=>lhs; simp) (by first | with_reducible exact True.intro | (first | (rw [ht]; exact b1) | (rw [htb]; exact b2) | (refine ⟨by omega, ?_⟩; rw [hrl]; omega) | omega; done) | omega | simp | (simp +contextual; omega)) rfl (by kernel_rfl) ?_
  iterate 5 refine zB.one tok (orc:=[]) (by intro C; conv=>lhs; simp) (by first | with_reducible exact True.intro | (first | (rw [ht]; exact b1) | (rw [htb]; exact b2) | (refine ⟨by omega, ?_⟩; rw [hrl]; omega) | omega; done) | omega | simp | (simp +contextual; omega)) rfl (by kernel_rfl) ?_
  refine zB.one tok (orc:=[p.enc]) (by intro C; conv=>lhs; simp) (by first | with_reducible exact True.intro | (first | (rw [ht]; exact b1) | (rw [htb]; exact b2) | (refine ⟨by omega, ?_⟩; rw [hrl]; omega) | omega; done) | omega | simp | (simp +contextual; omega)) rfl (by kernel_rfl) ?_
  refine zB.one tok (orc:=[]) (by intro C; conv=>lhs; simp) (by first | with_reducible exact True.intro | (first | (rw [ht]; exact b1) | (rw [htb]; exact b2) | (refine ⟨by omega, ?_⟩; rw [hrl]; omega) | omega; done) | omega | simp | (simp +contextual; omega)) rfl (by kernel_rfl) ?_
  refine zB.one tok (orc:=[p.enc,q.enc]) (by intro C; conv=>lhs; simp) (by first | with_reducible exact True.intro | (first | (rw [ht]; exact b1) | (rw [htb]; exact b2) | (refine ⟨by omega, ?_⟩; rw [hrl]; omega) | omega; done) | omega | simp | (simp +contextual; omega)) rfl (by kernel_rfl) ?_
  refine zB.nil (by kernel_rfl) ⟨by kernel_rfl, ?_⟩
  refine qF.run [[],[0,1,2,3,10]] ?_
  iterate 2 refine op1 tok ?_ (hv:=by first | with_reducible exact True.intro | (first | (rw [ht,htb,b3]; exact b4) | (refine ⟨by omega, ?_⟩; rw [List.length_set,hrl]; omega) | omega; done) | omega | simp | (simp +contextual; omega))
  refine qA (rgz [] [[],[],[0,1,2,3,10]] ?_)
  iterate 3 refine op1 tok ?_
  refine qA ?_
  exact ⟨k+1,by omega,by omega,qB (by simp [ht,htb,b3,b5,hA3,hB3,hfin]),rfl,by simp [ht,htb,b3,b5,hA3,hB3,hfin],by simp [ht,htb,b3,b5,hA3,hB3,hfin]⟩
 intro h13
 try simp at h13
 obtain rfl:k=A.length:=by omega
 have h1:A.take A.length=A:=List.take_length
 have h2:A.drop A.length=[]:=List.drop_length
 have h3:B.take A.length=B:=by rw [hab]; exact List.take_length
 have h4:B.drop A.length=[]:=by rw [hab]; exact List.drop_length
 rw [h1,h2,h3,h4]
 refine AW.exit ?_
 simp
 exact qCV
end Go.Proofs.YtgcbapchinideaaGreatDoor
