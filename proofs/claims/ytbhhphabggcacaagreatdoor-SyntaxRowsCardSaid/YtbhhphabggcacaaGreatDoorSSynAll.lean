import Derived.Test.YtbhhphabggcacaaGreatDoorSSynO
namespace Go.Proofs.YtbhhphabggcacaaGreatDoor
open Sy Go
set_option maxRecDepth 100000
set_option maxHeartbeats 4000000
set_option linter.unusedSimpArgs false
set_option linter.unusedVariables false
variable {G:qM}
theorem qVY (hE:PE G) (n:Nat):SynAll G n:=by
 induction n using Nat.strongRecOn with
 | _ n ih =>
  cases n with
  | zero =>
   constructor
   ·intro s hi hf; omega
   ·intro b s hi hf; omega
   ·intro w s hi hf; omega
   ·intro s hi hf; omega
   ·intro i s h6 hi hf; omega
   ·intro s hi hf; omega
   ·intro s hi hf; omega
   ·intro w s hi hf; omega
   ·intro s hi hf; omega
   ·intro s hi hf; omega
   ·intro s hi hf; omega
   ·intro s hi hf; omega
   ·intro s hi hf; omega
   ·intro w s hi hf hw; omega
   intro s hi hf; omega
  | succ n =>
   have ih:∀ m,m≤n→SynAll G m:=fun m h=>ih m (by omega)
   exact ⟨fun s hi hf=>qRD n s ih hi hf,fun b s hi hf=>qMU n b s ih hi hf,fun w s hi hf=>qMW n w s ih hi hf,fun s hi hf=>qMJ n s ih hi hf,
    fun i s h6 hi hf=>qOT n i s ih h6 hi hf,fun s hi hf=>qRC n s hE ih hi hf,fun s hi hf=>qQU n s ih hi hf,fun w s hi hf=>qOD n w s ih hi hf,
    fun s hi hf=>qMX n s ih hi hf,fun s hi hf=>qLP n s ih hi hf,fun s hi hf=>qOF n s hE ih hi hf,fun s hi hf=>qRJ n s ih hi hf,fun s hi hf=>qJL n s ih hi hf,
    fun w s hi hf hw=>qLJ n w s ih hi hf hw,fun s hi hf=>qLY n s ih hi hf⟩
theorem qLD (hE:PE G) (s:List UInt8) (l:List Tok) (e:Int) (hl:AFn Tryz.prog G 11 [.str s] (.tup [.sl 6 (l.map Tok.enc),.int .i64 e])) (hok:∀ t∈l,okT t) (hlen:l.length≤1000):AFn Tryz.prog G 7 [.str s] (.tup [.sl 8 ((if e=0 then (qLE l).1 else []).map Nd.enc),.int .i64 (if e=0 then (qLE l).2 else e)]):=by
 refine AFn.introU tok Tryz.func7 (by kernel_rfl) rfl rfl ?_
 simp only [Tryz.f7,qN,List.map_cons,List.map_nil]
 refine rgn [] [[],[0]] ?_
 iterate 2 refine op1 tok ?_
 refine qA (rgn [.nilp,.tup [.sl 6 (l.map Tok.enc),.int .i64 e]] [[],[],[],[],[10,11],[],[4,5]] ?_)
 iterate 7 refine oq1 tok hl ?_
 refine qA (AW.seq (rgn [] [[],[4,5,13]] ?_))
 iterate 2 refine op1 tok ?_
 refine qA (cnd ?_ ?_)
 ·intro h13
  try simp at h13
  rw [if_neg h13,if_neg h13]
  refine rgn [] [[],[],[2,3]] ?_
  iterate 3 refine op1 tok ?_
  exact qA (AW.ret qR)
 intro h13
 try simp at h13
 rw [if_pos h13,if_pos h13]
 have hi:InS 0 0 ⟨l,[],0,false⟩:=⟨hok,by simp,by simp; omega,by simp; omega⟩
 have c1:=(qVY (G:=G) hE (20 * l.length+20)).pipe ⟨l,[],0,false⟩ hi (by simp only; omega)
 have l1:=(zC (20 * l.length+20)).pipe ⟨l,[],0,false⟩
 unfold qLE
 generalize yG (20 * l.length+20) ⟨l,[],0,false⟩=R at *
 obtain ⟨a,q⟩:=R
 simp only [List.map_nil] at c1 l1 ⊢
 refine AW.skip (rgn [] [[],[],[],[6]] ?_)
 iterate 4 refine op1 tok ?_
 refine qA ?_
 refine AW.renE 17 2 (by simp) (by conv=>lhs; simp) ?_
 refine AW.beginBox 2 3 1 36 8 (by simp; exact ⟨rfl,rfl⟩) (by simp) (by simp) (by conv=>lhs; simp) ?_
 refine rgn [] [[]] ?_
 refine op1 tok ?_
 refine qF ?_
 refine qE.stepK [6] (qK rfl c1 (by simp)) (by conv=>lhs; simp) rfl ?_
 refine qE.nil ?_
 refine AW.seq (AW.block (rgn [] [[],[],[],[],[6,25],[],[],[],[],[6,25,30],[],[],[6,20]] ?_))
 iterate 5 refine op1 tok ?_
 iterate 6 refine op2 tok ?_
 iterate 2 refine op1 tok ?_
 refine qA (cnd ?_ ?_)
 ·intro h20
  try simp at h20
  rw [if_pos (by simpa [List.length_pos_iff] using h20)]
  refine rgn [] [[],[]] ?_
  iterate 2 refine op1 tok ?_
  exact qA (AW.ret qR)
 intro h20
 try simp at h20
 rw [if_neg (by simpa [List.length_pos_iff] using h20)]
 refine rgn [] [[],[],[],[],[6,38],[],[6,33]] ?_
 iterate 7 refine op1 tok ?_
 refine qA (cnd ?_ ?_)
 ·intro h33
  try simp at h33
  rw [if_pos (by omega)]
  refine rgn [] [[],[]] ?_
  iterate 2 refine op1 tok ?_
  exact qA (AW.ret qR)
 intro h33
 try simp at h33
 rw [if_neg (by omega)]
 refine AW.skip (rgn [] [[],[],[],[43],[],[2,3]] ?_)
 iterate 6 refine op1 tok ?_
 exact qA (AW.ret qR)
end Go.Proofs.YtbhhphabggcacaaGreatDoor
