import Derived.Test.YtcfcfblbpnpclaaGreatDoorSStr1
namespace Go.Proofs.YtcfcfblbpnpclaaGreatDoor
open Sy Go
set_option maxRecDepth 100000
set_option linter.unusedSimpArgs false
set_option linter.unusedVariables false
variable {G:qK}
def asF (cs:List UInt8) (i:Nat):Bool:=cs.any fun b=>b.toNat == i
theorem qIU (cs:List UInt8) (c:UInt8) (n:Nat):wW n (fun k=>decide (k=c.toNat) || asF cs k)=wW n (asF (cs++[c])):=qEY fun i _=>by
 by_cases h:i=c.toNat
 ·simp [asF,h]
 simp [asF,h,Ne.symm h]
def asS (cs:List UInt8) (a:Nat):St:=⟨[.p (.str cs),.dead,.ptr 2 0,.dead,.p (.int .i64 a)]++List.replicate 16 .dead,[],[(2,.vars 146 (pcells (wW 256 (asF (cs.take a)))))],0⟩
theorem uL (cs:List UInt8) (hcs:∀ b∈cs,b.toNat<128):AFn Tryz.prog G 57 [.str cs] (.tup [.agg (wW 256 (asF cs)),.bool true]):=by
 refine AFn.intro tok Tryz.func57 (by kernel_rfl) rfl ?_
 simp only [Tryz.f57,St.start]
 refine AW.strFact (i:=0) rfl ?_
 intro hlen
 refine AW.seqRun tok [] (by intro C; conv=>lhs; simp) (by simp) ?_
 refine AW.seq ?_
 refine AW.seqRun tok [] (by intro C; conv=>lhs; simp) trivial ?_
 refine AW.block ?_
 refine AW.loop (α:=Nat) (fun a=>a≤cs.length) (fun a=>asS cs a) (fun a=>cs.length-a) 0 (by omega) ⟨by simp [asS],rfl,by simp [asS,qHW]; rfl,by simp [asS]⟩ ?_
 intro a hI
 simp only [asS]
 refine AW.seq ?_
 refine AW.seqRun tok [] (by intro C; conv=>lhs; simp) trivial ?_
 refine AW.cond (c := .tmp 9) (by conv=>lhs; simp) trivial ?_ ?_
 ·intro h1
  simp at h1
  obtain ⟨c,hc⟩:∃ c,cs[a]?=some c:=⟨cs[a],by simp [h1]⟩
  have hclt:=hcs c (List.mem_of_getElem? hc)
  have hst:asF (cs.take (a+1))=asF (cs.take a++[c]):=by rw [List.take_add_one,hc]; rfl
  refine AW.skip (AW.seq (AW.block ?_))
  refine AW.seqRun tok [.int .u8 c.toNat] (by intro C; conv=>lhs; simp) (by simp [hc]) ?_
  refine AW.seq ?_
  refine AW.seqRun tok [] (by intro C; conv=>lhs; simp) trivial ?_
  refine AW.cond (c := .tmp 16) (by conv=>lhs; simp) trivial ?_ ?_
  ·intro h2
   simp at h2
   omega
  intro h2
  simp at h2
  refine AW.skip ?_
  refine AW.run tok [] (by intro C; conv=>lhs; simp) (by omega) ?_
  refine AW.run tok [] (by intro C; conv=>lhs; simp) (by omega) ?_
  exact ⟨a+1,by omega,by omega,by simp [asS],rfl,by simp [asS,hst]; exact congrArg pcells (qIU _ _ _).symm,by simp [asS]⟩
 intro h1
 simp at h1
 have hall:cs.take a=cs:=List.take_of_length_le h1
 rw [hall]
 refine AW.exit ?_
 simp
 refine AW.seqRun tok [] (by intro C; conv=>lhs; simp) (by simp) ?_
 exact AW.ret ⟨.inr rfl,_,_,by (conv=>lhs; simp),by simp,by simp⟩
theorem qEI (F:Nat→Bool) (n:Int) (h0:0≤n) (h1:n<256):AX Tryz.prog G 92 [.ptr 5 0,.p (.int .u8 n)] [(5,.vars 146 (pcells (wW 256 F)))] (.p (.bool (F n.toNat))) [5] [(5,.vars 146 (pcells (wW 256 F)))]:=by
 refine AX.intro tok 2000 Tryz.func92 (by kernel_rfl) rfl ?_
 simp only [Tryz.f92,St.startX]
 refine AW.seqRun tok [] (by intro C; conv=>lhs; simp) trivial ?_
 refine AW.seqRun tok [.bool (F n.toNat)] (by intro C; conv=>lhs; simp) (by simp [qDW (show n.toNat<256 by omega)]; omega) ?_
 exact AW.ret ⟨.inr rfl,_,_,by (conv=>lhs; simp),trivial,by simp,by simp,by simp,by simp⟩
def xV (F:Nat→Bool) (s:List UInt8):List UInt8:=s.dropWhile fun b=>F b.toNat
def tlS (r:List UInt8) (F:Nat→Bool):St:=⟨[.p (.str r),.ptr 5 0]++List.replicate 14 .dead,[5],[(5,.vars 146 (pcells (wW 256 F)))],1000⟩
theorem vK (F:Nat→Bool) (s:List UInt8):AX Tryz.prog G 58 [.p (.str s),.ptr 5 0] [(5,.vars 146 (pcells (wW 256 F)))] (.p (.str (xV F s))) [5] [(5,.vars 146 (pcells (wW 256 F)))]:=by
 refine AX.intro tok 1000 Tryz.func58 (by kernel_rfl) rfl ?_
 simp only [Tryz.f58,St.startX]
 refine AW.seqRun tok [] (by intro C; conv=>lhs; simp) trivial ?_
 refine AW.seq (AW.block ?_)
 refine AW.loop (α:=List UInt8) (fun r=>xV F r=xV F s) (fun r=>tlS r F) (fun r=>r.length) s rfl ⟨by simp [tlS],rfl,by simp [tlS],by simp [tlS]⟩ ?_
 intro r hI
 simp only [tlS]
 refine AW.seq ?_
 refine AW.seqRun tok [] (by intro C; conv=>lhs; simp) trivial ?_
 refine AW.cond (c := .tmp 7) (by conv=>lhs; simp) trivial ?_ ?_
 ·intro h1
  simp at h1
  obtain ⟨b,r,rfl⟩:∃ b r',r=b::r':=by
   cases r with
   | nil=>simp at h1
   | cons b r=>exact ⟨b,r,rfl⟩
  have hb:b.toNat<256:=b.toNat_lt
  refine AW.skip (AW.block (AW.seq ?_))
  refine AW.seqRunX tok 3 [.int .u8 b.toNat] [] rfl rfl (by intro C; conv=>lhs; simp) (by simp) (qY rfl (qEI F b.toNat (by omega) (by omega)) (by simp)) (by intro C; conv=>lhs; simp) trivial ?_
  refine AW.cond (c := .tmp 12) (by conv=>lhs; simp) trivial ?_ ?_
  ·intro h2
   simp at h2
   refine AW.exit ?_
   simp
   refine AW.seqRun tok [] (by intro C; conv=>lhs; simp) trivial ?_
   exact AW.ret ⟨.inr rfl,_,_,by (conv=>lhs; simp),trivial,by rw [← hI]; simp [xV,h2],by simp,by simp,by simp⟩
  intro h2
  simp at h2
  refine AW.skip ?_
  refine AW.run tok [] (by intro C; conv=>lhs; simp) (by omega) ?_
  exact ⟨r,by rw [← hI]; simp [xV,h2],by simp,by simp [tlS],rfl,by simp [tlS],by simp [tlS]⟩
 intro h1
 simp at h1
 subst h1
 refine AW.exit ?_
 simp
 refine AW.seqRun tok [] (by intro C; conv=>lhs; simp) trivial ?_
 exact AW.ret ⟨.inr rfl,_,_,by (conv=>lhs; simp),trivial,by rw [← hI]; simp [xV],by simp,by simp,by simp⟩
end Go.Proofs.YtcfcfblbpnpclaaGreatDoor
