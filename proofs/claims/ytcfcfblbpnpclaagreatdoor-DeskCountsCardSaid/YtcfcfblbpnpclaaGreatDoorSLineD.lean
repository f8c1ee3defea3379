import Derived.Test.YtcfcfblbpnpclaaGreatDoorSDeskL
import Derived.Test.YtcfcfblbpnpclaaGreatDoorSItoaN
import Derived.Test.YtcfcfblbpnpclaaGreatDoorSJoin
import Derived.Test.YtcfcfblbpnpclaaGreatDoorSCore36
namespace Go.Proofs.YtcfcfblbpnpclaaGreatDoor
open Sy Go
set_option maxRecDepth 100000
set_option maxHeartbeats 4000000
set_option linter.unusedSimpArgs false
set_option linter.unusedVariables false
variable {G:qK}
abbrev PWd (G:qK):Prop:=qBM 0 G
theorem qIJ (hP:PWd G) (n:Int):AFn Tryz.prog G 25 [.int .i64 n] (.str (Lib.itoa n)):=qJE hP (by kernel_rfl) n
theorem uT {n:Nat} (h:n<4294967296):IntKind.u32.wrap (n:Int)=n:=by simp [IntKind.wrap,IntKind.signed,IntKind.bits]; omega
theorem qLK {a b:Nat} (ha:a<4294967296) (hb:b<4294967296):IntKind.u32.wrap ((a % 2 ^ IntKind.u32.bits ^^^ b % 2 ^ IntKind.u32.bits:Nat):Int)=((a ^^^ b:Nat):Int):=by
 have h:2 ^ IntKind.u32.bits=4294967296:=by decide
 rw [h,Nat.mod_eq_of_lt ha,Nat.mod_eq_of_lt hb,uT (kK ha hb)]
theorem qLO {q:Nat} (hq:q<4294967296):IntKind.u32.wrap ((((((q:Nat):Int).fdiv (2 ^ min 1 IntKind.u32.bits) % 2 ^ IntKind.u32.bits).toNat ^^^ (IntKind.u32.wrap (IntKind.u32.wrap ((q % 2 ^ IntKind.u32.bits &&& 1 % 2 ^ IntKind.u32.bits:Nat):Int) * 3988292384) % 2 ^ IntKind.u32.bits).toNat:Nat):Int))=((qBV q:Nat):Int):=by
 have hb:IntKind.u32.bits=32:=rfl
 have h1:(((q:Nat):Int).fdiv (2 ^ min 1 IntKind.u32.bits) % 2 ^ IntKind.u32.bits).toNat=q / 2:=by
  rw [hb,show min 1 32=1 from rfl,Int.fdiv_eq_ediv_of_nonneg _ (by decide)]
  omega
 have h2:q % 2 ^ IntKind.u32.bits &&& 1 % 2 ^ IntKind.u32.bits=q % 2:=by
  rw [hb,show 1 % 2 ^ 32=1 from rfl,show q % 2 ^ 32=q by omega,Nat.and_one_is_mod]
 rw [h1,h2,uT (show q % 2<4294967296 by omega)]
 unfold qBV
 by_cases h:q % 2=1
 ·rw [if_pos h,h]
  have h3:(IntKind.u32.wrap (((1:Nat):Int) * 3988292384) % 2 ^ IntKind.u32.bits).toNat=3988292384:=by decide
  rw [h3,uT (kK (by omega) (by decide))]
 rw [if_neg h,show q % 2=0 by omega]
 have h3:(IntKind.u32.wrap (((0:Nat):Int) * 3988292384) % 2 ^ IntKind.u32.bits).toNat=0:=by decide
 rw [h3,Nat.xor_zero,uT (by omega)]
theorem qSH {q:Nat} (hq:q<4294967296):IntKind.u32.wrap ((BitVec.ofInt IntKind.u32.bits 4294967295 ^^^ BitVec.ofInt IntKind.u32.bits ((q:Nat):Int)).toNat:Nat)=((q ^^^ 4294967295:Nat):Int):=by
 have hb:IntKind.u32.bits=32:=rfl
 have h1:(BitVec.ofInt 32 4294967295).toNat=4294967295:=by decide
 have h2:(BitVec.ofInt 32 ((q:Nat):Int)).toNat=q:=by rw [BitVec.toNat_ofInt]; omega
 have h:(BitVec.ofInt IntKind.u32.bits 4294967295 ^^^ BitVec.ofInt IntKind.u32.bits ((q:Nat):Int)).toNat=q ^^^ 4294967295:=by
  rw [hb,BitVec.toNat_xor,h1,h2,Nat.xor_comm]
 rw [h]
 exact uT (kK hq (by decide))
theorem qFC (n:Int) (h : -9223372036854775808≤n∧n≤9223372036854775807):(Lib.itoa n).length≤21:=Lib.itoa_length_le n h.1 h.2
theorem wX:∀ {l:List Int},(∀ n∈l, -9223372036854775808≤n∧n≤9223372036854775807)→(xF l).length≤22 * l.length
 | [],_=>by simp [xF]
 | n::l,h=>by
  have h1:=qFC n (h n (by simp))
  have h2:=wX (l:=l) fun x hx=>h x (by simp [hx])
  simp only [xF,List.flatMap_cons,List.length_append,List.length_cons] at h2 ⊢
  omega
theorem qJY (b:List UInt8) (hb:b.length≤1000000000):AFn Tryz.prog G 27 [.sl 1 (b.map byD)] (.int .u32 (jJ b)):=by
 refine AFn.introU tok Tryz.func27 (by kernel_rfl) rfl rfl ?_
 simp only [Tryz.f27,qV,List.map_cons,List.map_nil]
 obtain ⟨R,hR⟩:∃ R,qFI 4294967295 b=R:=⟨_,rfl⟩
 have e:jJ b=R ^^^ 4294967295:=by rw [← hR]; rfl
 rw [e]
 refine rgn [] [[0]] ?_
 refine op1 tok ?_
 refine qA (rgn [] [[]] ?_)
 refine op1 tok ?_
 refine qA (AW.seq (rgn [] [[],[],[3,6,7,8]] ?_))
 iterate 3 refine op1 tok ?_
 refine qA (AW.block ?_)
 refine AW.loop (α:=Nat × Nat) (fun a=>a.1≤b.length∧a.2<4294967296∧qFI a.2 (b.drop a.1)=R) (fun a=>⟨zA 28 [(3,.p (.int .u32 (a.2:Nat))),(6,.p (.sl 1 (b.map byD))),(7,.p (.int .i64 b.length)),(8,.p (.int .i64 a.1))],[],[],0⟩) (fun a=>b.length-a.1) ((0,4294967295)) ⟨by simp,by simp,by simpa using hR⟩ ⟨qM (by simp),rfl,by simp,by simp⟩ ?_
 rintro ⟨k,r⟩ ⟨hk,hr,hc⟩
 simp only at hk hr hc
 refine rgn [] [[]] ?_
 refine op1 tok ?_
 refine qA (AW.seq (cnd ?_ ?_))
 ·intro h9
  try simp at h9
  obtain ⟨c,hcb⟩:∃ c,b[k]?=some c:=⟨b[k]'(by omega),by simp [show k<b.length by omega]⟩
  have hdr:b.drop k=c::b.drop (k+1):=by
   obtain ⟨h1,h2⟩:=List.getElem?_eq_some_iff.1 hcb
   rw [List.drop_eq_getElem_cons h1,h2]
  rw [hdr] at hc
  have hc2:qFI (uY 8 (r ^^^ c.toNat)) (b.drop (k+1))=R:=hc
  have hx:=qLK hr (show c.toNat<4294967296 by have:=c.toNat_lt; omega)
  have hcl:=c.toNat_lt
  have hxl:=kK hr (show c.toNat<4294967296 by omega)
  refine AW.skip (AW.seq (AW.block (rgn [.int .u8 c.toNat] [[],[],[3,5,6,7,8]] ?_)))
  iterate 3 refine op1 tok ?_ (hv:=by first | with_reducible exact True.intro | (first | (simp [hcb,byD]; done) | (simp [hcb,byD]; omega); done) | omega | simp | (simp +contextual; omega))
  refine qA (rgn [] [[],[],[],[6,7,8,15],[3,6,7,8]] ?_)
  iterate 5 refine op1 tok ?_
  refine qA (rgn [] [[]] ?_)
  refine op1 tok ?_
  refine qA (AW.block ?_)
  refine AW.loop (α:=Nat × Nat) (fun a=>a.1≤8∧a.2<4294967296∧qFI (uY (8-a.1) a.2) (b.drop (k+1))=R) (fun a=>⟨zA 28 [(3,.p (.int .u32 (a.2:Nat))),(6,.p (.sl 1 (b.map byD))),(7,.p (.int .i64 b.length)),(8,.p (.int .i64 k)),(16,.p (.int .i64 a.1))],[],[],0⟩) (fun a=>8-a.1) ((0,r ^^^ c.toNat)) ⟨by simp,hxl,hc2⟩ ⟨qM (by simp [hx]),rfl,by simp,by simp⟩ ?_
  rintro ⟨j,q⟩ ⟨hj,hq,hcq⟩
  simp only at hj hq hcq
  have hq2:=qLO hq
  refine rgn [] [[]] ?_
  refine op1 tok ?_
  refine qA (AW.seq (cnd ?_ ?_))
  ·intro h17
   try simp at h17
   refine AW.skip (AW.seq (AW.block (rgz [] [[],[],[],[],[6,7,8,16,19,22],[],[3,6,7,8,16]] ?_)))
   iterate 7 refine op1 tok ?_
   refine qA (rgz [] [[],[3,6,7,8,16]] ?_)
   iterate 2 refine op1 tok ?_
   refine qA ?_
   exact ⟨(j+1,qBV q),⟨by simp only; omega,qDU hq,by rw [show 8-j=(8-(j+1))+1 by omega] at hcq; exact hcq⟩,by simp only; omega,qM (by simp [hq2]),rfl,by simp [hq2],by simp [hq2]⟩
  intro h17
  try simp at h17
  refine AW.exit ?_
  simp [-Prod.exists]
  refine rgz [] [[],[3,6,7,8]] ?_
  iterate 2 refine op1 tok ?_
  refine qA ?_
  exact ⟨(k+1,q),⟨by simp only; omega,hq,by rw [show 8-j=0 by omega] at hcq; exact hcq⟩,by simp only; omega,qM (by simp),rfl,by simp,by simp⟩
 intro h9
 try simp at h9
 obtain rfl:k=b.length:=by omega
 rw [List.drop_length] at hc
 have hc2:r=R:=hc
 subst hc2
 refine AW.exit ?_
 simp
 refine rgn [] [[]] ?_
 refine op1 tok ?_
 refine qG ?_
 refine qC.stepK [27] (qJJ rfl (by conv=>lhs; simp) trivial (qSH hr)) (by conv=>lhs; simp) rfl ?_
 refine qC.run [[2]] ?_
 refine op1 tok ?_
 exact qA (AW.ret xP)
theorem uQ (w:List UInt8) (l:List Int) (hP:PWd G) (hl:l.length≤1000) (hw:w.length≤100) (hn:∀ n∈l, -9223372036854775808≤n∧n≤9223372036854775807):AFn Tryz.prog G 13 [.str w,.sl 1 (l.map inD)] (.str (zQ w l)):=by
 refine AFn.introU tok Tryz.func13 (by kernel_rfl) rfl rfl ?_
 simp only [Tryz.f13,qV,List.map_cons,List.map_nil]
 have hit:=fun n=>qIJ (G:=G) hP n
 have hjl:=qCJ w l
 have hln:=wX hn
 have hj:=qKY (G:=G) (w::l.map Lib.itoa) [32] (by simp; omega) (by rw [hjl,List.length_append]; omega)
 have e:zQ w l=w++xF l++[10]:=rfl
 rw [e]
 rw [hjl] at hj
 have hJl:(w++xF l).length≤30000:=by rw [List.length_append]; omega
 generalize w++xF l=J at *
 refine rgn [] [[0,1]] ?_
 refine op1 tok ?_
 refine qA (rgn [.str w] [[],[],[1,5]] ?_)
 iterate 3 refine op1 tok ?_
 refine qA (AW.seq (rgn [] [[],[],[5,10,11,12]] ?_))
 iterate 3 refine op1 tok ?_
 refine qA (AW.block ?_)
 refine AW.loop (α:=Nat) (fun k=>k≤l.length) (fun k=>⟨zA 25 [(5,.ms 9),(10,.p (.sl 1 (l.map inD))),(11,.p (.int .i64 l.length)),(12,.p (.int .i64 k))],[],[(9,.row 9 1 (.str w::(l.map (PD.str ∘ Lib.itoa)).take k))],0⟩) (fun k=>l.length-k) (0) (by omega) ⟨qM (by simp),rfl,by simp,by simp⟩ ?_
 rintro k hk
 refine rgn [] [[]] ?_
 refine op1 tok ?_
 refine qA (AW.seq (cnd ?_ ?_))
 ·intro h13
  try simp at h13
  obtain ⟨n,hx⟩:∃ n,l[k]?=some n:=⟨l[k]'(by omega),by simp [show k<l.length by omega]⟩
  have htk:(l.map (PD.str ∘ Lib.itoa)).take (k+1)=(l.map (PD.str ∘ Lib.itoa)).take k++[.str (Lib.itoa n)]:=by
   rw [List.take_add_one,show (l.map (PD.str ∘ Lib.itoa))[k]?=some (.str (Lib.itoa n)) by simp [hx]]; rfl
  have hin:=hit n
  refine AW.skip (AW.seq (AW.block (rgn [.int .i64 n] [[],[],[5,7,10,11,12]] ?_)))
  iterate 3 refine op1 tok ?_ (hv:=by first | with_reducible exact True.intro | (first | (simp [hx,inD]; done) | (simp [hx,inD]; omega); done) | omega | simp | (simp +contextual; omega))
  refine qA (rgz [.nilp,.str (Lib.itoa n),.str (Lib.itoa n)] [[],[],[],[10,11,12,16,19],[],[5,10,11,12]] ?_)
  iterate 6 refine oq1 tok hin ?_
  refine qA (rgz [] [[],[5,10,11,12]] ?_)
  iterate 2 refine op1 tok ?_
  refine qA ?_
  exact ⟨k+1,by omega,by omega,qM (by simp [htk]),rfl,by simp [htk],by simp [htk]⟩
 intro h13
 try simp at h13
 obtain rfl:k=l.length:=by omega
 have hall:(l.map (PD.str ∘ Lib.itoa)).take l.length=l.map (PD.str ∘ Lib.itoa):=List.take_of_length_le (by simp)
 simp only [List.map_cons,List.map_map] at hj
 try rw [hall]
 refine AW.exit ?_
 simp
 refine AW.freezeE 9 (by conv=>lhs; simp) ?_
 refine rgn [.nilp,.str J] [[],[],[],[4]] ?_
 iterate 4 refine oq1 tok hj ?_
 exact qA (AW.ret xP)
theorem qCO (w:List UInt8) (b:List UInt8) (hP:PWd G) (hb:b.length≤1000000) (hw:w.length≤100):AFn Tryz.prog G 14 [.str w,.sl 1 (b.map byD)] (.str (zQ w [b.length,jJ b])):=by
 refine AFn.introU tok Tryz.func14 (by kernel_rfl) rfl rfl ?_
 simp only [Tryz.f14,qV,List.map_cons,List.map_nil]
 have hs:=qJY (G:=G) b (by omega)
 have hlt:=qCU b
 have hln:=uQ (G:=G) w [b.length,jJ b] hP (by simp) hw (fun n hn=>by
  rcases List.mem_cons.1 hn with rfl | hn
  ·omega
  rw [List.mem_singleton.1 hn]; omega)
 generalize zQ w [b.length,jJ b]=L at *
 generalize jJ b=S at *
 simp only [List.map_cons,List.map_nil,inD] at hln
 refine rgn [] [[0,1]] ?_
 refine op1 tok ?_
 refine qA (rgn [.nilp,.int .u32 S,.int .i64 b.length,.int .i64 S,.nilp,.str L] [[],[],[],[],[5,7,9],[],[],[12],[4]] ?_)
 iterate 9 refine oq1 tok (ai hs hln) ?_
 exact qA (AW.ret xP)
end Go.Proofs.YtcfcfblbpnpclaaGreatDoor
