import Derived.Test.YtcfcfblbpnpclaaGreatDoorSDeskL
import Derived.Test.YtcfcfblbpnpclaaGreatDoorSItoaN
import Derived.Test.YtcfcfblbpnpclaaGreatDoorSJoin
import Derived.Test.YtcfcfblbpnpclaaGreatDoorSCore36
namespace Go.Proofs.YtcfcfblbpnpclaaGreatDoor
open Sy Go
set_option maxRecDepth 100000
set_option maxHeartbeats 4000000
set_option linter.unusedSimpArgs false
set_option linter.unusedVariables false
variable {G:qM}
abbrev PWd (G:qM):Prop:=qBG 0 G
theorem qEF (hP:PWd G) (n:Int):AFn Tryz.prog G 25 [.int .i64 n] (.str (Lib.itoa n)):=qJG hP (by kernel_rfl) n
theorem kY {n:Nat} (h:n<4294967296):IntKind.u32.wrap (n:Int)=n:=by simp [IntKind.wrap,IntKind.signed,IntKind.bits]; omega
theorem qEU {a b:Nat} (ha:a<4294967296) (hb:b<4294967296):IntKind.u32.wrap ((a % 2 ^ IntKind.u32.bits ^^^ b % 2 ^ IntKind.u32.bits:Nat):Int)=((a ^^^ b:Nat):Int):=by
 have h:2 ^ IntKind.u32.bits=4294967296:=by decide
 rw [h,Nat.mod_eq_of_lt ha,Nat.mod_eq_of_lt hb,kY (yH ha hb)]
theorem qLL {q:Nat} (hq:q<4294967296):IntKind.u32.wrap ((((((q:Nat):Int).fdiv (2 ^ min 1 IntKind.u32.bits) % 2 ^ IntKind.u32.bits).toNat ^^^ (IntKind.u32.wrap (IntKind.u32.wrap ((q % 2 ^ IntKind.u32.bits &&& 1 % 2 ^ IntKind.u32.bits:Nat):Int) * 3988292384) % 2 ^ IntKind.u32.bits).toNat:Nat):Int))=((jK q:Nat):Int):=by
 have hb:IntKind.u32.bits=32:=rfl
 have h1:(((q:Nat):Int).fdiv (2 ^ min 1 IntKind.u32.bits) % 2 ^ IntKind.u32.bits).toNat=q / 2:=by
  rw [hb,show min 1 32=1 from rfl,Int.fdiv_eq_ediv_of_nonneg _ (by decide)]
  omega
 have h2:q % 2 ^ IntKind.u32.bits &&& 1 % 2 ^ IntKind.u32.bits=q % 2:=by
  rw [hb,show 1 % 2 ^ 32=1 from rfl,show q % 2 ^ 32=q by omega,Nat.and_one_is_mod]
 rw [h1,h2,kY (show q % 2<4294967296 by omega)]
 unfold jK
 by_cases h:q % 2=1
 ·rw [if_pos h,h]
  have h3:(IntKind.u32.wrap (((1:Nat):Int) * 3988292384) % 2 ^ IntKind.u32.bits).toNat=3988292384:=by decide
  rw [h3,kY (yH (by omega) (by decide))]
 rw [if_neg h,show q % 2=0 by omega]
 have h3:(IntKind.u32.wrap (((0:Nat):Int) * 3988292384) % 2 ^ IntKind.u32.bits).toNat=0:=by decide
 rw [h3,Nat.xor_zero,kY (by omega)]
theorem qLR {q:Nat} (hq:q<4294967296) (h:¬ q % 2=1):IntKind.u32.wrap ((q:Int) / 2)=((jK q:Nat):Int):=by
 unfold jK
 rw [if_neg h,show ((q:Int) / 2)=((q / 2:Nat):Int) by omega,kY (by omega)]
theorem qSE {q:Nat} (hq:q<4294967296) (h:q % 2=1):IntKind.u32.wrap (((IntKind.u32.wrap ((q:Int) / 2) % 2 ^ IntKind.u32.bits).toNat ^^^ 3988292384 % 2 ^ IntKind.u32.bits:Nat):Int)=((jK q:Nat):Int):=by
 have hb:IntKind.u32.bits=32:=rfl
 have h1:(IntKind.u32.wrap ((q:Int) / 2) % 2 ^ IntKind.u32.bits).toNat=q / 2:=by
  rw [show ((q:Int) / 2)=((q / 2:Nat):Int) by omega,kY (show q / 2<4294967296 by omega),hb]
  omega
 have h2:3988292384 % 2 ^ IntKind.u32.bits=3988292384:=rfl
 unfold jK
 rw [if_pos h,h1,h2]
 exact kY (yH (by omega) (by decide))
theorem qSF {q:Nat} (hq:q<4294967296):IntKind.u32.wrap ((BitVec.ofInt IntKind.u32.bits 4294967295 ^^^ BitVec.ofInt IntKind.u32.bits ((q:Nat):Int)).toNat:Nat)=((q ^^^ 4294967295:Nat):Int):=by
 have hb:IntKind.u32.bits=32:=rfl
 have h1:(BitVec.ofInt 32 4294967295).toNat=4294967295:=by decide
 have h2:(BitVec.ofInt 32 ((q:Nat):Int)).toNat=q:=by rw [BitVec.toNat_ofInt]; omega
 have h:(BitVec.ofInt IntKind.u32.bits 4294967295 ^^^ BitVec.ofInt IntKind.u32.bits ((q:Nat):Int)).toNat=q ^^^ 4294967295:=by
  rw [hb,BitVec.toNat_xor,h1,h2,Nat.xor_comm]
 rw [h]
 exact kY (yH hq (by decide))
theorem qAT (n:Int) (h : -9223372036854775808≤n∧n≤9223372036854775807):(Lib.itoa n).length≤21:=Lib.itoa_length_le n h.1 h.2
theorem zO:∀ {l:List Int},(∀ n∈l, -9223372036854775808≤n∧n≤9223372036854775807)→(wU l).length≤22 * l.length
 | [],_=>by simp [wU]
 | n::l,h=>by
  have h1:=qAT n (h n (by simp))
  have h2:=zO (l:=l) fun x hx=>h x (by simp [hx])
  simp only [wU,List.flatMap_cons,List.length_append,List.length_cons] at h2 ⊢
  omega
theorem qJZ (b:List UInt8) (hb:b.length≤1000000000):AFn Tryz.prog G 27 [.sl 1 (b.map byD)] (.int .u32 (wN b)):=by
 refine AFn.introU tok Tryz.func27 (by kernel_rfl) rfl rfl ?_
 simp only [Tryz.f27,qT,List.map_cons,List.map_nil]
 obtain ⟨R,hR⟩:∃ R,qBA 4294967295 b=R:=⟨_,rfl⟩
 have e:wN b=R ^^^ 4294967295:=by rw [← hR]; rfl
 rw [e]
 refine rgn [] [[0]] ?_
 refine op1 tok ?_
 refine qA (rgn [] [[]] ?_)
 refine op1 tok ?_
 refine qA (AW.seq (rgn [] [[],[],[3,6,7,8]] ?_))
 iterate 3 refine op1 tok ?_
 refine qA (AW.block ?_)
 refine AW.loop (α:=Nat × Nat) (fun a=>a.1≤b.length∧a.2<4294967296∧qBA a.2 (b.drop a.1)=R) (fun a=>⟨qZ 28 [(3,.p (.int .u32 (a.2:Nat))),(6,.p (.sl 1 (b.map byD))),(7,.p (.int .i64 b.length)),(8,.p (.int .i64 a.1))],[],[],0⟩) (fun a=>b.length-a.1) ((0,4294967295)) ⟨by simp,by simp,by simpa using hR⟩ ⟨qJ (by simp),rfl,by simp,by simp⟩ ?_
 rintro ⟨k,r⟩ ⟨hk,hr,hc⟩
 simp only at hk hr hc
 refine rgn [] [[]] ?_
 refine op1 tok ?_
 refine qA (AW.seq (cnd ?_ ?_))
 ·intro h9
  try simp at h9
  obtain ⟨c,hcb⟩:∃ c,b[k]?=some c:=⟨b[k]'(by omega),by simp [show k<b.length by omega]⟩
  have hdr:b.drop k=c::b.drop (k+1):=by
   obtain ⟨h1,h2⟩:=List.getElem?_eq_some_iff.1 hcb
   rw [List.drop_eq_getElem_cons h1,h2]
  rw [hdr] at hc
  have hc2:qBA (xP 8 (r ^^^ c.toNat)) (b.drop (k+1))=R:=hc
  have hx:=qEU hr (show c.toNat<4294967296 by have:=c.toNat_lt; omega)
  have hcl:=c.toNat_lt
  have hxl:=yH hr (show c.toNat<4294967296 by omega)
  refine AW.skip (AW.seq (AW.block (rgn [.int .u8 c.toNat] [[],[],[3,5,6,7,8]] ?_)))
  iterate 3 refine op1 tok ?_ (hv:=by first | with_reducible exact True.intro | (first | (simp [hcb,byD]; done) | (simp [hcb,byD]; omega); done) | omega | simp | (simp +contextual; omega))
  refine qA (rgn [] [[],[],[],[6,7,8,15],[3,6,7,8]] ?_)
  iterate 5 refine op1 tok ?_
  refine qA (rgn [] [[]] ?_)
  refine op1 tok ?_
  refine qA (AW.block ?_)
  refine AW.loop (α:=Nat × Nat) (fun a=>a.1≤8∧a.2<4294967296∧qBA (xP (8-a.1) a.2) (b.drop (k+1))=R) (fun a=>⟨qZ 28 [(3,.p (.int .u32 (a.2:Nat))),(6,.p (.sl 1 (b.map byD))),(7,.p (.int .i64 b.length)),(8,.p (.int .i64 k)),(16,.p (.int .i64 a.1))],[],[],0⟩) (fun a=>8-a.1) ((0,r ^^^ c.toNat)) ⟨by simp,hxl,hc2⟩ ⟨qJ (by simp [hx]),rfl,by simp,by simp⟩ ?_
  rintro ⟨j,q⟩ ⟨hj,hq,hcq⟩
  simp only at hj hq hcq
  have hq2:=qLL hq
  refine rgn [] [[]] ?_
  refine op1 tok ?_
  refine qA (AW.seq (cnd ?_ ?_))
  ·intro h17
   try simp at h17
   refine AW.skip (AW.seq (AW.block (rgz [] [[],[],[],[],[6,7,8,16,19,22],[],[3,6,7,8,16]] ?_)))
   iterate 7 refine op1 tok ?_
   refine qA (rgz [] [[],[3,6,7,8,16]] ?_)
   iterate 2 refine op1 tok ?_
   refine qA ?_
   exact ⟨(j+1,jK q),⟨by simp only; omega,vF hq,by rw [show 8-j=(8-(j+1))+1 by omega] at hcq; exact hcq⟩,by simp only; omega,qJ (by simp [hq2]),rfl,by simp [hq2],by simp [hq2]⟩
  intro h17
  try simp at h17
  refine AW.exit ?_
  simp [-Prod.exists]
  refine rgz [] [[],[3,6,7,8]] ?_
  iterate 2 refine op1 tok ?_
  refine qA ?_
  exact ⟨(k+1,q),⟨by simp only; omega,hq,by rw [show 8-j=0 by omega] at hcq; exact hcq⟩,by simp only; omega,qJ (by simp),rfl,by simp,by simp⟩
 intro h9
 try simp at h9
 obtain rfl:k=b.length:=by omega
 rw [List.drop_length] at hc
 have hc2:r=R:=hc
 subst hc2
 refine AW.exit ?_
 simp
 refine rgn [] [[]] ?_
 refine op1 tok ?_
 refine qG ?_
 refine qB.stepK [27] (qJL rfl (by conv=>lhs; simp) trivial (qSF hr)) (by conv=>lhs; simp) rfl ?_
 refine qB.run [[2]] ?_
 refine op1 tok ?_
 exact qA (AW.ret jE)
theorem qDT (b:List UInt8) (hb:b.length≤1000000000):AFn Tryz.prog G 16 [.sl 1 (b.map byD)] (.int .u32 (wN b)):=by
 refine AFn.introU tok Tryz.func16 (by kernel_rfl) rfl rfl ?_
 simp only [Tryz.f16,qT,List.map_cons,List.map_nil]
 obtain ⟨R,hR⟩:∃ R,qBA 4294967295 b=R:=⟨_,rfl⟩
 have e:wN b=R ^^^ 4294967295:=by rw [← hR]; rfl
 rw [e]
 refine rgn [] [[0]] ?_
 refine op1 tok ?_
 refine qA (rgn [] [[]] ?_)
 refine op1 tok ?_
 refine qA (AW.seq (rgn [] [[]] ?_))
 refine op1 tok ?_
 refine qA (AW.block ?_)
 refine AW.loop (α:=Nat × Nat) (fun a=>a.1≤b.length∧a.2<4294967296∧qBA a.2 (b.drop a.1)=R) (fun a=>⟨qZ 34 [(0,.p (.sl 1 (b.map byD))),(3,.p (.int .u32 (a.2:Nat))),(4,.p (.int .i64 a.1))],[],[],0⟩) (fun a=>b.length-a.1) ((0,4294967295)) ⟨by simp,by simp,by simpa using hR⟩ ⟨qJ (by simp),rfl,by simp,by simp⟩ ?_
 rintro ⟨k,r⟩ ⟨hk,hr,hc⟩
 simp only at hk hr hc
 refine AW.seq (rgn [] [[],[],[],[0,3,4,10]] ?_)
 iterate 4 refine op1 tok ?_
 refine qA (cnd ?_ ?_)
 ·intro h10
  try simp at h10
  obtain ⟨c,hcb⟩:∃ c,b[k]?=some c:=⟨b[k]'(by omega),by simp [show k<b.length by omega]⟩
  have hdr:b.drop k=c::b.drop (k+1):=by
   obtain ⟨h1,h2⟩:=List.getElem?_eq_some_iff.1 hcb
   rw [List.drop_eq_getElem_cons h1,h2]
  rw [hdr] at hc
  have hc2:qBA (xP 8 (r ^^^ c.toNat)) (b.drop (k+1))=R:=hc
  have hx:=qEU hr (show c.toNat<4294967296 by have:=c.toNat_lt; omega)
  have hcl:=c.toNat_lt
  have hxl:=yH hr (show c.toNat<4294967296 by omega)
  refine AW.skip (AW.seq (AW.block (rgn [.int .u8 c.toNat] [[],[],[],[],[0,4,13,17],[],[],[0,3,4]] ?_)))
  iterate 8 refine op1 tok ?_ (hv:=by first | with_reducible exact True.intro | (first | (simp [hcb,byD]; done) | (simp [hcb,byD]; omega); done) | omega | simp | (simp +contextual; omega))
  refine qA (rgn [] [[]] ?_)
  refine op1 tok ?_
  refine qA (AW.block ?_)
  refine AW.loop (α:=Nat × Nat) (fun a=>a.1≤8∧a.2<4294967296∧qBA (xP (8-a.1) a.2) (b.drop (k+1))=R) (fun a=>⟨qZ 34 [(0,.p (.sl 1 (b.map byD))),(3,.p (.int .u32 (a.2:Nat))),(4,.p (.int .i64 k)),(5,.p (.int .i64 a.1))],[],[],0⟩) (fun a=>8-a.1) ((0,r ^^^ c.toNat)) ⟨by simp,hxl,hc2⟩ ⟨qJ (by simp [hx]),rfl,by simp,by simp⟩ ?_
  rintro ⟨j,q⟩ ⟨hj,hq,hcq⟩
  simp only at hj hq hcq
  have hw2:IntKind.u32.wrap ((q:Int) % 2)=((q % 2:Nat):Int):=by
   rw [show ((q:Int) % 2)=((q % 2:Nat):Int) by omega]; exact kY (by omega)
  refine AW.seq (rgn [] [[],[0,3,4,5,21]] ?_)
  iterate 2 refine op1 tok ?_
  refine qA (cnd ?_ ?_)
  ·intro h21
   try simp at h21
   refine AW.skip (AW.seq (AW.block (rgn [] [[],[],[0,3,4,5,6]] ?_)))
   iterate 3 refine op1 tok ?_
   refine qA (rgn [] [[],[],[0,3,4,5,6]] ?_)
   iterate 3 refine op1 tok ?_
   refine qA (rgn [] [[],[0,3,4,5,29]] ?_)
   iterate 2 refine op1 tok ?_
   refine qA (cnd ?_ ?_)
   ·intro h29
    try simp at h29
    have hq2:=qSE hq (by first | omega | (rw [Int.tmod_eq_emod_of_nonneg (by omega)] at h29; omega))
    refine rgz [] [[],[],[0,3,4,5]] ?_
    iterate 3 refine op1 tok ?_
    refine qA (rgz [] [[],[],[0,3,4,5]] ?_)
    iterate 3 refine op1 tok ?_
    refine qA ?_
    exact ⟨(j+1,jK q),⟨by simp only; omega,vF hq,by rw [show 8-j=(8-(j+1))+1 by omega] at hcq; exact hcq⟩,by simp only; omega,qJ (by simp [hq2]),rfl,by simp [hq2],by simp [hq2]⟩
   intro h29
   try simp at h29
   have hq2:=qLR hq (by first | omega | (rw [Int.tmod_eq_emod_of_nonneg (by omega)] at h29; omega))
   refine AW.skip (rgz [] [[],[],[0,3,4,5]] ?_)
   iterate 3 refine op1 tok ?_
   refine qA ?_
   exact ⟨(j+1,jK q),⟨by simp only; omega,vF hq,by rw [show 8-j=(8-(j+1))+1 by omega] at hcq; exact hcq⟩,by simp only; omega,qJ (by simp [hq2]),rfl,by simp [hq2],by simp [hq2]⟩
  intro h21
  try simp at h21
  refine AW.exit ?_
  simp [-Prod.exists]
  refine rgz [] [[],[],[0,3,4]] ?_
  iterate 3 refine op1 tok ?_
  refine qA ?_
  exact ⟨(k+1,q),⟨by simp only; omega,hq,by rw [show 8-j=0 by omega] at hcq; exact hcq⟩,by simp only; omega,qJ (by simp),rfl,by simp,by simp⟩
 intro h10
 try simp at h10
 obtain rfl:k=b.length:=by omega
 rw [List.drop_length] at hc
 have hc2:r=R:=hc
 subst hc2
 have hfin:=qEU hr (show 4294967295<4294967296 by decide)
 refine AW.exit ?_
 simp
 refine rgn [] [[],[],[2]] ?_
 iterate 3 refine op1 tok ?_
 refine qA ?_
 exact AW.ret (jE (k:=by simp [hfin]))
theorem uW (w:List UInt8) (l:List Int) (hP:PWd G) (hl:l.length≤1000) (hw:w.length≤100) (hn:∀ n∈l, -9223372036854775808≤n∧n≤9223372036854775807):AFn Tryz.prog G 13 [.str w,.sl 1 (l.map inD)] (.str (qX w l)):=by
 refine AFn.introU tok Tryz.func13 (by kernel_rfl) rfl rfl ?_
 simp only [Tryz.f13,qT,List.map_cons,List.map_nil]
 have hit:=fun n=>qEF (G:=G) hP n
 have hjl:=qCH w l
 have hln:=zO hn
 have hj:=qKW (G:=G) (w::l.map Lib.itoa) [32] (by simp; omega) (by rw [hjl,List.length_append]; omega)
 have e:qX w l=w++wU l++[10]:=rfl
 rw [e]
 rw [hjl] at hj
 have hJl:(w++wU l).length≤30000:=by rw [List.length_append]; omega
 generalize w++wU l=J at *
 refine rgn [] [[0,1]] ?_
 refine op1 tok ?_
 refine qA (rgn [.str w] [[],[],[1,5]] ?_)
 iterate 3 refine op1 tok ?_
 refine qA (AW.seq (rgn [] [[],[],[5,10,11,12]] ?_))
 iterate 3 refine op1 tok ?_
 refine qA (AW.block ?_)
 refine AW.loop (α:=Nat) (fun k=>k≤l.length) (fun k=>⟨qZ 25 [(5,.ms 9),(10,.p (.sl 1 (l.map inD))),(11,.p (.int .i64 l.length)),(12,.p (.int .i64 k))],[],[(9,.row 9 1 (.str w::(l.map (PD.str ∘ Lib.itoa)).take k))],0⟩) (fun k=>l.length-k) (0) (by omega) ⟨qJ (by simp),rfl,by simp,by simp⟩ ?_
 rintro k hk
 refine rgn [] [[]] ?_
 refine op1 tok ?_
 refine qA (AW.seq (cnd ?_ ?_))
 ·intro h13
  try simp at h13
  obtain ⟨n,hx⟩:∃ n,l[k]?=some n:=⟨l[k]'(by omega),by simp [show k<l.length by omega]⟩
  have htk:(l.map (PD.str ∘ Lib.itoa)).take (k+1)=(l.map (PD.str ∘ Lib.itoa)).take k++[.str (Lib.itoa n)]:=by
   rw [List.take_add_one,show (l.map (PD.str ∘ Lib.itoa))[k]?=some (.str (Lib.itoa n)) by simp [hx]]; rfl
  have hin:=hit n
  refine AW.skip (AW.seq (AW.block (rgn [.int .i64 n] [[],[],[5,7,10,11,12]] ?_)))
  iterate 3 refine op1 tok ?_ (hv:=by first | with_reducible exact True.intro | (first | (simp [hx,inD]; done) | (simp [hx,inD]; omega); done) | omega | simp | (simp +contextual; omega))
  refine qA (rgz [.nilp,.str (Lib.itoa n),.str (Lib.itoa n)] [[],[],[],[10,11,12,16,19],[],[5,10,11,12]] ?_)
  iterate 6 refine oq1 tok hin ?_
  refine qA (rgz [] [[],[5,10,11,12]] ?_)
  iterate 2 refine op1 tok ?_
  refine qA ?_
  exact ⟨k+1,by omega,by omega,qJ (by simp [htk]),rfl,by simp [htk],by simp [htk]⟩
 intro h13
 try simp at h13
 obtain rfl:k=l.length:=by omega
 have hall:(l.map (PD.str ∘ Lib.itoa)).take l.length=l.map (PD.str ∘ Lib.itoa):=List.take_of_length_le (by simp)
 simp only [List.map_cons,List.map_map] at hj
 try rw [hall]
 refine AW.exit ?_
 simp
 refine AW.freezeE 9 (by conv=>lhs; simp) ?_
 refine rgn [.nilp,.str J] [[],[],[],[4]] ?_
 iterate 4 refine oq1 tok hj ?_
 exact qA (AW.ret jE)
theorem qCL (w:List UInt8) (b:List UInt8) (hP:PWd G) (hb:b.length≤1000000) (hw:w.length≤100):AFn Tryz.prog G 14 [.str w,.sl 1 (b.map byD)] (.str (qX w [b.length,wN b])):=by
 refine AFn.introU tok Tryz.func14 (by kernel_rfl) rfl rfl ?_
 simp only [Tryz.f14,qT,List.map_cons,List.map_nil]
 have hs:=qJZ (G:=G) b (by omega)
 have hlt:=kZ b
 have hln:=uW (G:=G) w [b.length,wN b] hP (by simp) hw (fun n hn=>by
  rcases List.mem_cons.1 hn with rfl | hn
  ·omega
  rw [List.mem_singleton.1 hn]; omega)
 generalize qX w [b.length,wN b]=L at *
 generalize wN b=S at *
 simp only [List.map_cons,List.map_nil,inD] at hln
 refine rgn [] [[0,1]] ?_
 refine op1 tok ?_
 refine qA (rgn [.nilp,.int .u32 S,.int .i64 b.length,.int .i64 S,.nilp,.str L] [[],[],[],[],[5,7,9],[],[],[12],[4]] ?_)
 iterate 9 refine oq1 tok (ai hs hln) ?_
 exact qA (AW.ret jE)
theorem kS (w:List UInt8) (l:List Int) (hP:PWd G) (hl:l.length≤1000) (hw:w.length≤100) (hn:∀ n∈l, -9223372036854775808≤n∧n≤9223372036854775807):AFn Tryz.prog G 15 [.str w,.sl 1 (l.map inD)] (.str (qX w l)):=by
 refine AFn.introU tok Tryz.func15 (by kernel_rfl) rfl rfl ?_
 simp only [Tryz.f15,qT,List.map_cons,List.map_nil]
 have hit:=fun n=>qEF (G:=G) hP n
 have hln:=fun k=>zO (l:=l.take k) fun n h=>hn n (List.mem_of_mem_take h)
 have e:qX w l=w++wU l++[10]:=rfl
 rw [e]
 have hnil:wU []=[]:=rfl
 refine rgn [] [[0,1]] ?_
 refine op1 tok ?_
 refine qA (AW.seq (rgn [] [[]] ?_))
 refine op1 tok ?_
 refine qA (AW.block ?_)
 refine AW.loop (α:=Nat) (fun k=>k≤l.length) (fun k=>⟨qZ 22 [(0,.p (.str (w++wU (l.take k)))),(1,.p (.sl 1 (l.map inD))),(5,.p (.int .i64 k))],[],[],0⟩) (fun k=>l.length-k) (0) (by omega) ⟨qJ (by simp [hnil]),rfl,by simp,by simp⟩ ?_
 rintro k hk
 have hlk:=hln k
 have htl:(l.take k).length≤1000:=by rw [List.length_take]; omega
 have hWl:(w++wU (l.take k)).length≤30000:=by rw [List.length_append]; omega
 refine AW.seq (rgn [] [[],[],[],[0,1,5,9]] ?_)
 iterate 4 refine op1 tok ?_
 refine qA (cnd ?_ ?_)
 ·intro h9
  try simp at h9
  obtain ⟨n,hx⟩:∃ n,l[k]?=some n:=⟨l[k]'(by omega),by simp [show k<l.length by omega]⟩
  have htk:w++(wU (l.take k)++32::Lib.itoa n)=w++wU (l.take (k+1)):=by
   rw [List.take_add_one,hx]; simp [qFF]
  have hin:=hit n
  have hit:=qAT n (hn n (List.mem_of_getElem? hx))
  refine AW.skip (AW.seq (AW.block (rgz [.int .i64 n,.nilp,.str (Lib.itoa n)] [[],[],[],[],[1,5,13,16],[],[],[1,5,19],[0,1,5]] ?_)))
  iterate 9 refine op1 tok ?_ (hv:=by first | with_reducible exact True.intro | (first | exact hin | (simp [hx,inD]; done) | (simp [hx,inD]; omega) | (simp at hWl ⊢; omega); done) | omega | simp | (simp +contextual; omega))
  refine qA (rgz [] [[],[],[0,1,5]] ?_)
  iterate 3 refine op1 tok ?_
  refine qA ?_
  exact ⟨k+1,by omega,by omega,qJ (by simp [htk]),rfl,by simp [htk],by simp [htk]⟩
 intro h9
 try simp at h9
 obtain rfl:k=l.length:=by omega
 rw [List.take_length] at hWl ⊢
 refine AW.exit ?_
 simp
 refine rgn [] [[],[],[4]] ?_
 iterate 3 refine op1 tok ?_ (hv:=by first | with_reducible exact True.intro | ((simp at hWl ⊢; omega); done) | omega | simp | (simp +contextual; omega))
 exact qA (AW.ret jE)
end Go.Proofs.YtcfcfblbpnpclaaGreatDoor
