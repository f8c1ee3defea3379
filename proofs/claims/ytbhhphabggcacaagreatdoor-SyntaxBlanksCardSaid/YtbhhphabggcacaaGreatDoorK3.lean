import Derived.Test.YtbhhphabggcacaaGreatDoorK2
import Derived.Test.YtbhhphabggcacaaGreatDoorK1
import Derived.Lib.Repeat
namespace Go.Proofs.YtbhhphabggcacaaGreatDoor
open Sy Go
set_option maxRecDepth 100000
set_option maxHeartbeats 4000000
set_option linter.unusedSimpArgs false
set_option linter.unusedVariables false
variable {G:qS}
theorem zBR (s:List UInt8) (pos:Nat):uM s pos=Lib.decodeL (s.drop pos):=by
 unfold uM Lib.decodeL
 rw [Lib.decode_at,Lib.decode_at]
 have g:∀ k,(⟨s.toArray⟩:ByteArray).get! (pos+k)=(⟨(s.drop pos).toArray⟩:ByteArray).get! (0+k):=by
  intro k
  show s.toArray[pos+k]! = (s.drop pos).toArray[0+k]!
  simp
 have g0:=g 0
 have g1:=g 1
 have g2:=g 2
 have g3:=g 3
 simp only [Nat.add_zero,Nat.zero_add] at g0 g1 g2 g3
 have hsz:(⟨s.toArray⟩:ByteArray).size-pos=(⟨(s.drop pos).toArray⟩:ByteArray).size-0:=by simp [ByteArray.size]
 rw [hsz,g0,g1,g2,g3]
def qC (r:Nat):List UInt8 :=
 if r=34∨r=92 then 92::Lib.encodeRune r else if r=10 then [92,110] else if r=13 then [92,114] else if r=9 then [92,116]
 else if 32≤r∧r≠127 then Lib.encodeRune r else [92,117,48,48,qAH (r / 16),qAH (r % 16)]
theorem qFZ (l:List UInt8):(Lib.decodeL l).1<55296∨57343<(Lib.decodeL l).1:=by
 rw [xQ l]
 unfold Lib.decodeN
 have:=(l.getD 0 0).toNat_lt
 repeat' split
 all_goals simp only
 all_goals omega
theorem zNI (b:UInt8) (h:b.toNat<128):qC b.toNat=qb b:=by
 have henc:=qLZ h
 have key:∀ k:Fin 128,(k.val=34∨k.val=92)=(UInt8.ofNat k.val=34∨UInt8.ofNat k.val=92)∧(k.val=10)=(UInt8.ofNat k.val=10)∧(k.val=13)=(UInt8.ofNat k.val=13)∧(k.val=9)=(UInt8.ofNat k.val=9)∧(¬ (32≤k.val∧k.val≠127))=(UInt8.ofNat k.val<32∨UInt8.ofNat k.val=127):=by decide +kernel
 have k:=key ⟨b.toNat,h⟩
 simp only [UInt8.ofNat_toNat] at k
 obtain ⟨k1,k2,k3,k4,k5⟩:=k
 unfold qC qb
 rw [henc]
 simp only [k1,k2,k3,k4,← k5]
 split
 ·rfl
 split
 ·rfl
 split
 ·rfl
 split
 ·rfl
 split
 ·rfl
 rfl
theorem zKH (r:Nat) (h:128≤r):qC r=Lib.encodeRune r:=by
 unfold qC
 rw [if_neg (by omega),if_neg (by omega),if_neg (by omega),if_neg (by omega),if_pos (by omega)]
theorem qWN {l:List UInt8} (hne:l≠[]) (hv:Lib.validD l=true):kO l=qC (Lib.decodeL l).1++kO (l.drop (Lib.decodeL l).2)∧Lib.validD (l.drop (Lib.decodeL l).2)=true:=by
 obtain ⟨b,t,rfl⟩:∃ b t,l=b::t:=by cases l with
  | nil=>exact absurd rfl hne
  | cons b t=>exact ⟨b,t,rfl⟩
 by_cases hb:b.toNat<128
 ·rw [qAD hb,zNI b hb]
  rw [Lib.validD_cons b t hb] at hv
  exact ⟨rfl,hv⟩
 rw [Lib.validD_step _ hne] at hv
 split at hv
 ·cases hv
 rename_i hok
 obtain ⟨h1,h2⟩:=qQF (b::t) hne hok (by simpa using by omega)
 have henc:=Lib.encode_decode (b::t) hne hok
 refine ⟨?_,hv⟩
 rw [zKH _ h2,henc]
 conv=>lhs; rw [← List.take_append_drop (Lib.decodeL (b::t)).2 (b::t)]
 rw [qGT,qPC h1]
theorem zKG (r:Nat):(qC r).length≤6:=by
 have:=(Lib.encodeRuneZ_length r).2
 unfold qC
 have h:(Lib.encodeRune r).length≤4:=by simpa only [Lib.encodeRune,List.length_map] using this
 repeat' split
 all_goals simp <;> omega
theorem zNP:∀ k:Fin 16,([48,49,50,51,52,53,54,55,56,57,97,98,99,100,101,102]:List UInt8)[k.val]?=some (qAH k.val):=by decide +kernel
theorem zOC:∀ k:Fin 128,IntKind.i32.wrap ↑(k.val % 2 ^ IntKind.i32.bits &&& 15 % 2 ^ IntKind.i32.bits)=((k.val % 16:Nat):Int):=by decide +kernel
theorem zPO (r:Nat):(r:Int).fdiv (2 ^ min 4 IntKind.i32.bits)=((r / 16:Nat):Int):=(Int.fdiv_eq_ediv_of_nonneg _ (by decide)).trans (by show (r:Int) / 16=_; omega)
theorem qDZ (s:List UInt8) (hv:Lib.validD s=true) (hs:s.length≤1000000000):AFn Tryz.prog G 26 [.str s] (.str (zL s)):=by
 refine AFn.introU tok Tryz.func26 (by kernel_rfl) rfl rfl ?_
 simp only [Tryz.f26,qN,List.map_cons,List.map_nil]
 refine rgn [] [[0]] ?_
 refine op1 tok ?_
 refine qA (rgn [] [[]] ?_)
 refine op1 tok ?_
 refine qA ?_
 refine AW.renE 3 2 (by simp) (by conv=>lhs; simp) ?_
 refine AW.beginBox 2 3 1 5 1 (by simp; exact ⟨rfl,rfl⟩) (by simp) (by simp) (by conv=>lhs; simp) ?_
 refine AW.seqRegionO [] ?_
 refine qB.stepK [0,3] (qJ rfl (qOJ [] 34 (by simp)) (by simp)) (by conv=>lhs; simp) rfl ?_
 refine qB.nil ?_
 refine AW.seq (rgn [] [[],[3,8]] ?_)
 iterate 2 refine op1 tok ?_
 refine qA (AW.block ?_)
 refine AW.loop (α:=Nat × List UInt8) (fun a=>a.1≤s.length∧Lib.validD (s.drop a.1)=true∧zL s=a.2++(kO (s.drop a.1)++[34])∧a.2.length≤6 * a.1+1) (fun a=>⟨wL 47 [(3,.ptr 2 0),(8,.it 8)],[],[(2,.vars 85 [.ptr 2 0,.ms 3]),(3,.row 5 1 (qI a.2)),(8,.iter s a.1)],0⟩) (fun a=>s.length-a.1) ((0,[34])) ⟨by simp,by simpa using hv,by simp [zL],by simp⟩ ⟨qH (by simp),rfl,by simp,by simp⟩ ?_
 rintro ⟨pos,out⟩ ⟨hp,hvp,hq,hol⟩
 simp only at hp hvp hq hol
 by_cases hs4:pos<s.length
 ·
  refine rgn [.bool true] [[],[]] ?_
  iterate 2 refine oq1 tok hs4 ?_
  refine qA (AW.seq (cnd ?_ ?_))
  ·intro h10
   try simp at h10
   have hne:s.drop pos≠[]:=by intro e; have:=congrArg List.length e; simp at this; omega
   obtain ⟨hst,hvn⟩:=qWN hne hvp
   have hok:=qFZ (s.drop pos)
   have hmx:=qAR (s.drop pos)
   have hwl:=Lib.decodeL_le (s.drop pos) hne
   rw [← zBR] at hst hvn hok hmx hwl
   rw [List.length_drop] at hwl
   rw [List.drop_drop] at hst hvn
   have hdp:=qHF hs4
   generalize uM s pos=p at *
   obtain ⟨r,w⟩:=p
   simp only at *
   have hlen:=zKG r
   have hnext:zL s=out++qC r++(kO (s.drop (pos+w))++[34]):=by rw [hq,hst]; simp
   refine AW.skip (AW.block (rgn [] [[],[3,5,8]] ?_))
   iterate 2 refine op1 tok ?_
   refine qA (rgn [] [[]] ?_)
   refine op1 tok ?_
   refine qA (AW.block (AW.seq (rgn [] [[],[3,5,8,12,30]] ?_)))
   iterate 2 refine op1 tok ?_
   refine qA (cnd ?_ ?_)
   ·intro h30
    try simp at h30
    refine AW.skip (cnd ?_ ?_)
    ·intro h30
     try simp at h30
     refine AW.seqRegionO [] ?_
     refine qB.stepK [3,5,8] (qJ rfl (vF out 92 (by omega)) (by simp)) (by conv=>lhs; simp) rfl ?_
     refine qB.nil ?_
     have hqc:qC r=92::Lib.encodeRune r:=by unfold qC; rw [if_pos (by omega)]
     refine rgz [] [[]] ?_
     refine op1 tok ?_
     refine qD ?_
     refine qB.stepK [3,8] (qJ rfl (vE (out++[92]) r (by simp; omega) (by omega) (by omega) (by omega)) (by simp)) (by conv=>lhs; simp) rfl ?_
     refine qB.nil ?_
     exact ⟨(pos+w,out++qC r),⟨by simp only []; omega,hvn,hnext,by simp; omega⟩,by simp only []; omega,qH (by simp [hqc,qI]),rfl,by simp [hqc,qI],by simp [hqc,qI]⟩
    intro h30
    try simp at h30
    omega
   intro h30
   try simp at h30
   refine rgz [] [[],[3,5,8,12,30]] ?_
   iterate 2 refine op1 tok ?_
   refine qA (cnd ?_ ?_)
   ·intro h30
    try simp at h30
    refine AW.seqRegionO [] ?_
    refine qB.stepK [3,5,8] (qJ rfl (vF out 92 (by omega)) (by simp)) (by conv=>lhs; simp) rfl ?_
    refine qB.nil ?_
    have hqc:qC r=92::Lib.encodeRune r:=by unfold qC; rw [if_pos (by omega)]
    refine rgz [] [[]] ?_
    refine op1 tok ?_
    refine qD ?_
    refine qB.stepK [3,8] (qJ rfl (vE (out++[92]) r (by simp; omega) (by omega) (by omega) (by omega)) (by simp)) (by conv=>lhs; simp) rfl ?_
    refine qB.nil ?_
    exact ⟨(pos+w,out++qC r),⟨by simp only []; omega,hvn,hnext,by simp; omega⟩,by simp only []; omega,qH (by simp [hqc,qI]),rfl,by simp [hqc,qI],by simp [hqc,qI]⟩
   intro h30
   try simp at h30
   refine rgn [] [[],[3,5,8,12,36]] ?_
   iterate 2 refine op1 tok ?_
   refine qA (cnd ?_ ?_)
   ·intro h36
    try simp at h36
    have hqc:qC r=[92,110]:=by unfold qC; rw [if_neg (by omega),if_pos (by omega)]
    refine AW.regionO [] ?_
    refine qB.stepK [3,8] (qJ rfl (kT out [92,110] (by omega) (by simp)) (by simp)) (by conv=>lhs; simp) rfl ?_
    refine qB.nil ?_
    exact ⟨(pos+w,out++qC r),⟨by simp only []; omega,hvn,hnext,by simp; omega⟩,by simp only []; omega,qH (by simp [hqc,qI]),rfl,by simp [hqc,qI],by simp [hqc,qI]⟩
   intro h36
   try simp at h36
   refine rgn [] [[],[3,5,8,12,39]] ?_
   iterate 2 refine op1 tok ?_
   refine qA (cnd ?_ ?_)
   ·intro h39
    try simp at h39
    have hqc:qC r=[92,114]:=by unfold qC; rw [if_neg (by omega),if_neg (by omega),if_pos (by omega)]
    refine AW.regionO [] ?_
    refine qB.stepK [3,8] (qJ rfl (kT out [92,114] (by omega) (by simp)) (by simp)) (by conv=>lhs; simp) rfl ?_
    refine qB.nil ?_
    exact ⟨(pos+w,out++qC r),⟨by simp only []; omega,hvn,hnext,by simp; omega⟩,by simp only []; omega,qH (by simp [hqc,qI]),rfl,by simp [hqc,qI],by simp [hqc,qI]⟩
   intro h39
   try simp at h39
   refine rgn [] [[],[3,5,8,42]] ?_
   iterate 2 refine op1 tok ?_
   refine qA (cnd ?_ ?_)
   ·intro h42
    try simp at h42
    have hqc:qC r=[92,116]:=by unfold qC; rw [if_neg (by omega),if_neg (by omega),if_neg (by omega),if_pos (by omega)]
    refine AW.regionO [] ?_
    refine qB.stepK [3,8] (qJ rfl (kT out [92,116] (by omega) (by simp)) (by simp)) (by conv=>lhs; simp) rfl ?_
    refine qB.nil ?_
    exact ⟨(pos+w,out++qC r),⟨by simp only []; omega,hvn,hnext,by simp; omega⟩,by simp only []; omega,qH (by simp [hqc,qI]),rfl,by simp [hqc,qI],by simp [hqc,qI]⟩
   intro h42
   try simp at h42
   refine AW.seq (rgn [] [[],[],[],[],[],[3,5,8,18]] ?_)
   iterate 3 refine op1 tok ?_
   iterate 2 refine op2 tok ?_
   refine op1 tok ?_
   refine qA (cnd ?_ ?_)
   ·intro h18
    try simp at h18
    have hqc:qC r=Lib.encodeRune r:=by unfold qC; rw [if_neg (by omega),if_neg (by omega),if_neg (by omega),if_neg (by omega),if_pos (by omega)]
    refine rgn [] [[]] ?_
    refine op1 tok ?_
    refine qD ?_
    refine qB.stepK [3,8] (qJ rfl (vE out r (by omega) (by omega) (by omega) (by omega)) (by simp)) (by conv=>lhs; simp) rfl ?_
    refine qB.nil ?_
    refine AW.exit ?_
    simp
    exact ⟨pos+w,out++qC r,⟨by omega,hvn,by simpa using hnext,by simp; omega⟩,by omega,qH (by simp [hqc,qI]),rfl,by simp [hqc,qI],by simp [hqc,qI]⟩
   intro h18
   try simp at h18
   refine AW.skip ?_
   have hqc:qC r=[92,117,48,48,qAH (r / 16),qAH (r % 16)]:=by unfold qC; rw [if_neg (by omega),if_neg (by omega),if_neg (by omega),if_neg (by omega),if_neg (by omega)]
   refine AW.seqRegionO [] ?_
   refine qB.stepK [3,5,8] (qJ rfl (kT out [92,117,48,48] (by omega) (by simp)) (by simp)) (by conv=>lhs; simp) rfl ?_
   refine qB.nil ?_
   refine rgn [.int .u8 (qAH (r / 16)).toNat] [[],[],[]] ?_
   iterate 3 refine op1 tok ?_ (hv:=by first | with_reducible exact True.intro | (rw [zPO]; exact ⟨by omega,_,zNP ⟨r / 16,by omega⟩,rfl⟩; done) | omega | simp | (simp +contextual; omega))
   refine qD ?_
   refine qB.stepK [3,5,8] (qJ rfl (vF (out++[92,117,48,48]) (qAH (r / 16)) (by simp; omega)) (by simp)) (by conv=>lhs; simp) rfl ?_
   refine qB.nil ?_
   refine rgz [.int .u8 (qAH (r % 16)).toNat] [[],[],[]] ?_
   iterate 3 refine op1 tok ?_ (hv:=by first | with_reducible exact True.intro | (rw [zOC ⟨r,by omega⟩]; exact ⟨by omega,_,zNP ⟨r % 16,by omega⟩,rfl⟩; done) | omega | simp | (simp +contextual; omega))
   refine qD ?_
   refine qB.stepK [3,8] (qJ rfl (vF (out++[92,117,48,48,qAH (r / 16)]) (qAH (r % 16)) (by simp; omega)) (by simp)) (by conv=>lhs; simp) rfl ?_
   refine qB.nil ?_
   exact ⟨(pos+w,out++qC r),⟨by simp only []; omega,hvn,hnext,by simp; omega⟩,by simp only []; omega,qH (by simp [hqc,qI]),rfl,by simp [hqc,qI],by simp [hqc,qI]⟩
  intro h10
  try simp at h10
 ·
  refine rgn [.bool false] [[],[]] ?_
  iterate 2 refine oq1 tok hs4 ?_
  refine qA (AW.seq (cnd ?_ ?_))
  ·intro h10
   try simp at h10
  intro h10
  try simp at h10
  refine AW.exit ?_
  simp
  obtain rfl:pos=s.length:=by omega
  simp only [List.drop_length,kO,List.flatMap_nil,List.nil_append] at hq
  refine AW.seqRegionO [] ?_
  refine qB.stepK [3] (qJ rfl (vF out 34 (by omega)) (by simp)) (by conv=>lhs; simp) rfl ?_
  refine qB.nil ?_
  refine AW.seqRegionO [] ?_
  refine qB.stepK [46] (qJ rfl (qJA (out++[34])) (by simp)) (by conv=>lhs; simp) rfl ?_
  refine qB.run [[2]] ?_
  refine op1 tok ?_
  refine qA ?_
  exact AW.ret (qX (k:=by simp [hq]))
def upC (c:UInt8):UInt8:=if 65≤c∧c≤70 then c+32 else c
def zBJ:List UInt8:=[48,49,50,51,52,53,54,55,56,57,97,98,99,100,101,102]
theorem zIM:∀ k:Fin 256,Lib.indexByte zBJ (upC (UInt8.ofNat k.val))=match qMR (UInt8.ofNat k.val) with | none => -1 | some n=>(n:Int):=by decide +kernel
theorem zEU (c:UInt8):Lib.indexByte zBJ (upC c)=match qMR c with | none => -1 | some n=>(n:Int):=by
 have:=zIM ⟨c.toNat,c.toNat_lt⟩
 simpa using this
theorem qZI {c:UInt8} {n:Nat} (h:qMR c=some n):n<16:=by
 unfold qMR at h
 have h0:=c.toNat_lt
 split at h
 ·rename_i h1; cases h; rw [UInt8.le_iff_toNat_le,UInt8.le_iff_toNat_le] at h1; simp at h1; omega
 split at h
 ·rename_i h1; cases h; rw [UInt8.le_iff_toNat_le,UInt8.le_iff_toNat_le] at h1; simp at h1; omega
 split at h
 ·rename_i h1; cases h; rw [UInt8.le_iff_toNat_le,UInt8.le_iff_toNat_le] at h1; simp at h1; omega
 cases h
theorem zCQ {c:UInt8} (h:65≤(c.toNat:Int)∧(c.toNat:Int)≤70):IntKind.u8.wrap ((c.toNat:Int)+32)=((upC c).toNat:Int):=by
 have key:∀ k:Fin 256,65≤k.val∧k.val≤70→IntKind.u8.wrap ((k.val:Int)+32)=((upC (UInt8.ofNat k.val)).toNat:Int):=by decide +kernel
 have:=key ⟨c.toNat,c.toNat_lt⟩ (by simp only []; omega)
 simpa using this
theorem zCR {c:UInt8} (h:¬ (65≤(c.toNat:Int)∧(c.toNat:Int)≤70)):upC c=c:=by
 unfold upC
 rw [if_neg]
 rw [UInt8.le_iff_toNat_le,UInt8.le_iff_toNat_le]
 simp; omega
theorem qWQ {x k:Nat} (hx:x<4096) (hk:k<16):IntKind.i32.wrap ↑((IntKind.i32.wrap (↑x * 2 ^ min 4 IntKind.i32.bits) % 2 ^ IntKind.i32.bits).toNat ||| (IntKind.i32.wrap ↑k % 2 ^ IntKind.i32.bits).toNat)=((16 * x+k:Nat):Int):=by
 have hw:∀ n:Nat,n<70000→IntKind.i32.wrap (n:Int)=n:=fun n h=>by simp [IntKind.wrap,IntKind.bits,IntKind.signed]; omega
 have e1:(x:Int) * 2 ^ min 4 IntKind.i32.bits=((16 * x:Nat):Int):=by show (x:Int) * 16=_; omega
 have e2:∀ n:Nat,n<70000→(((n:Int)) % 2 ^ IntKind.i32.bits).toNat=n:=fun n h=>by show ((n:Int) % 4294967296).toNat=n; omega
 rw [e1,hw (16 * x) (by omega),hw k (by omega),e2 (16 * x) (by omega),e2 k (by omega)]
 have:16 * x ||| k=16 * x+k:=by
  have:=Nat.shiftLeft_add_eq_or_of_lt (i:=4) (b:=k) hk x
  rw [Nat.shiftLeft_eq] at this
  rw [show 16 * x=x * 2 ^ 4 by omega]
  exact this.symm
 rw [this,hw (16 * x+k) (by omega)]
theorem qYD (s:List UInt8):AFn Tryz.prog G 86 [.str s] (.tup [.int .i32 ((wC s).getD 0:Nat),.bool (wC s).isSome]):=by
 refine AFn.introU tok Tryz.func86 (by kernel_rfl) rfl rfl ?_
 simp only [Tryz.f86,qN,List.map_cons,List.map_nil]
 have hw32:∀ n:Int,0≤n→n≤1000000→IntKind.i32.wrap n=n:=fun n h1 h2=>by simp [IntKind.wrap,IntKind.bits,IntKind.signed]; omega
 refine rgn [] [[],[0]] ?_
 iterate 2 refine op1 tok ?_
 refine qA (AW.seq (rgn [] [[],[],[],[],[],[0,11,13],[],[0,15]] ?_))
 iterate 4 refine op1 tok ?_
 iterate 3 refine op2 tok ?_
 refine op1 tok ?_
 refine qA (cnd ?_ ?_)
 ·intro h15
  try simp at h15
  have hu:wC s=none:=by
   unfold wC; rw [if_pos (h15.imp (fun h=>by omega) id)]
  refine rgn [] [[],[]] ?_
  iterate 2 refine op1 tok ?_
  refine qA ?_
  exact AW.ret (qX (k:=by simp [hu]))
 intro h15
 try simp at h15
 have hu:wC s=qFY ((s.drop 2).take 4) 0:=by
  unfold wC; rw [if_neg (fun h=>h.elim (fun h=>by omega) (fun h=>h h15.2))]
 rw [hu]
 have htl:(s.take 6).drop 2=(s.drop 2).take 4:=by rw [List.drop_take]
 have hlen:((s.drop 2).take 4).length=4:=by simp; omega
 refine AW.skip (rgn [] [[]] ?_)
 refine op1 tok ?_
 refine qA (AW.seq (rgn [] [[],[],[],[],[4,18,19,20]] ?_))
 iterate 5 refine op1 tok ?_ (hv:=by first | with_reducible exact True.intro | (omega; done) | omega | simp | (simp +contextual; omega))
 refine qA (AW.block ?_)
 rw [htl]; generalize (s.drop 2).take 4=tl at *
 refine AW.loop (α:=Nat × Nat) (fun a=>a.1≤4∧qFY (tl.drop a.1) a.2=qFY tl 0∧a.2<16 ^ a.1) (fun a=>⟨wL 43 [(4,.p (.int .i32 a.2)),(18,.p (.sl 1 (qI tl))),(19,.p (.int .i64 4)),(20,.p (.int .i64 a.1))],[],[],0⟩) (fun a=>4-a.1) ((0,0)) ⟨by omega,rfl,by decide⟩ ⟨qH (by simp; omega),rfl,by simp,by simp⟩ ?_
 rintro ⟨i,x⟩ ⟨hi,hx,hxl⟩
 simp only at hi hx hxl
 have hix:i<4→tl[i]?=some (tl.getD i 0):=fun h=>by simp [List.getD_eq_getElem?_getD,show i<tl.length by omega]
 refine rgn [] [[]] ?_
 refine op1 tok ?_
 refine qA (AW.seq (cnd ?_ ?_))
 ·intro h21
  try simp at h21
  have hxl2:x<4096:=Nat.lt_of_lt_of_le hxl (Nat.pow_le_pow_right (by omega) (show i≤3 by omega))
  have hc:=hix (by omega)
  generalize tl.getD i 0=c at *
  have hcl:=c.toNat_lt
  have hdr:tl.drop i=c::tl.drop (i+1):=by
   rw [List.drop_eq_getElem_cons (by omega)]; congr 1
   have:=List.getElem?_eq_getElem (l:=tl) (i:=i) (by omega)
   rw [hc] at this; exact (Option.some.inj this).symm
  have hstep:qFY tl 0=(match qMR c with | none=>none | some k=>qFY (tl.drop (i+1)) (16 * x+k)):=by rw [← hx,hdr]; rfl
  have hi2:=zEU c
  have hIB:AFn Tryz.prog G 31 [.str zBJ,.int .u8 (upC c).toNat] (.int .i64 (Lib.indexByte zBJ (upC c))):=by
   have:=uN (G:=G) zBJ ((upC c).toNat)
   simpa using this
  refine AW.skip (AW.seq (AW.block (rgn [.int .u8 c.toNat] [[],[],[4,6,18,19,20]] ?_)))
  iterate 3 refine op1 tok ?_ (hv:=by first | with_reducible exact True.intro | (simp [qI,hc]; done) | omega | simp | (simp +contextual; omega))
  refine qA ?_
  refine AW.join (α:=Unit) (fun _=>True) (fun a=>⟨wL 43 [(4,.p (.int .i32 x)),(6,.p (.int .u8 (upC c).toNat)),(18,.p (.sl 1 (qI tl))),(19,.p (.int .i64 4)),(20,.p (.int .i64 i))],[],[],0⟩) ?_ ?_
  ·
   refine rgn [] [[],[],[],[],[],[4,6,18,19,20,29]] ?_
   iterate 3 refine op1 tok ?_
   iterate 2 refine op2 tok ?_
   refine op1 tok ?_
   refine qA (cnd ?_ ?_)
   ·intro h29
    try simp at h29
    refine rgz [] [[],[],[4,6,18,19,20]] ?_
    iterate 3 refine op1 tok ?_
    refine qA ?_
    exact ⟨(),trivial,qH (by simp [zCQ h29]),rfl,by simp [zCQ h29],by simp [zCQ h29]⟩
   intro h29
   try simp at h29
   refine AW.skip ?_
   exact ⟨(),trivial,qH (by simp [zCR (c:=c) (by omega)]),rfl,by simp [zCR (c:=c) (by omega)],by simp [zCR (c:=c) (by omega)]⟩
  ·
   rintro a hI
   refine rgn [.nilp,.int .i64 (Lib.indexByte zBJ (upC c))] [[],[],[4,7,18,19,20]] ?_
   iterate 3 refine oq1 tok hIB ?_
   refine qA (AW.seq (rgn [] [[],[4,7,18,19,20,35]] ?_))
   iterate 2 refine op1 tok ?_
   refine qA (cnd ?_ ?_)
   ·intro h35
    try simp at h35
    have hn:qFY tl 0=none:=by
     rw [hstep]
     cases hk:qMR c with
     | none=>rfl
     | some k=>rw [hk] at hi2; simp only at hi2; omega
    refine rgn [] [[],[]] ?_
    iterate 2 refine op1 tok ?_
    refine qA ?_
    exact AW.ret (qX (k:=by simp [hn]))
   intro h35
   try simp at h35
   obtain ⟨k,hk⟩:∃ k,qMR c=some k:=by
    cases hk:qMR c with
    | none=>rw [hk] at hi2; simp only at hi2; omega
    | some k=>exact ⟨k,rfl⟩
   have hk16:=qZI hk
   rw [hk] at hi2 hstep
   simp only at hi2 hstep
   rw [hi2]
   refine AW.skip (rgz [] [[],[],[],[18,19,20,37,39],[],[4,18,19,20]] ?_)
   iterate 6 refine op1 tok ?_
   refine qA (rgz [] [[],[4,18,19,20]] ?_)
   iterate 2 refine op1 tok ?_
   refine qA ?_
   exact ⟨(i+1,16 * x+k),⟨by simp only []; omega,hstep.symm,by simp only []; rw [Nat.pow_succ]; omega⟩,by simp only []; omega,qH (by simp [qWQ hxl2 hk16]),rfl,by simp [qWQ hxl2 hk16],by simp [qWQ hxl2 hk16]⟩
 intro h21
 try simp at h21
 obtain rfl:i=4:=by omega
 have hfin:qFY tl 0=some x:=by rw [← hx,List.drop_of_length_le (by omega)]; rfl
 refine AW.exit ?_
 simp
 refine rgn [] [[],[],[2,3]] ?_
 iterate 3 refine op1 tok ?_
 refine qA ?_
 exact AW.ret (qX (k:=by simp [hfin]))
def qKC:List UInt8:=[34,92,47,98,102,110,114,116]
def zNV:List UInt8:=[34,92,47,8,12,10,13,9]
theorem zIQ:∀ k:Fin 256,if (qAI (UInt8.ofNat k.val)).isSome=true then 0≤Lib.indexByte qKC (UInt8.ofNat k.val)∧(Lib.indexByte qKC (UInt8.ofNat k.val)).toNat<8∧zNV[(Lib.indexByte qKC (UInt8.ofNat k.val)).toNat]?=some (UInt8.ofNat ((qAI (UInt8.ofNat k.val)).getD 0))∧(qAI (UInt8.ofNat k.val)).getD 0<256 else Lib.indexByte qKC (UInt8.ofNat k.val) = -1:=by decide +kernel
theorem zFF (c:UInt8):if (qAI c).isSome=true then 0≤Lib.indexByte qKC c∧(Lib.indexByte qKC c).toNat<8∧zNV[(Lib.indexByte qKC c).toNat]?=some (UInt8.ofNat ((qAI c).getD 0))∧(qAI c).getD 0<256 else Lib.indexByte qKC c = -1:=by
 have:=zIQ ⟨c.toNat,c.toNat_lt⟩
 simpa only [UInt8.ofNat_toNat] using this
theorem qZJ:∀ (l:List UInt8) (x n:Nat),qFY l x=some n→n<(x+1) * 16 ^ l.length
 | [],x,n,h=>by simp [qFY] at h; subst h; simp
 | c::l,x,n,h=>by
  simp only [qFY] at h
  split at h
  ·cases h
  rename_i k hk
  have h1:=qZJ l _ n h
  have h2:=qZI hk
  rw [List.length_cons,Nat.pow_succ]
  calc n<(16 * x+k+1) * 16 ^ l.length:=h1
   _≤(16 * (x+1)) * 16 ^ l.length:=Nat.mul_le_mul_right _ (by omega)
   _=(x+1) * (16 ^ l.length * 16):=by rw [Nat.mul_comm 16,Nat.mul_assoc,Nat.mul_comm 16]
theorem qKR (s:List UInt8):(wC s).getD 0<65536:=by
 cases h:wC s with
 | none=>simp
 | some n =>
  unfold wC at h
  split at h
  ·cases h
  have h1:=qZJ _ _ _ h
  have h2:((s.drop 2).take 4).length≤4:=by simp; omega
  have h3:16 ^ ((s.drop 2).take 4).length≤16 ^ 4:=Nat.pow_le_pow_right (by omega) h2
  simp only [Option.getD_some]; omega
theorem zJQ (r:Nat):(r:Int).fdiv (2 ^ min 10 IntKind.i32.bits)=((r / 1024:Nat):Int):=(Int.fdiv_eq_ediv_of_nonneg _ (by decide)).trans (by show (r:Int) / 1024=_; omega)
theorem qTN (x:Nat):((x:Int).fdiv (2 ^ min 10 IntKind.i32.bits)=54)=(x / 1024=54):=by rw [zJQ]; exact propext (by omega)
theorem qTM (x:Nat):((x:Int).fdiv (2 ^ min 10 IntKind.i32.bits)=55)=(x / 1024=55):=by rw [zJQ]; exact propext (by omega)
theorem qZT {x:Nat} (h:x<65536):IntKind.i32.wrap ↑(x % 2 ^ IntKind.i32.bits &&& 1023 % 2 ^ IntKind.i32.bits)=((x % 1024:Nat):Int):=by
 have e1:x % 2 ^ IntKind.i32.bits=x:=Nat.mod_eq_of_lt (by show x<4294967296; omega)
 have e2:1023 % 2 ^ IntKind.i32.bits=2 ^ 10-1:=rfl
 rw [e1,e2,Nat.and_two_pow_sub_one_eq_mod]
 simp [IntKind.wrap,IntKind.bits,IntKind.signed]; omega
theorem zNE (x:Nat):IntKind.i32.wrap (((x % 1024:Nat):Int) * 2 ^ min 10 IntKind.i32.bits)=((x % 1024 * 1024:Nat):Int):=by
 have e:((x % 1024:Nat):Int) * 2 ^ min 10 IntKind.i32.bits=((x % 1024 * 1024:Nat):Int):=by show ((x % 1024:Nat):Int) * 1024=_; omega
 rw [e]
 simp [IntKind.wrap,IntKind.bits,IntKind.signed]; omega
theorem qQB (s:List UInt8) (hs:s.length≤1000000000000):AFn Tryz.prog G 64 [.str s] (.tup [.int .i32 (yX s).1,.int .i64 (yX s).2.1,.bool (yX s).2.2]):=by
 refine AFn.introU tok Tryz.func64 (by kernel_rfl) rfl rfl ?_
 simp only [Tryz.f64,qN,List.map_cons,List.map_nil]
 have hu1:=qYD (G:=G) s
 have hu2:=qYD (G:=G) (s.drop 6)
 have hl1:=qKR s
 have hl2:=qKR (s.drop 6)
 have hIB:∀ c:UInt8,AFn Tryz.prog G 31 [.str qKC,.int .u8 c.toNat] (.int .i64 (Lib.indexByte qKC c)):=fun c=>by
  have:=uN (G:=G) qKC c.toNat
  simpa using this
 refine rgn [] [[],[],[0]] ?_
 iterate 3 refine op1 tok ?_
 refine qA (AW.seq (rgn [] [[],[],[0,11]] ?_))
 iterate 3 refine op1 tok ?_
 refine qA (cnd ?_ ?_)
 ·intro h11
  try simp at h11
  have he:yX s=(0,0,false):=by
   match s,h11 with
   | [],_=>rfl
   | [a],_=>rfl
   | a::b::t,h=>simp at h; omega
  refine rgn [] [[],[],[]] ?_
  iterate 3 refine op1 tok ?_
  refine qA ?_
  exact AW.ret (qX (k:=by simp [he]))
 intro h11
 try simp at h11
 obtain ⟨a,c,t,rfl⟩:∃ a c t,s=a::c::t:=by
  match s,h11 with
  | [],h=>simp at h
  | [a],h=>simp at h
  | a::c::t,_=>exact ⟨a,c,t,rfl⟩
 have hat:=zFF c
 refine AW.skip (AW.seq (rgn [.int .u8 c.toNat,.nilp,.int .i64 (Lib.indexByte qKC c)] [[],[],[],[0,5]] ?_))
 iterate 4 refine op1 tok ?_ (hv:=by first | with_reducible exact True.intro | (first | exact hIB c | simp; done) | omega | simp | (simp +contextual; omega))
 refine qA (rgn [] [[],[0,5,16]] ?_)
 iterate 2 refine op1 tok ?_
 refine qA (cnd ?_ ?_)
 ·intro h16
  try simp at h16
  obtain ⟨v,hv⟩:∃ v,qAI c=some v:=by
   cases hv:qAI c with
   | none=>rw [hv] at hat; simp at hat; omega
   | some v=>exact ⟨v,rfl⟩
  rw [hv] at hat
  simp only [Option.isSome_some,if_true,Option.getD_some] at hat
  have he:yX (a::c::t)=(v,2,true):=by unfold yX; simp only [hv]
  have hvn:((UInt8.ofNat v).toNat:Int)=v:=by simp; omega
  refine rgn [.int .u8 (UInt8.ofNat v).toNat] [[],[],[],[2],[],[]] ?_
  iterate 6 refine op1 tok ?_ (hv:=by first | with_reducible exact True.intro | (first | exact ⟨hat.1,_,hat.2.2.1,rfl⟩ | simp; done) | omega | simp | (simp +contextual; omega))
  refine qA ?_
  exact AW.ret (qX (k:=by simp [he]; omega))
 intro h16
 try simp at h16
 have hv:qAI c=none:=by
  cases hv:qAI c with
  | none=>rfl
  | some v=>rw [hv] at hat; simp at hat; omega
 have he:yX (a::c::t)=qCI (wC (a::c::t)) (wC ((a::c::t).drop 6)):=by unfold yX; simp only [hv]
 rw [he]
 unfold qCI
 have hlen6:(wC (a::c::t)).isSome=true→6≤(a::c::t).length:=by
  unfold wC; split
  ·intro h; cases h
  intro _; omega
 generalize wC (a::c::t)=A at *
 generalize wC ((a::c::t).drop 6)=B at *
 generalize A.getD 0=x at *
 generalize B.getD 0=y at *
 refine AW.skip (rgn [.nilp,.tup [.int .i32 x,.bool A.isSome]] [[],[],[],[],[],[0,6,24],[0,6,7]] ?_)
 iterate 7 refine oq1 tok hu1 ?_
 refine qA (AW.seq (rgn [] [[],[],[],[],[],[0,6,7,27,30],[0,6,7,31]] ?_))
 iterate 3 refine op1 tok ?_
 iterate 3 refine op2 tok ?_
 refine op1 tok ?_
 refine qA (cnd ?_ ?_)
 ·intro h31
  try simp at h31
  rw [qTN] at h31
  have hc:A.isSome=false∨x / 1024≠54:=h31.imp (fun h=>by rw [h]; rfl) id
  rw [if_pos hc]
  refine rgn [] [[],[],[],[],[32,34,36],[],[],[2,38],[],[2,3,4]] ?_
  iterate 3 refine op1 tok ?_
  iterate 3 refine op2 tok ?_
  iterate 4 refine op1 tok ?_
  refine qA ?_
  exact AW.ret (qX (k:=by simp [qTM]))
 intro h31
 try simp at h31
 rw [qTN] at h31
 have hA:A.isSome=true:=by
  cases A with
  | none=>exact absurd rfl h31.1
  | some v=>rfl
 rw [if_neg (fun h=>h.elim (fun h=>by rw [hA] at h; cases h) (fun h=>h h31.2))]
 have h6:=hlen6 hA
 have ht:List.take ((t.length:Int)+1+1).toNat (a::c::t)=a::c::t:=List.take_of_length_le (by simp; omega)
 have e1:=qZT hl1
 have e2:=qZT hl2
 have e3:=zNE x
 refine AW.skip (rgn [.nilp,.tup [.int .i32 y,.bool B.isSome]] [[],[],[],[6,39],[],[],[],[6,7,8]] ?_)
 iterate 8 refine op1 tok ?_ (hv:=by first | with_reducible exact True.intro | (first | (rw [ht]; exact hu2) | (simp at h6; omega); done) | omega | simp | (simp +contextual; omega))
 refine qA (rgn [] [[],[],[],[7,8,48],[],[],[],[8,51,52],[],[],[],[51,53,56],[],[],[],[2,3,4]] ?_)
 iterate 9 refine op1 tok ?_ (hv:=by first | with_reducible exact True.intro | (simp only [e1,e2,e3]; omega; done) | omega | simp | (simp +contextual; omega))
 iterate 3 refine op2 tok ?_ (hv:=by first | with_reducible exact True.intro | (simp only [e1,e2,e3]; omega; done) | omega | simp | (simp +contextual; omega))
 iterate 4 refine op1 tok ?_ (hv:=by first | with_reducible exact True.intro | (simp only [e1,e2,e3]; omega; done) | omega | simp | (simp +contextual; omega))
 refine qA ?_
 exact AW.ret (qX (k:=by simp [qTM,e1,e2]; simpa using e3))
theorem qZL {s:List UInt8} (h:(yX s).2.2=true):(yX s).1≤1114111∧((yX s).1<55296∨57343<(yX s).1)∧2≤(yX s).2.1∧(yX s).2.1≤12:=by
 match s with
 | []=>simp [yX] at h
 | [a]=>simp [yX] at h
 | a::c::t =>
  have hat:=zFF c
  have h1:=qKR (a::c::t)
  unfold yX at h ⊢
  cases hv:qAI c with
  | some v =>
   simp only [hv,Option.isSome_some,if_true,Option.getD_some] at hat h ⊢
   omega
  | none =>
   simp only [hv] at h ⊢
   unfold qCI at h ⊢
   generalize wC (a::c::t)=A at *
   generalize wC ((a::c::t).drop 6)=B at *
   generalize A.getD 0=x at *
   generalize B.getD 0=y at *
   by_cases hc:A.isSome=false∨x / 1024≠54
   ·rw [if_pos hc] at h ⊢
    simp only [Bool.and_eq_true,decide_eq_true_eq] at h
    have h54:x / 1024≠54:=hc.resolve_left (fun e=>by rw [h.1] at e; cases e)
    simp only
    omega
   rw [if_neg hc] at h ⊢
   simp only
   omega
theorem qSP (f k:Nat) (out:List UInt8):yC f [] k out=([],0,6):=by cases f <;> simp [yC]
theorem qKM (r:Int):1≤(Lib.encodeRune r).length∧(Lib.encodeRune r).length≤4:=by
 have:=Lib.encodeRuneZ_length r
 simpa only [Lib.encodeRune,List.length_map] using this
theorem qXS (hG:U8 G) (s:List UInt8) (hs:s.length≤1000000000):AFn Tryz.prog G 33 [.str s] (.tup [.str (qO s).1,.int .i64 (qO s).2.1,.int .i64 (qO s).2.2]):=by
 refine AFn.introU tok Tryz.func33 (by kernel_rfl) rfl rfl ?_
 simp only [Tryz.f33,qN,List.map_cons,List.map_nil]
 have hpre:qY s [34]=decide (s.head?=some 34):=by cases s <;> simp [qY]
 refine rgn [] [[],[],[0]] ?_
 iterate 3 refine op1 tok ?_
 refine qA (AW.seq (rgn [.nilp,.bool (qY s [34])] [[],[],[0,12]] ?_))
 iterate 3 refine op1 tok ?_
 refine qA (cnd ?_ ?_)
 ·intro h12
  try simp at h12
  have hu:qO s=([],0,6):=by
   unfold qO; rw [if_neg]; rw [hpre] at h12; simpa using h12
  refine rgn [] [[],[],[]] ?_
  iterate 3 refine op1 tok ?_
  refine qA ?_
  exact AW.ret (qX (k:=by simp [hu]))
 intro h12
 try simp at h12
 have hu:qO s=yC s.length (s.drop 1) 1 []:=by
  unfold qO; rw [if_pos]; rw [hpre] at h12; simpa using h12
 rw [hu]
 have hs0:1≤s.length:=by cases s with
  | nil=>rw [hpre] at h12; simp at h12
  | cons b s=>simp
 refine AW.skip (rgn [] [[]] ?_)
 refine op1 tok ?_
 refine qA (AW.seq ?_)
 refine AW.renE 5 2 (by simp) (by conv=>lhs; simp) ?_
 refine AW.beginBox 2 3 1 5 1 (by simp; exact ⟨rfl,rfl⟩) (by simp) (by simp) (by conv=>lhs; simp) ?_
 refine rgn [] [[]] ?_
 refine op1 tok ?_
 refine qA (AW.block ?_)
 refine AW.loop (α:=Nat × List UInt8 × Bool × Nat) (fun a=>yC s.length (s.drop 1) 1 []=yC a.2.2.2 (s.drop a.1) a.1 a.2.1∧s.length+1≤a.2.2.2+a.1∧a.2.1.length≤4 * a.1∧a.1≤s.length+12) (fun a=>⟨wL 61 [(0,.p (.str s)),(5,.ptr 2 0),(6,.p (.int .i64 a.1))],[],[(2,.vars 85 [if a.2.2.1=true then .ptr 2 0 else .p .nilp,.ms 3]),(3,.row 5 1 (qI a.2.1))],0⟩) (fun a=>s.length+12-a.1) ((1,[],false,s.length)) ⟨rfl,by simp,by simp,by simp⟩ ⟨qH (by simp),rfl,by simp,by simp⟩ ?_
 rintro ⟨k,out,u,f⟩ ⟨hq,hf,hol,hk⟩
 simp only at hq hf hol hk
 rw [hq]
 clear hq hu
 refine AW.seq ?_
 by_cases hs5:u=true
 ·
  first | rw [if_pos hs5] | rw [if_neg hs5]
  refine rgn [] [[],[],[],[0,5,6,16]] ?_
  iterate 4 refine op1 tok ?_
  refine qA (cnd ?_ ?_)
  ·intro h16
   try simp at h16
   obtain ⟨f,rfl⟩:∃ g,f=g+1:=⟨f-1,by omega⟩
   have hne:s.drop k≠[]:=by intro e; have:=congrArg List.length e; simp at this; omega
   have hdec:=qFD (G:=G) hG (s.drop k) hne
   have hstep : yC (f + 1) (s.drop k) k out = if (Lib.decodeL (s.drop k)).1 = 34 then (if 4096 < out.length then ([], 0, 3) else (out, k + 1, 0)) else if (Lib.decodeL (s.drop k)).1 < 32 ∨ ((Lib.decodeL (s.drop k)).1 = 65533 ∧ (Lib.decodeL (s.drop k)).2 = 1) then ([], 0, 6)
     else if (Lib.decodeL (s.drop k)).1=92 then (match qBR (s.drop k) with
      | none=>([],0,6)
      | some (c,n)=>yC f ((s.drop k).drop n) (k+n) (out++Lib.encodeRune c))
     else yC f ((s.drop k).drop (Lib.decodeL (s.drop k)).2) (k+(Lib.decodeL (s.drop k)).2) (out++Lib.encodeRune (Lib.decodeL (s.drop k)).1):=by
    simp only [yC]; rw [if_neg hne] <;> rfl
   rw [hstep]
   clear hstep
   have hok:=qFZ (s.drop k)
   have hmx:=qAR (s.drop k)
   have hwl:=Lib.decodeL_le (s.drop k) hne
   have hwp:=vV (s.drop k) hne
   have hesc:=qQB (G:=G) (s.drop k) (by simp; omega)
   have hEL:qBR (s.drop k)=if (yX (s.drop k)).2.2=true then some ((yX (s.drop k)).1,(yX (s.drop k)).2.1) else none:=rfl
   have hEO:=qZL (s:=s.drop k)
   rw [hEL]
   clear hEL
   rw [List.length_drop] at hwl
   generalize Lib.decodeL (s.drop k)=p at *
   obtain ⟨r,w⟩:=p
   generalize yX (s.drop k)=q at *
   obtain ⟨c,n,ok⟩:=q
   simp only at *
   refine AW.skip (AW.block (rgn [.nilp,.tup [.int .i32 r,.int .i64 w]] [[],[],[],[],[0,5,6,17],[],[],[],[0,5,6,7,8]] ?_))
   iterate 9 refine oq1 tok hdec ?_
   refine qA (AW.seq (AW.block (rgn [] [[],[],[0,5,6,7,8,24]] ?_)))
   iterate 3 refine op1 tok ?_
   refine qA (cnd ?_ ?_)
   ·intro h24
    try simp at h24
    rw [if_pos (show r=34 by omega)]
    refine AW.seq ?_
    refine AW.seqRegionO [] ?_
    refine qB.stepK [5,6,27] (qJ rfl (zJM out) (by simp)) (by conv=>lhs; simp) rfl ?_
    refine qB.run [[5,6,28]] ?_
    refine op1 tok ?_
    refine qA (cnd ?_ ?_)
    ·intro h28
     try simp at h28
     rw [if_pos (show 4096<out.length by omega)]
     refine rgn [] [[],[],[]] ?_
     iterate 3 refine op1 tok ?_
     exact qA (AW.ret qX)
    intro h28
    try simp at h28
    rw [if_neg (show ¬ 4096<out.length by omega)]
    refine AW.skip ?_
    refine AW.seqRegionO [] ?_
    refine qB.stepK [6,29] (qJ rfl (qJA out) (by simp)) (by conv=>lhs; simp) rfl ?_
    refine qB.run [[],[],[],[2,3],[]] ?_
    iterate 5 refine op1 tok ?_
    exact qA (AW.ret qX)
   intro h24
   try simp at h24
   rw [if_neg (show ¬ r=34 by omega)]
   refine rgn [] [[],[],[],[],[],[0,5,6,7,8,35,38],[],[],[],[0,5,6,7,8,42],[0,5,6,7,8,32]] ?_
   iterate 3 refine op1 tok ?_
   iterate 6 refine op2 tok ?_
   iterate 2 refine op1 tok ?_
   refine qA (cnd ?_ ?_)
   ·intro h32
    try simp at h32
    rw [if_pos (show r<32∨(r=65533∧w=1) by omega)]
    refine rgn [] [[],[],[]] ?_
    iterate 3 refine op1 tok ?_
    exact qA (AW.ret qX)
   intro h32
   try simp at h32
   rw [if_neg (show ¬ (r<32∨(r=65533∧w=1)) by omega)]
   refine rgn [] [[],[],[0,5,6,7,8,43]] ?_
   iterate 3 refine op1 tok ?_
   refine qA (cnd ?_ ?_)
   ·intro h43
    try simp at h43
    rw [if_pos (show r=92 by omega)]
    refine rgn [] [[0,5,6]] ?_
    refine op1 tok ?_
    refine qA (rgn [.nilp,.tup [.int .i32 c,.int .i64 n,.bool ok]] [[],[],[],[],[0,5,6,46],[],[],[],[],[],[0,5,6,7,8,9]] ?_)
    iterate 11 refine oq1 tok hesc ?_
    refine qA (rgn [] [[],[0,5,6,7,8,55]] ?_)
    iterate 2 refine op1 tok ?_
    refine qA (cnd ?_ ?_)
    ·intro h55
     try simp at h55
     subst h55
     refine rgn [] [[],[],[]] ?_
     iterate 3 refine op1 tok ?_
     exact qA (AW.ret qX)
    intro h55
    try simp at h55
    subst h55
    have hE:=hEO rfl
    simp only [if_true]
    refine AW.skip ?_
    have hel:=qKM c
    refine rgn [] [[]] ?_
    refine op1 tok ?_
    refine qD ?_
    refine qB.stepK [0,5,6,8] (qJ rfl (vE out c (by omega) (by omega) (by omega) (by omega)) (by simp)) (by conv=>lhs; simp) rfl ?_
    refine qB.nil ?_
    refine rgz [] [[],[],[0,5,60],[0,5,6]] ?_
    iterate 4 refine op1 tok ?_
    refine qA ?_
    exact ⟨(k+n,out++Lib.encodeRune c,true,f),⟨by rw [List.drop_drop],by simp only []; omega,by simp; omega,by simp only []; omega⟩,by simp only []; omega,qH (by simp [qI]),rfl,by simp [qI],by simp [qI]⟩
   intro h43
   try simp at h43
   rw [if_neg (show ¬ r=92 by omega)]
   refine AW.skip ?_
   have hel:=qKM r
   refine rgn [] [[]] ?_
   refine op1 tok ?_
   refine qD ?_
   refine qB.stepK [0,5,6,8] (qJ rfl (vE out r (by omega) (by omega) (by omega) (by omega)) (by simp)) (by conv=>lhs; simp) rfl ?_
   refine qB.nil ?_
   refine rgz [] [[],[],[0,5,60],[0,5,6]] ?_
   iterate 4 refine op1 tok ?_
   refine qA ?_
   exact ⟨(k+w,out++Lib.encodeRune r,true,f),⟨by rw [List.drop_drop],by simp only []; omega,by simp; omega,by simp only []; omega⟩,by simp only []; omega,qH (by simp [qI]),rfl,by simp [qI],by simp [qI]⟩
  intro h16
  try simp at h16
  rw [List.drop_of_length_le (show s.length≤k by omega),qSP]
  refine AW.exit ?_
  simp
  refine rgn [] [[],[],[]] ?_
  iterate 3 refine op1 tok ?_
  exact qA (AW.ret qX)
 ·
  first | rw [if_pos hs5] | rw [if_neg hs5]
  refine rgn [] [[],[],[],[0,5,6,16]] ?_
  iterate 4 refine op1 tok ?_
  refine qA (cnd ?_ ?_)
  ·intro h16
   try simp at h16
   obtain ⟨f,rfl⟩:∃ g,f=g+1:=⟨f-1,by omega⟩
   have hne:s.drop k≠[]:=by intro e; have:=congrArg List.length e; simp at this; omega
   have hdec:=qFD (G:=G) hG (s.drop k) hne
   have hstep : yC (f + 1) (s.drop k) k out = if (Lib.decodeL (s.drop k)).1 = 34 then (if 4096 < out.length then ([], 0, 3) else (out, k + 1, 0)) else if (Lib.decodeL (s.drop k)).1 < 32 ∨ ((Lib.decodeL (s.drop k)).1 = 65533 ∧ (Lib.decodeL (s.drop k)).2 = 1) then ([], 0, 6)
     else if (Lib.decodeL (s.drop k)).1=92 then (match qBR (s.drop k) with
      | none=>([],0,6)
      | some (c,n)=>yC f ((s.drop k).drop n) (k+n) (out++Lib.encodeRune c))
     else yC f ((s.drop k).drop (Lib.decodeL (s.drop k)).2) (k+(Lib.decodeL (s.drop k)).2) (out++Lib.encodeRune (Lib.decodeL (s.drop k)).1):=by
    simp only [yC]; rw [if_neg hne] <;> rfl
   rw [hstep]
   clear hstep
   have hok:=qFZ (s.drop k)
   have hmx:=qAR (s.drop k)
   have hwl:=Lib.decodeL_le (s.drop k) hne
   have hwp:=vV (s.drop k) hne
   have hesc:=qQB (G:=G) (s.drop k) (by simp; omega)
   have hEL:qBR (s.drop k)=if (yX (s.drop k)).2.2=true then some ((yX (s.drop k)).1,(yX (s.drop k)).2.1) else none:=rfl
   have hEO:=qZL (s:=s.drop k)
   rw [hEL]
   clear hEL
   rw [List.length_drop] at hwl
   generalize Lib.decodeL (s.drop k)=p at *
   obtain ⟨r,w⟩:=p
   generalize yX (s.drop k)=q at *
   obtain ⟨c,n,ok⟩:=q
   simp only at *
   refine AW.skip (AW.block (rgn [.nilp,.tup [.int .i32 r,.int .i64 w]] [[],[],[],[],[0,5,6,17],[],[],[],[0,5,6,7,8]] ?_))
   iterate 9 refine oq1 tok hdec ?_
   refine qA (AW.seq (AW.block (rgn [] [[],[],[0,5,6,7,8,24]] ?_)))
   iterate 3 refine op1 tok ?_
   refine qA (cnd ?_ ?_)
   ·intro h24
    try simp at h24
    rw [if_pos (show r=34 by omega)]
    refine AW.seq ?_
    refine AW.seqRegionO [] ?_
    refine qB.stepK [5,6,27] (qJ rfl (zGH out) (by simp)) (by conv=>lhs; simp) rfl ?_
    refine qB.run [[5,6,28]] ?_
    refine op1 tok ?_
    refine qA (cnd ?_ ?_)
    ·intro h28
     try simp at h28
     rw [if_pos (show 4096<out.length by omega)]
     refine rgn [] [[],[],[]] ?_
     iterate 3 refine op1 tok ?_
     exact qA (AW.ret qX)
    intro h28
    try simp at h28
    rw [if_neg (show ¬ 4096<out.length by omega)]
    refine AW.skip ?_
    refine AW.seqRegionO [] ?_
    refine qB.stepK [6,29] (qJ rfl (qXT out) (by simp)) (by conv=>lhs; simp) rfl ?_
    refine qB.run [[],[],[],[2,3],[]] ?_
    iterate 5 refine op1 tok ?_
    exact qA (AW.ret qX)
   intro h24
   try simp at h24
   rw [if_neg (show ¬ r=34 by omega)]
   refine rgn [] [[],[],[],[],[],[0,5,6,7,8,35,38],[],[],[],[0,5,6,7,8,42],[0,5,6,7,8,32]] ?_
   iterate 3 refine op1 tok ?_
   iterate 6 refine op2 tok ?_
   iterate 2 refine op1 tok ?_
   refine qA (cnd ?_ ?_)
   ·intro h32
    try simp at h32
    rw [if_pos (show r<32∨(r=65533∧w=1) by omega)]
    refine rgn [] [[],[],[]] ?_
    iterate 3 refine op1 tok ?_
    exact qA (AW.ret qX)
   intro h32
   try simp at h32
   rw [if_neg (show ¬ (r<32∨(r=65533∧w=1)) by omega)]
   refine rgn [] [[],[],[0,5,6,7,8,43]] ?_
   iterate 3 refine op1 tok ?_
   refine qA (cnd ?_ ?_)
   ·intro h43
    try simp at h43
    rw [if_pos (show r=92 by omega)]
    refine rgn [] [[0,5,6]] ?_
    refine op1 tok ?_
    refine qA (rgn [.nilp,.tup [.int .i32 c,.int .i64 n,.bool ok]] [[],[],[],[],[0,5,6,46],[],[],[],[],[],[0,5,6,7,8,9]] ?_)
    iterate 11 refine oq1 tok hesc ?_
    refine qA (rgn [] [[],[0,5,6,7,8,55]] ?_)
    iterate 2 refine op1 tok ?_
    refine qA (cnd ?_ ?_)
    ·intro h55
     try simp at h55
     subst h55
     refine rgn [] [[],[],[]] ?_
     iterate 3 refine op1 tok ?_
     exact qA (AW.ret qX)
    intro h55
    try simp at h55
    subst h55
    have hE:=hEO rfl
    simp only [if_true]
    refine AW.skip ?_
    have hel:=qKM c
    refine rgn [] [[]] ?_
    refine op1 tok ?_
    refine qD ?_
    refine qB.stepK [0,5,6,8] (qJ rfl (qFC out c (by omega) (by omega) (by omega) (by omega)) (by simp)) (by conv=>lhs; simp) rfl ?_
    refine qB.nil ?_
    refine rgz [] [[],[],[0,5,60],[0,5,6]] ?_
    iterate 4 refine op1 tok ?_
    refine qA ?_
    exact ⟨(k+n,out++Lib.encodeRune c,true,f),⟨by rw [List.drop_drop],by simp only []; omega,by simp; omega,by simp only []; omega⟩,by simp only []; omega,qH (by simp [qI]),rfl,by simp [qI],by simp [qI]⟩
   intro h43
   try simp at h43
   rw [if_neg (show ¬ r=92 by omega)]
   refine AW.skip ?_
   have hel:=qKM r
   refine rgn [] [[]] ?_
   refine op1 tok ?_
   refine qD ?_
   refine qB.stepK [0,5,6,8] (qJ rfl (qFC out r (by omega) (by omega) (by omega) (by omega)) (by simp)) (by conv=>lhs; simp) rfl ?_
   refine qB.nil ?_
   refine rgz [] [[],[],[0,5,60],[0,5,6]] ?_
   iterate 4 refine op1 tok ?_
   refine qA ?_
   exact ⟨(k+w,out++Lib.encodeRune r,true,f),⟨by rw [List.drop_drop],by simp only []; omega,by simp; omega,by simp only []; omega⟩,by simp only []; omega,qH (by simp [qI]),rfl,by simp [qI],by simp [qI]⟩
  intro h16
  try simp at h16
  rw [List.drop_of_length_le (show s.length≤k by omega),qSP]
  refine AW.exit ?_
  simp
  refine rgn [] [[],[],[]] ?_
  iterate 3 refine op1 tok ?_
  exact qA (AW.ret qX)
theorem qIK (b:UInt8):qF b=true↔48≤b.toNat∧b.toNat≤57:=by simp [qF,qBA]; omega
def zOB:Nat:=1000000000
def okL (l:List Nat):Prop:=∀ x∈l,x<zOB
theorem zGC {s:List UInt8} (h:s.all qF=true) (n:Nat):(s.take n).all qF=true:=by
 rw [List.all_eq_true] at h ⊢; exact fun b hb=>h b (List.mem_of_mem_take hb)
end Go.Proofs.YtbhhphabggcacaaGreatDoor
