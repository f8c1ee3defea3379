import Derived.Test.YtgcbapchinideaaGreatDoorK4
import Derived.Test.YtgcbapchinideaaGreatDoorK1
import Derived.Test.YtgcbapchinideaaGreatDoorK3
import Derived.Test.YtgcbapchinideaaGreatDoorK2
import Derived.Test.YtgcbapchinideaaGreatDoorM3
import Derived.Test.YtgcbapchinideaaGreatDoorM4
import Derived.Shelf.Strings.OnBuilder
import Derived.Lib.ItoaLen
import Derived.Shelf.LaysM
import Derived.Shelf.Strings.SplitShaped
import Derived.Shelf.Utf8.RuneCount
import Derived.Test.YtgcbapchinideaaGreatDoorProg
import Derived.Lib.IndexMore
import Derived.Lib.Join
import Derived.Lib.RuneCountTail
import Derived.Lib.MapLaws
namespace Go.Proofs.YtgcbapchinideaaGreatDoor
open Sy Go
set_option maxRecDepth 100000
set_option maxHeartbeats 4000000
set_option linter.all false
variable {G:qR}
theorem zLJ (s:List UInt8) (pos:Nat):uR s pos=Lib.decodeL (s.drop pos):=by
 unfold uR Lib.decodeL
 rw[Lib.decode_at,Lib.decode_at]
 have g:∀ k,(⟨s.toArray⟩:ByteArray).get! (pos+k)=(⟨(s.drop pos).toArray⟩:ByteArray).get! (0+k):=by
  intro k
  show s.toArray[pos+k]! = (s.drop pos).toArray[0+k]!
  simp
 have g0:=g 0
 have g1:=g 1
 have g2:=g 2
 have g3:=g 3
 simp only[Nat.add_zero,Nat.zero_add]at g0 g1 g2 g3
 have hsz:(⟨s.toArray⟩:ByteArray).size-pos=(⟨(s.drop pos).toArray⟩:ByteArray).size-0:=by simp[ByteArray.size]
 rw[hsz,g0,g1,g2,g3]
def qC (r:Nat):List UInt8 :=
 if r=34\/r=92 then 92::Lib.encodeRune r else if r=10 then[92,110] else if r=13 then[92,114] else if r=9 then[92,116]
 else if 32<=r/\r≠127 then Lib.encodeRune r else[92,117,48,48,qNX (r / 16),qNX (r % 16)]
theorem zFO (l:List UInt8):(Lib.decodeL l).1<55296\/57343<(Lib.decodeL l).1:=by
 rw[qNN l]
 unfold Lib.decodeN
 have:=(l.getD 0 0).toNat_lt
 repeat' split
 all_goals simp only
 all_goals omega
theorem wBQ (b:UInt8) (h:b.toNat<128):qC b.toNat=qb b:=by
 have henc:=zNZ h
 have key:∀ k:Fin 128,(k.val=34\/k.val=92)=(UInt8.ofNat k.val=34\/UInt8.ofNat k.val=92)/\(k.val=10)=(UInt8.ofNat k.val=10)/\(k.val=13)=(UInt8.ofNat k.val=13)/\(k.val=9)=(UInt8.ofNat k.val=9)/\(¬ (32<=k.val/\k.val≠127))=(UInt8.ofNat k.val<32\/UInt8.ofNat k.val=127):=by decide +kernel
 have k:=key ⟨b.toNat,h⟩
 simp only[UInt8.ofNat_toNat]at k
 obtain⟨k1,k2,k3,k4,k5⟩:=k
 unfold qC qb
 rw[henc]
 simp only[k1,k2,k3,k4,<-k5]
 split
 ·rfl
 split
 ·rfl
 split
 ·rfl
 split
 ·rfl
 split
 ·rfl
 rfl
theorem zWY (r:Nat) (h:128<=r):qC r=Lib.encodeRune r:=by
 unfold qC
 rw[if_neg (by omega),if_neg (by omega),if_neg (by omega),if_neg (by omega),if_pos (by omega)]
theorem zDZ {l:List UInt8} (hne:l≠[]) (hv:Lib.validD l=true):qAZ l=qC (Lib.decodeL l).1++qAZ (l.drop (Lib.decodeL l).2)/\Lib.validD (l.drop (Lib.decodeL l).2)=true:=by
 obtain⟨b,t,rfl⟩:∃ b t,l=b::t:=by cases l with
  | nil=>exact absurd rfl hne
  | cons b t=>exact⟨b,t,rfl⟩
 by_cases hb:b.toNat<128
 ·rw[zFP hb,wBQ b hb]
  rw[Lib.validD_cons b t hb]at hv
  exact⟨rfl,hv⟩
 rw[Lib.validD_step _ hne]at hv
 split at hv
 ·cases hv
 rename_i hok
 obtain⟨h1,h2⟩:=zLV (b::t) hne hok (by simpa using by omega)
 have henc:=Lib.encode_decode (b::t) hne hok
 refine⟨?_,hv⟩
 rw[zWY _ h2,henc]
 conv=>lhs;rw[<-List.take_append_drop (Lib.decodeL (b::t)).2 (b::t)]
 rw[qWI,zJZ h1]
theorem zWX (r:Nat):(qC r).length<=6:=by
 have:=(Lib.encodeRuneZ_length r).2
 unfold qC
 have h:(Lib.encodeRune r).length<=4:=by simpa only[Lib.encodeRune,List.length_map]using this
 repeat' split
 all_goals simp <;> omega
theorem wBW:∀ k:Fin 16,([48,49,50,51,52,53,54,55,56,57,97,98,99,100,101,102]:List UInt8)[k.val]?=some (qNX k.val):=by decide +kernel
theorem wCG:∀ k:Fin 128,IntKind.i32.wrap ↑(k.val % 2 ^ IntKind.i32.bits &&& 15 % 2 ^ IntKind.i32.bits)=((k.val % 16:Nat):Int):=by decide +kernel
theorem wDS (r:Nat):(r:Int).fdiv (2 ^ min 4 IntKind.i32.bits)=((r / 16:Nat):Int):=(Int.fdiv_eq_ediv_of_nonneg _ (by decide)).trans (by show(r:Int) / 16=_;omega)
theorem zCW (s:List UInt8) (hv:Lib.validD s=true) (hs:s.length<=1000000000):AFn Tryz.prog G 115 [.str s] (.str (kT s)):=by
 refine AFn.introU tok Tryz.func115 (by kernel_rfl) rfl rfl ?_
 simp only[Tryz.f115,qG,List.map_cons,List.map_nil]
 refine rgn [] [[0]] ?_
 refine op3 ?_
 refine qA (rgn [] [[]] ?_)
 refine op3 ?_
 refine qA ?_
 refine AW.renE 3 2 (by simp) (by conv=>lhs;simp) ?_
 refine AW.beginBox 2 3 1 5 1 (by simp;exact⟨rfl,rfl⟩) (by simp) (by simp) (by conv=>lhs;simp) ?_
 refine AW.seqRegionO [] ?_
 refine qB.stepK [0,3] (zF rfl (qSL [] 34 (by simp)) (by simp)) (by conv=>lhs;simp) rfl ?_
 refine qB.nil ?_
 refine AW.seq (rgn [] [[],[3,8]] ?_)
 iterate 2 refine op3 ?_
 refine qA (AW.block ?_)
 refine AW.loop (α:=Nat × List UInt8) (fun a=>a.1<=s.length/\Lib.validD (s.drop a.1)=true/\kT s=a.2++(qAZ (s.drop a.1)++[34])/\a.2.length<=6 * a.1+1) (fun a=>⟨zA 47 [(3,.ptr 2 0),(8,.it 8)],[],[(2,.vars 163 [.ptr 2 0,.ms 3]),(3,.row 5 1 (qP a.2)),(8,.iter s a.1)],0⟩) (fun a=>s.length-a.1) ((0,[34])) ⟨by simp,by simpa using hv,by simp[kT],by simp⟩ ⟨qE (by simp),rfl,by simp,by simp⟩ ?_
 rintro⟨pos,out⟩ ⟨hp,hvp,hq,hol⟩
 simp only at hp hvp hq hol
 by_cases hs4:pos<s.length
 ·
  refine rgn [.bool true] [[],[]] ?_
  iterate 2 refine oq1 tok hs4 ?_
  refine qA (AW.seq (cnd ?_ ?_))
  ·intro h10
   try simp at h10
   have hne:s.drop pos≠[]:=by intro e;have:=congrArg List.length e;simp at this;omega
   obtain⟨hst,hvn⟩:=zDZ hne hvp
   have hok:=zFO (s.drop pos)
   have hmx:=qNM (s.drop pos)
   have hwl:=Lib.decodeL_le (s.drop pos) hne
   rw[<-zLJ]at hst hvn hok hmx hwl
   rw[List.length_drop]at hwl
   rw[List.drop_drop]at hst hvn
   have hdp:=qKI hs4
   generalize uR s pos=p at *
   obtain⟨r,w⟩:=p
   simp only at *
   have hlen:=zWX r
   have hnext:kT s=out++qC r++(qAZ (s.drop (pos+w))++[34]):=by rw[hq,hst];simp
   refine AW.skip (AW.block (rgn [] [[],[3,5,8]] ?_))
   iterate 2 refine op3 ?_
   refine qA (rgn [] [[]] ?_)
   refine op3 ?_
   refine qA (AW.block (AW.seq (rgn [] [[],[3,5,8,12,30]] ?_)))
   iterate 2 refine op3 ?_
   refine qA (cnd ?_ ?_)
   ·intro h30
    try simp at h30
    refine AW.skip (cnd ?_ ?_)
    ·intro h30
     try simp at h30
     refine AW.seqRegionO [] ?_
     refine qB.stepK [3,5,8] (zF rfl (vQ out 92 (by omega)) (by simp)) (by conv=>lhs;simp) rfl ?_
     refine qB.nil ?_
     have hqc:qC r=92::Lib.encodeRune r:=by unfold qC;rw[if_pos (by omega)]
     refine rgz [] [[]] ?_
     refine op3 ?_
     refine qJ ?_
     refine qB.stepK [3,8] (zF rfl (qES (out++[92]) r (by simp;omega) (by omega) (by omega) (by omega)) (by simp)) (by conv=>lhs;simp) rfl ?_
     refine qB.nil ?_
     exact⟨(pos+w,out++qC r),⟨by simp only[];omega,hvn,hnext,by simp;omega⟩,by simp only[];omega,qE (by simp[hqc,qP]),rfl,by simp[hqc,qP],by simp[hqc,qP]⟩
    intro h30
    try simp at h30
    omega
   intro h30
   try simp at h30
   refine rgz [] [[],[3,5,8,12,30]] ?_
   iterate 2 refine op3 ?_
   refine qA (cnd ?_ ?_)
   ·intro h30
    try simp at h30
    refine AW.seqRegionO [] ?_
    refine qB.stepK [3,5,8] (zF rfl (vQ out 92 (by omega)) (by simp)) (by conv=>lhs;simp) rfl ?_
    refine qB.nil ?_
    have hqc:qC r=92::Lib.encodeRune r:=by unfold qC;rw[if_pos (by omega)]
    refine rgz [] [[]] ?_
    refine op3 ?_
    refine qJ ?_
    refine qB.stepK [3,8] (zF rfl (qES (out++[92]) r (by simp;omega) (by omega) (by omega) (by omega)) (by simp)) (by conv=>lhs;simp) rfl ?_
    refine qB.nil ?_
    exact⟨(pos+w,out++qC r),⟨by simp only[];omega,hvn,hnext,by simp;omega⟩,by simp only[];omega,qE (by simp[hqc,qP]),rfl,by simp[hqc,qP],by simp[hqc,qP]⟩
   intro h30
   try simp at h30
   refine rgn [] [[],[3,5,8,12,36]] ?_
   iterate 2 refine op3 ?_
   refine qA (cnd ?_ ?_)
   ·intro h36
    try simp at h36
    have hqc:qC r=[92,110]:=by unfold qC;rw[if_neg (by omega),if_pos (by omega)]
    refine AW.regionO [] ?_
    refine qB.stepK [3,8] (zF rfl (vP out [92,110] (by omega) (by simp)) (by simp)) (by conv=>lhs;simp) rfl ?_
    refine qB.nil ?_
    exact⟨(pos+w,out++qC r),⟨by simp only[];omega,hvn,hnext,by simp;omega⟩,by simp only[];omega,qE (by simp[hqc,qP]),rfl,by simp[hqc,qP],by simp[hqc,qP]⟩
   intro h36
   try simp at h36
   refine rgn [] [[],[3,5,8,12,39]] ?_
   iterate 2 refine op3 ?_
   refine qA (cnd ?_ ?_)
   ·intro h39
    try simp at h39
    have hqc:qC r=[92,114]:=by unfold qC;rw[if_neg (by omega),if_neg (by omega),if_pos (by omega)]
    refine AW.regionO [] ?_
    refine qB.stepK [3,8] (zF rfl (vP out [92,114] (by omega) (by simp)) (by simp)) (by conv=>lhs;simp) rfl ?_
    refine qB.nil ?_
    exact⟨(pos+w,out++qC r),⟨by simp only[];omega,hvn,hnext,by simp;omega⟩,by simp only[];omega,qE (by simp[hqc,qP]),rfl,by simp[hqc,qP],by simp[hqc,qP]⟩
   intro h39
   try simp at h39
   refine rgn [] [[],[3,5,8,42]] ?_
   iterate 2 refine op3 ?_
   refine qA (cnd ?_ ?_)
   ·intro h42
    try simp at h42
    have hqc:qC r=[92,116]:=by unfold qC;rw[if_neg (by omega),if_neg (by omega),if_neg (by omega),if_pos (by omega)]
    refine AW.regionO [] ?_
    refine qB.stepK [3,8] (zF rfl (vP out [92,116] (by omega) (by simp)) (by simp)) (by conv=>lhs;simp) rfl ?_
    refine qB.nil ?_
    exact⟨(pos+w,out++qC r),⟨by simp only[];omega,hvn,hnext,by simp;omega⟩,by simp only[];omega,qE (by simp[hqc,qP]),rfl,by simp[hqc,qP],by simp[hqc,qP]⟩
   intro h42
   try simp at h42
   refine AW.seq (rgn [] [[],[],[],[],[],[3,5,8,18]] ?_)
   iterate 3 refine op3 ?_
   iterate 2 refine op4 ?_
   refine op3 ?_
   refine qA (cnd ?_ ?_)
   ·intro h18
    try simp at h18
    have hqc:qC r=Lib.encodeRune r:=by unfold qC;rw[if_neg (by omega),if_neg (by omega),if_neg (by omega),if_neg (by omega),if_pos (by omega)]
    refine rgn [] [[]] ?_
    refine op3 ?_
    refine qJ ?_
    refine qB.stepK [3,8] (zF rfl (qES out r (by omega) (by omega) (by omega) (by omega)) (by simp)) (by conv=>lhs;simp) rfl ?_
    refine qB.nil ?_
    refine AW.exit ?_
    simp
    exact⟨pos+w,out++qC r,⟨by omega,hvn,by simpa using hnext,by simp;omega⟩,by omega,qE (by simp[hqc,qP]),rfl,by simp[hqc,qP],by simp[hqc,qP]⟩
   intro h18
   try simp at h18
   refine AW.skip ?_
   have hqc:qC r=[92,117,48,48,qNX (r / 16),qNX (r % 16)]:=by unfold qC;rw[if_neg (by omega),if_neg (by omega),if_neg (by omega),if_neg (by omega),if_neg (by omega)]
   refine AW.seqRegionO [] ?_
   refine qB.stepK [3,5,8] (zF rfl (vP out [92,117,48,48] (by omega) (by simp)) (by simp)) (by conv=>lhs;simp) rfl ?_
   refine qB.nil ?_
   refine rgn [.int .u8 (qNX (r / 16)).toNat] [[],[],[]] ?_
   iterate 3 refine op3 ?_ (hv:=by first|exact True.intro|(rw[wDS];exact⟨by omega,_,wBW ⟨r / 16,by omega⟩,rfl⟩;done)|omega|simp)
   refine qJ ?_
   refine qB.stepK [3,5,8] (zF rfl (vQ (out++[92,117,48,48]) (qNX (r / 16)) (by simp;omega)) (by simp)) (by conv=>lhs;simp) rfl ?_
   refine qB.nil ?_
   refine rgz [.int .u8 (qNX (r % 16)).toNat] [[],[],[]] ?_
   iterate 3 refine op3 ?_ (hv:=by first|exact True.intro|(rw[wCG ⟨r,by omega⟩];exact⟨by omega,_,wBW ⟨r % 16,by omega⟩,rfl⟩;done)|omega|simp)
   refine qJ ?_
   refine qB.stepK [3,8] (zF rfl (vQ (out++[92,117,48,48,qNX (r / 16)]) (qNX (r % 16)) (by simp;omega)) (by simp)) (by conv=>lhs;simp) rfl ?_
   refine qB.nil ?_
   exact⟨(pos+w,out++qC r),⟨by simp only[];omega,hvn,hnext,by simp;omega⟩,by simp only[];omega,qE (by simp[hqc,qP]),rfl,by simp[hqc,qP],by simp[hqc,qP]⟩
  intro h10
  try simp at h10
 ·
  refine rgn [.bool false] [[],[]] ?_
  iterate 2 refine oq1 tok hs4 ?_
  refine qA (AW.seq (cnd ?_ ?_))
  ·intro h10
   try simp at h10
  intro h10
  try simp at h10
  refine AW.exit ?_
  simp
  obtain rfl:pos=s.length:=by omega
  simp only[List.drop_length,qAZ,List.flatMap_nil,List.nil_append]at hq
  refine AW.seqRegionO [] ?_
  refine qB.stepK [3] (zF rfl (vQ out 34 (by omega)) (by simp)) (by conv=>lhs;simp) rfl ?_
  refine qB.nil ?_
  refine AW.seqRegionO [] ?_
  refine qB.stepK [46] (zF rfl (zME (out++[34])) (by simp)) (by conv=>lhs;simp) rfl ?_
  refine qB.run [[2]] ?_
  refine op3 ?_
  refine qA ?_
  exact AW.ret (qI (k:=by simp[hq]))
attribute [local simp] vM
end Go.Proofs.YtgcbapchinideaaGreatDoor
namespace Go.Proofs.YtgcbapchinideaaGreatDoor
open Sy Go
set_option maxRecDepth 100000
set_option linter.all false
set_option maxHeartbeats 4000000
variable {G:qR}
theorem qQO:Builder.Extra Tryz.prog Tryz.lays156_ren where
 sizeBuilder:=by kernel_rfl
 liesBuilder:=by kernel_rfl
 t5:=Tryz.underlying5
 a5:=Tryz.isAgg5
 z5:=Tryz.sizeOf5
 v5:=Tryz.zeroValue5
 infoByte:=by kernel_rfl
 cellsByte:=by kernel_rfl
 sizeByte:=by kernel_rfl
 neB5:=by decide
def zLW (s:List UInt8):ByteArray:=⟨s.toArray⟩
theorem zUU {ba:ByteArray} {s:List UInt8} (h:ba.data.toList=s):ba=zLW s:=by
 subst h;rfl
theorem zCN (l:List (List UInt8)):(l.map zLW).map (·.data.toList)=l:=by
 rw[List.map_map];conv=>rhs;rw[<-List.map_id l]
 exact List.map_congr_left fun s _=>by simp[zLW]
theorem zIP (l:List (List UInt8)) (sep:List UInt8) (hN:l.length<=140737488355328) (h:(Lib.join l sep).length<=140737488355328):AFn Tryz.prog G 135 [.sl 1 (l.map PD.str),.str sep] (.str (Lib.join l sep)):=by
 refine AFn.of_calls (kA Tryz.func135 (by kernel_rfl) rfl) fun M w vs hg hmem hsz hrd => ?_
 obtain⟨vl⟩:=vs
 match vl,hsz with
 | [u,v],_ =>
 have h1:=hrd 0 u _ rfl rfl
 have h2:=hrd 1 v _ rfl rfl
 cases h2 with
 | @str sb _ hsb hsl =>
 subst hsb
 cases h1 with
 | @sl a n c _ _ b o hn hnc hcm ha h5 h6 h7 =>
 rw[List.length_map]at hn
 have hml:(Lib.join l sb.data.toList).length<=maxLen:=by simp only[maxLen];omega
 by_cases hk:l=[]
 ·subst hk;simp at hn;subst hn
  refine(Any.strings_Join_none Tryz.lays156 qQO a c sb w).mono ?_
  rintro e w' ⟨rfl,rfl⟩
  exact⟨_,rfl,.str (by simp[Lib.join_nil]) (by simpa using hml),RowKit.Below.refl _ _⟩
 have hpos:0<l.length:=List.length_pos_iff.2 hk
 obtain rfl:=ha (by omega)
 have hcell:∀ j x,(l.map zLW)[j]?=some x->w.cell? ⟨b,o+j,none⟩=some (.string x):=fun j x hx=>by
  rw[List.getElem?_map,Option.map_eq_some_iff]at hx
  obtain⟨s,hs,rfl⟩:=hx
  have hgt:(l.map PD.str)[j]?=some (.str s):=by rw[List.getElem?_map,hs];rfl
  obtain⟨u,hu,_⟩:=h6 j _ 0 hgt (by omega)
  have h8:=h7 j _ 0 _ u hgt rfl hu
  cases h8 with
  | @str ba _ hba hl =>
  have:=hmem _ _ _ hu
  simp only[Nat.mul_one,Nat.add_zero]at this
  rw[this,zUU hba]
 have hlt:b<w.heap.size:=by
  obtain⟨x,r,rfl⟩:∃ x r,l=x::r:=by
   cases l with
   | nil=>exact(hk rfl).elim
   | cons x r=>exact⟨x,r,rfl⟩
  exact yM (hcell 0 (zLW x) rfl)
 have hc:=Any.strings_Join Tryz.lays156 qQO b o c (l.map zLW) sb w hcell hlt (by rw[List.length_map];exact hN) (by rw[List.length_map];omega) (by rw[zCN];exact h)
 rw[List.length_map,<-hn]at hc
 refine hc.mono ?_
 rintro e w' ⟨rfl,hb⟩
 rw[zCN]
 exact⟨_,rfl,.str (by simp) (by simpa using hml),hb⟩
theorem qUK (f:FuncId) (v:Val) (ps:List (List UInt8)) (hl:ps.length=v.kids.length) (hn:ps.length<=1000000) (hj:(Lib.join ps [44]).length<=100000000000) (hf:∀ (i:Nat) (s:List UInt8),ps[i]?=some s->AX Tryz.prog G f [.p (.int .i64 i),.ptr 2 0] [(2,.vars 31 v.cells)] (.p (.str s)) [2] [(2,.vars 31 v.cells)]):AX Tryz.prog G 117 [.p v.enc,.func (.func f) [] [.ptr 2 0]] [(2,.vars 31 v.cells)] (.p (.str (Lib.join ps [44]))) [2] [(2,.vars 31 v.cells)]:=by
 refine AX.introU tok 900 Tryz.func117 (by kernel_rfl) rfl rfl ?_
 simp only[Tryz.f117,qG,List.map_cons,List.map_nil]
 refine rgn [] [[],[1,2]] ?_
 iterate 2 refine op3 ?_
 refine qA (rgn [] [[]] ?_)
 refine op3 ?_
 refine qA (AW.seq (rgn [] [[],[],[],[1,5,9,10]] ?_))
 iterate 4 refine op3 ?_
 refine qA (AW.block ?_)
 refine AW.beginE 5 3 9 1 (by simp) (by simp) (by conv=>lhs;simp) ?_
 refine AW.loop (α:=Nat) (fun k=>k<=ps.length) (fun k=>⟨zA 22 [(1,.func (.func f) [] [.ptr 2 0]),(5,.ms 3),(9,.p (.int .i64 ps.length)),(10,.p (.int .i64 k))],[2],[(2,.vars 31 v.cells),(3,.row 9 1 ((ps.take k).map PD.str))],900⟩) (fun k=>ps.length-k) (0) (by omega) ⟨qE (by simp[hl]),rfl,by simp,by simp⟩ ?_
 rintro k hk
 refine rgn [] [[]] ?_
 refine op3 ?_
 refine qA (AW.seq (cnd ?_ ?_))
 ·intro h11
  try simp at h11
  obtain⟨x,hx⟩:∃ x,ps[k]?=some x:=⟨ps[k],by simp[h11]⟩
  have hfx:=hf k x hx
  refine AW.skip (AW.seq (AW.block (rgn [] [[],[1,5,6,9,10]] ?_)))
  iterate 2 refine op3 ?_
  refine qA (rgz [.str x] [[],[],[]] ?_)
  iterate 3 refine op3 ?_
  refine qJ ?_
  refine qB.stepK [1,9,10,13,16] (zF rfl hfx (by simp)) (by conv=>lhs;simp) rfl ?_
  refine qB.run [[],[],[1,5,9,10]] ?_
  iterate 3 refine op3 ?_
  refine qA (rgz [] [[],[1,5,9,10]] ?_)
  iterate 2 refine op3 ?_
  refine qA ?_
  exact⟨k+1,by omega,by omega,qE (by simp[hx,List.take_add_one]),rfl,by simp[hx,List.take_add_one],by simp[hx,List.take_add_one]⟩
 intro h11
 try simp at h11
 obtain rfl:k=ps.length:=by omega
 have hjn:=zIP (G:=G) ps [44] (by omega) (by omega)
 try simp only[List.take_length]
 refine AW.exit ?_
 simp
 refine rgn [.nilp,.str (Lib.join ps [44])] [[],[],[4]] ?_
 iterate 3 refine op3 ?_ (hv:=by first|exact True.intro|((rw[List.take_of_length_le (by simp)];exact hjn);done)|omega|simp)
 refine qA ?_
 exact AW.ret qZ
def qHU (c:Int):List UInt8:=if c<10 then[UInt8.ofNat (48+c.toNat)] else[UInt8.ofNat (48+c.toNat / 10),UInt8.ofNat (48+c.toNat % 10)]
def qHN:List (List UInt8)->List (List UInt8)->List (List UInt8):=List.zipWith fun k p=>kT k++[58]++p
mutual
def zH:Val->List UInt8
 | .mk k _ n t ks vs c=>if k=1 then qOO else if k=2 then qIB else if k=3 then qON else if k=4 then xD n else if k=5 then kT t else if k=8 then 33::qHU c else if k=7 then[123]++Lib.join (qHN ks (qGZ vs)) [44]++[125] else[91]++Lib.join (qGZ vs) [44]++[93]
def qGZ:List Val->List (List UInt8)
 | []=>[]
 | v::vs=>zH v::qGZ vs
end
theorem qMW:∀ l,qGZ l=l.map zH
 | []=>by simp only[qGZ,List.map_nil]
 | v::vs=>by simp only[qGZ,List.map_cons,qMW vs]
theorem jT (v:Val):zH v=if v.kind=1 then qOO else if v.kind=2 then qIB else if v.kind=3 then qON else if v.kind=4 then xD v.num else if v.kind=5 then kT v.text else if v.kind=8 then 33::qHU v.code else if v.kind=7 then[123]++Lib.join (qHN v.keys (v.kids.map zH)) [44]++[125] else[91]++Lib.join (v.kids.map zH) [44]++[93]:=by
 cases v;rw[zH,qMW];rfl
theorem wBT (v x:Val) (i:Nat) (hx:v.kids[i]?=some x) (hp:AFn Tryz.prog G 81 [x.enc] (.str (zH x))):AX Tryz.prog G 119 [.p (.int .i64 i),.ptr 2 0] [(2,.vars 31 v.cells)] (.p (.str (zH x))) [2] [(2,.vars 31 v.cells)]:=by
 refine AX.introU tok 900 Tryz.func119 (by kernel_rfl) rfl rfl ?_
 simp only[Tryz.f119,qG,List.map_cons,List.map_nil]
 simp only[Val.enc_def]at hp
 have hi:=(List.getElem?_eq_some_iff.1 hx).1
 refine rgn [] [[0,1]] ?_
 refine op3 ?_
 refine qA (rgn [x.enc,.nilp,.str (zH x)] [[],[],[],[7],[],[],[3]] ?_)
 iterate 7 refine op3 ?_ (hv:=by first|exact True.intro|exact hp|(simp[hx];done)|(simp;omega);done|omega|simp)
 refine qA ?_
 exact AW.ret qZ
theorem wBU (v x:Val) (key:List UInt8) (i:Nat) (hb:(kT key).length+(zH x).length<=100000000000) (hk:v.keys[i]?=some key) (hx:v.kids[i]?=some x) (hq:AFn Tryz.prog G 115 [.str key] (.str (kT key))) (hp:AFn Tryz.prog G 81 [x.enc] (.str (zH x))):AX Tryz.prog G 118 [.p (.int .i64 i),.ptr 2 0] [(2,.vars 31 v.cells)] (.p (.str (kT key++[58]++zH x))) [2] [(2,.vars 31 v.cells)]:=by
 refine AX.introU tok 900 Tryz.func118 (by kernel_rfl) rfl rfl ?_
 simp only[Tryz.f118,qG,List.map_cons,List.map_nil]
 simp only[Val.enc_def]at hp
 have hi:=(List.getElem?_eq_some_iff.1 hx).1
 have hi2:=(List.getElem?_eq_some_iff.1 hk).1
 refine rgn [] [[0,1]] ?_
 refine op3 ?_
 refine qA ?_
 refine AW.seqDrawS tok mixed 14 [[1],[4],[0],[5,6],[7],[8],[9],[1],[11],[0],[12,13],[14],[15],[10,16]] [.str key,.nilp,.str (kT key),x.enc,.nilp,.str (zH x)] [] (by kernel_rfl) ?_
 iterate 14 refine d1 ?_ (hv:=by first|exact True.intro|exact hp|exact hq|(simp[hx];done)|(simp[hk];done)|(simp;omega);done|omega|simp)
 refine DGo.nil (by kernel_rfl) ⟨by kernel_rfl, ?_⟩
 refine qB.run [[3]] ?_
 refine op3 ?_
 refine qA ?_
 exact AW.ret qZ
theorem qQP (x y:List UInt8) (r:List (List UInt8)) (sep:List UInt8):Lib.join (x::y::r) sep=x++sep++Lib.join (y::r) sep:=by
 simp[Lib.join,List.intercalate,List.intersperse]
theorem zBG {s:List UInt8} {sep:List UInt8}:∀ {l:List (List UInt8)},s∈l->s.length<=(Lib.join l sep).length
 | [],h=>by cases h
 | [x],h=>by rw[List.mem_singleton.1 h,Lib.join_one];exact Nat.le_refl _
 | x::y::r,h=>by
  rw[qQP]
  rcases List.mem_cons.1 h with h|h
  ·subst h;simp only[List.length_append];omega
  have:=zBG (sep:=sep) h;simp only[List.length_append];omega
theorem zPO {ks ps:List (List UInt8)} {i:Nat} {k p:List UInt8} (h1:ks[i]?=some k) (h2:ps[i]?=some p):(qHN ks ps)[i]?=some (kT k++[58]++p):=by
 simp[qHN,List.getElem?_zipWith,h1,h2]
theorem zEB (v:Val) (hq8:v.kind=8->AFn Tryz.prog G 116 [.int .i64 v.code] (.str (qHU v.code)) /\ -9223372036854775808<=v.code/\v.code<=9223372036854775807) (hq4:v.kind=4->AFn Tryz.prog G 114 [v.num.enc] (.str (xD v.num))) (hq5:v.kind=5->AFn Tryz.prog G 115 [.str v.text] (.str (kT v.text))) (hq7:v.kind=7->v.keys.length=v.kids.length/\∀ key∈v.keys,AFn Tryz.prog G 115 [.str key] (.str (kT key))) (hn:v.kids.length<=1000000) (hb:(zH v).length<=1000000000) (ih:∀ k∈v.kids,AFn Tryz.prog G 81 [k.enc] (.str (zH k))):AFn Tryz.prog G 81 [v.enc] (.str (zH v)):=by
 refine AFn.introU tok Tryz.func81 (by kernel_rfl) rfl rfl ?_
 simp only[Tryz.f81,qG,List.map_cons,List.map_nil]
 rw[jT v]at hb ⊢
 simp only[Dc.enc]at hq4
 refine rgn [] [[],[1]] ?_
 iterate 2 refine op3 ?_
 refine qA (AW.seq (rgn [] [[],[1,4]] ?_))
 iterate 2 refine op3 ?_
 refine qA (AW.block (rgn [] [[],[1,4,5]] ?_))
 iterate 2 refine op3 ?_
 refine qA (cnd ?_ ?_)
 ·intro h5
  try simp at h5
  rw[if_pos h5]
  refine rgn [] [[]] ?_
  refine op3 ?_
  refine qA ?_
  exact AW.ret (qI (k:=by simp[qOO]))
 intro h5
 try simp at h5
 rw[if_neg h5]at hb ⊢
 refine rgn [] [[],[1,4,7]] ?_
 iterate 2 refine op3 ?_
 refine qA (cnd ?_ ?_)
 ·intro h7
  try simp at h7
  rw[if_pos h7]
  refine rgn [] [[]] ?_
  refine op3 ?_
  refine qA ?_
  exact AW.ret (qI (k:=by simp[qIB]))
 intro h7
 try simp at h7
 rw[if_neg h7]at hb ⊢
 refine rgn [] [[],[1,4,9]] ?_
 iterate 2 refine op3 ?_
 refine qA (cnd ?_ ?_)
 ·intro h9
  try simp at h9
  rw[if_pos h9]
  refine rgn [] [[]] ?_
  refine op3 ?_
  refine qA ?_
  exact AW.ret (qI (k:=by simp[qON]))
 intro h9
 try simp at h9
 rw[if_neg h9]at hb ⊢
 refine rgn [] [[],[1,4,11]] ?_
 iterate 2 refine op3 ?_
 refine qA (cnd ?_ ?_)
 ·intro h11
  try simp at h11
  rw[if_pos h11]
  have h4:=hq4 h11
  refine rgn [.nilp,.str (xD v.num)] [[],[],[],[2]] ?_
  iterate 4 refine oq1 tok h4 ?_
  exact qA (AW.ret qI)
 intro h11
 try simp at h11
 rw[if_neg h11]at hb ⊢
 refine rgn [] [[],[1,4,16]] ?_
 iterate 2 refine op3 ?_
 refine qA (cnd ?_ ?_)
 ·intro h16
  try simp at h16
  rw[if_pos h16]
  have h5q:=hq5 h16
  refine rgn [.nilp,.str (kT v.text)] [[],[],[],[2]] ?_
  iterate 4 refine oq1 tok h5q ?_
  exact qA (AW.ret qI)
 intro h16
 try simp at h16
 rw[if_neg h16]at hb ⊢
 refine rgn [] [[],[1,4,21]] ?_
 iterate 2 refine op3 ?_
 refine qA (cnd ?_ ?_)
 ·intro h21
  try simp at h21
  rw[if_pos h21]at hb ⊢
  obtain⟨h8,h8a,h8b⟩:=hq8 h21
  have hil:(qHU v.code).length<=2:=by unfold qHU;split <;> simp
  refine rgn [.nilp,.str (qHU v.code)] [[],[],[],[26],[2]] ?_
  iterate 5 refine oq1 tok h8 ?_
  exact qA (AW.ret qI)
 intro h21
 try simp at h21
 rw[if_neg h21]at hb ⊢
 refine rgn [] [[],[1,27]] ?_
 iterate 2 refine op3 ?_
 refine qA (cnd ?_ ?_)
 ·intro h27
  try simp at h27
  rw[if_pos h27]at hb ⊢
  obtain⟨hkl,hqk⟩:=hq7 h27
  have hel:(qHN v.keys (v.kids.map zH)).length=v.kids.length:=by simp[qHN,hkl]
  have hJ:=qUK (G:=G) 118 v (qHN v.keys (v.kids.map zH)) hel (by omega) (by simp only[List.length_append]at hb;omega) (fun i s hs=>by
   have hi:=(List.getElem?_eq_some_iff.1 hs).1
   have hk:v.keys[i]?=some (v.keys[i]'(by omega)):=by simp
   have hx:v.kids[i]?=some (v.kids[i]'(by omega)):=by simp
   have hg:=zPO (ks:=v.keys) (ps:=v.kids.map zH) hk (by rw[List.getElem?_map,hx];rfl)
   rw[hs]at hg
   cases hg
   have hm:=zBG (sep:=[44]) (List.mem_of_getElem? hs)
   exact wBU v _ _ i (by simp only[List.length_append]at hb hm;omega) hk hx (hqk _ (List.getElem_mem _)) (ih _ (List.getElem_mem _)))
  have hjl:(Lib.join (qHN v.keys (v.kids.map zH)) [44]).length<=1000000000:=by simp only[List.length_append]at hb;omega
  refine AW.renE 1 2 (by simp) (by conv=>lhs;simp) ?_
  refine rgn [] [[],[]] ?_
  iterate 2 refine op3 ?_ (hv:=by first|exact True.intro|omega|(simp;omega);done|omega|simp)
  refine qJ ?_
  refine qB.stepK [31] (zF rfl hJ (by simp)) (by conv=>lhs;simp) rfl ?_
  refine qB.run [[],[],[2]] ?_
  iterate 3 refine op3 ?_ (hv:=by first|exact True.intro|omega|(simp;omega);done|omega|simp)
  exact qA (AW.ret qI)
 intro h27
 try simp at h27
 rw[if_neg h27]at hb ⊢
 have hJ:=qUK (G:=G) 119 v (v.kids.map zH) (by simp) (by simpa using hn) (by simp only[List.length_append]at hb;omega) (fun i s hs=>by
  rw[List.getElem?_map,Option.map_eq_some_iff]at hs
  obtain⟨x,hx,rfl⟩:=hs
  exact wBT v x i hx (ih x (List.mem_of_getElem? hx)))
 have hjl:(Lib.join (v.kids.map zH) [44]).length<=1000000000:=by simp only[List.length_append]at hb;omega
 refine AW.skip ?_
 refine AW.renE 1 2 (by simp) (by conv=>lhs;simp) ?_
 refine rgn [] [[],[]] ?_
 iterate 2 refine op3 ?_ (hv:=by first|exact True.intro|omega|(simp;omega);done|omega|simp)
 refine qJ ?_
 refine qB.stepK [36] (zF rfl hJ (by simp)) (by conv=>lhs;simp) rfl ?_
 refine qB.run [[],[],[2]] ?_
 iterate 3 refine op3 ?_ (hv:=by first|exact True.intro|omega|(simp;omega);done|omega|simp)
 exact qA (AW.ret qI)
def qYB (G:qR) (c:Int):Prop:=AFn Tryz.prog G 116 [.int .i64 c] (.str (qHU c))/\0<=c/\c<=99
inductive Prn (G:qR):Val->Prop
 | mk {v : Val} (h8 : v.kind = 8 → qYB G v.code) (h4 : v.kind = 4 → zO v.num = true) (h5 : v.kind = 5 → Lib.validD v.text = true ∧ v.text.length ≤ 1000000000) (h7 : v.kind = 7 → v.keys.length = v.kids.length ∧ ∀ key ∈ v.keys, Lib.validD key = true ∧ key.length ≤ 1000000000)
   (hn:v.kids.length<=1000000) (hb:(zH v).length<=1000000000) (ih:∀ k∈v.kids,Prn G k):Prn G v
theorem zKB (v:Val) (h:Prn G v):AFn Tryz.prog G 81 [v.enc] (.str (zH v)):=by
 induction h with
 | mk h8 h4 h5 h7 hn hb _ ih=>exact zEB _ (fun h=>⟨(h8 h).1,by have:=h8 h;unfold qYB at this;omega,by have:=h8 h;unfold qYB at this;omega⟩) (fun h=>qNQ _ (h4 h)) (fun h=>zCW _ (h5 h).1 (h5 h).2) (fun h=>⟨(h7 h).1,fun key hk=>zCW key ((h7 h).2 key hk).1 ((h7 h).2 key hk).2⟩) hn hb ih
theorem wBP (b:UInt8):(qb b).length<=6:=by
 unfold qb;(repeat' split) <;> simp
theorem qZX (s:List UInt8):(kT s).length<=6 * s.length+2:=by
 have:∀ s:List UInt8,(qAZ s).length<=6 * s.length:=by
  intro s
  induction s with
  | nil=>simp[qAZ]
  | cons b s ih =>
   have h:=wBP b
   show(qb b++qAZ s).length<=_
   rw[List.length_append,List.length_cons];omega
 have:=this s
 unfold kT
 simp;omega
theorem qWZ:∀ l:List (List UInt8),(Lib.join l [44]).length<=(l.map List.length).sum+l.length
 | []=>by simp[Lib.join,List.intercalate]
 | [x]=>by rw[Lib.join_one];simp
 | x::y::r=>by
  rw[qQP]
  have:=qWZ (y::r)
  simp only[List.length_append,List.map_cons,List.sum_cons,List.length_cons,List.length_nil]at this ⊢
  omega
theorem zKC {d:Dc} (h:zO d=true):(xD d).length<=130:=by
 have hb:=qAQ h
 unfold xD wV zZ
 split <;> split <;> simp <;> omega
mutual
def qDT:Val->Bool
 | .mk k _ _ _ _ vs _=>decide (k=8) || zNS vs
def zNS:List Val->Bool
 | []=>false
 | v::vs=>qDT v || zNS vs
end
theorem zAA:∀ l,zNS l=l.any qDT
 | []=>by simp[zNS]
 | v::vs=>by simp[zNS,zAA vs]
theorem qJO (v:Val):qDT v=(decide (v.kind=8) || v.kids.any qDT):=by
 cases v;simp only[qDT,zAA,Val.kids,Val.kind];rfl
theorem zTE {v k:Val} (h:qDT v=false) (hk:k∈v.kids):qDT k=false:=by
 rw[qJO,Bool.or_eq_false_iff]at h
 have:=List.any_eq_false.1 h.2 k hk
 simpa using this
theorem zNR {v:Val} (h:qDT v=false):v.kind≠8:=by
 rw[qJO,Bool.or_eq_false_iff]at h
 simpa using h.1
theorem qTW {v:Val} (h:zX v=true) (hc:v.kind≠8):v.code=0/\v.kids.length<=200 /\
  ((v.kind=1/\v.num=dc0/\v.text=[]/\v.keys=[]/\v.kids=[])\/(v.kind=2/\v.num=dc0/\v.text=[]/\v.keys=[]/\v.kids=[])\/(v.kind=3/\v.num=dc0/\v.text=[]/\v.keys=[]/\v.kids=[]) \/
   (v.kind=4/\zO v.num=true/\v.text=[]/\v.keys=[]/\v.kids=[])\/(v.kind=5/\v.num=dc0/\qAR v.text=true/\v.keys=[]/\v.kids=[]) \/
   (v.kind=6/\v.num=dc0/\v.text=[]/\v.keys=[])\/(v.kind=7/\v.num=dc0/\v.text=[]/\v.keys.length=v.kids.length/\qNG v.keys=true)):=by
 rw[qBV]at h
 simp only[Bool.and_eq_true,qEO,qDU,decide_eq_true_eq]at h
 obtain⟨⟨⟨b1,b2,b3⟩,⟨⟨⟨⟨c1,c2⟩,c3⟩,c4⟩,c5⟩⟩,_⟩:=h
 have hcode:v.code=0:=by
  unfold zID at c1
  simp[hc]at c1
  exact c1
 refine⟨hcode,b3, ?_⟩
 unfold zOB at c2
 unfold qYY at c3
 unfold qLP at c4
 unfold zHQ at c5
 have hnum:v.kind≠4->v.num=dc0:=fun h4=>by
  rw[if_neg h4]at c2
  simp only[decide_eq_true_eq]at c2
  exact Dc.ext' c2.1 c2.2.1 c2.2.2
 have htxt:v.kind≠5->v.text=[]:=fun h4=>by rw[if_neg h4]at c3;simpa using c3
 have hkey:v.kind≠7->v.keys=[]:=fun h4=>by rw[if_neg h4]at c4;simpa using c4
 have hkid:v.kind≠6->v.kind≠7->v.kids=[]:=fun h6 h7=>by simpa[h6,h7]using c5
 have hk:v.kind=1\/v.kind=2\/v.kind=3\/v.kind=4\/v.kind=5\/v.kind=6\/v.kind=7:=by omega
 rcases hk with k|k|k|k|k|k|k
 ·exact .inl ⟨k,hnum (by omega),htxt (by omega),hkey (by omega),hkid (by omega) (by omega)⟩
 ·exact .inr (.inl ⟨k,hnum (by omega),htxt (by omega),hkey (by omega),hkid (by omega) (by omega)⟩)
 ·exact .inr (.inr (.inl ⟨k,hnum (by omega),htxt (by omega),hkey (by omega),hkid (by omega) (by omega)⟩))
 ·rw[if_pos k]at c2
  exact .inr (.inr (.inr (.inl ⟨k,c2,htxt (by omega),hkey (by omega),hkid (by omega) (by omega)⟩)))
 ·rw[if_pos k]at c3
  exact .inr (.inr (.inr (.inr (.inl ⟨k,hnum (by omega),c3,hkey (by omega),hkid (by omega) (by omega)⟩))))
 ·exact .inr (.inr (.inr (.inr (.inr (.inl ⟨k,hnum (by omega),htxt (by omega),hkey (by omega)⟩)))))
 rw[if_pos k]at c4
 simp only[Bool.and_eq_true,decide_eq_true_eq]at c4
 exact .inr (.inr (.inr (.inr (.inr (.inr ⟨k,hnum (by omega),htxt (by omega),by omega,c4.2⟩)))))
theorem zPN (key:List UInt8) (keys:List (List UInt8)) (p:List UInt8) (ps:List (List UInt8)):qHN (key::keys) (p::ps)=(kT key++[58]++p)::qHN keys ps:=rfl
theorem zXG {v:Val} (k:v.kind=1):zH v=qOO:=by rw[jT,if_pos k]
theorem zXF {v:Val} (k:v.kind=2):zH v=qIB:=by rw[jT,if_neg (by omega),if_pos k]
theorem zXE {v:Val} (k:v.kind=3):zH v=qON:=by rw[jT,if_neg (by omega),if_neg (by omega),if_pos k]
theorem zXD {v:Val} (k:v.kind=4):zH v=xD v.num:=by rw[jT,if_neg (by omega),if_neg (by omega),if_neg (by omega),if_pos k]
theorem zXC {v:Val} (k:v.kind=5):zH v=kT v.text:=by rw[jT,if_neg (by omega),if_neg (by omega),if_neg (by omega),if_neg (by omega),if_pos k]
theorem zWZ {v:Val} (k:v.kind=8):zH v=33::qHU v.code:=by rw[jT,if_neg (by omega),if_neg (by omega),if_neg (by omega),if_neg (by omega),if_neg (by omega),if_pos k]
theorem zXA {v:Val} (k:v.kind=7):zH v=[123]++Lib.join (qHN v.keys (v.kids.map zH)) [44]++[125]:=by rw[jT,if_neg (by omega),if_neg (by omega),if_neg (by omega),if_neg (by omega),if_neg (by omega),if_neg (by omega),if_pos k]
theorem zXB {v:Val} (k:v.kind=6):zH v=[91]++Lib.join (v.kids.map zH) [44]++[93]:=by rw[jT,if_neg (by omega),if_neg (by omega),if_neg (by omega),if_neg (by omega),if_neg (by omega),if_neg (by omega),if_neg (by omega)]
theorem qCH {s:List UInt8} (h:qAR s=true):Lib.validD s=true/\s.length<=4096:=by
 unfold qAR at h;simp only[Bool.and_eq_true,decide_eq_true_eq]at h;exact⟨h.2,by omega⟩
theorem qVT (l:List Val) (h:∀ k∈l,(zH k).length+25000<=50000 * Val.sz k):((l.map zH).map List.length).sum+25000 * l.length<=50000 * Val.szL l:=by
 induction l with
 | nil=>simp
 | cons v l ih =>
  have h1:=h v (by simp)
  have h2:=ih fun k hk=>h k (by simp[hk])
  simp only[List.map_cons,List.sum_cons,List.length_cons,Val.szL];omega
theorem zHZ:∀ (l:List Val) (keys:List (List UInt8)),(∀ k∈keys,qAR k=true)->(∀ k∈l,(zH k).length+25000<=50000 * Val.sz k)->((qHN keys (l.map zH)).map List.length).sum+(qHN keys (l.map zH)).length<=50000 * Val.szL l
 | [],keys,_,_=>by cases keys <;> simp[qHN]
 | v::l,[],_,_=>by simp[qHN]
 | v::l,key::keys,hk,h=>by
  have h1:=h v (by simp)
  have h2:=zHZ l keys (fun k hk'=>hk k (by simp[hk'])) fun k hk=>h k (by simp[hk])
  have h3:=qZX key
  have h4:=(qCH (hk key (by simp))).2
  rw[List.map_cons,zPN]
  simp only[List.map_cons,List.sum_cons,List.length_cons,Val.szL,List.length_append,List.length_nil];omega
theorem zKA (v:Val):zX v=true->(zH v).length+25000<=50000 * Val.sz v:=by
 induction v using Val.induct with
 | h v ih =>
  intro hm
  rw[qZB]
  have ihk:∀ k∈v.kids,(zH k).length+25000<=50000 * Val.sz k:=fun k hk=>ih k hk (jJ hm hk)
  by_cases h8:v.kind=8
  ·rw[zWZ h8]
   have:(qHU v.code).length<=2:=by unfold qHU;split <;> simp
   simp;omega
  obtain⟨_,_,hc⟩:=qTW hm h8
  rcases hc with⟨k,_⟩|⟨k,_⟩|⟨k,_⟩|⟨k,h1,_⟩|⟨k,_,h2,_⟩|⟨k,h1,h2,h3⟩|⟨k,h1,h2,h3,h4⟩
  ·rw[zXG k];simp[qOO];omega
  ·rw[zXF k];simp[qIB];omega
  ·rw[zXE k];simp[qON];omega
  ·rw[zXD k];have:=zKC h1;omega
  ·rw[zXC k];have:=qZX v.text;have:=(qCH h2).2;omega
  ·rw[zXB k]
   have:=qVT v.kids ihk
   have:=qWZ (v.kids.map zH)
   simp only[List.length_append,List.length_cons,List.length_nil,List.length_map]at this ⊢
   omega
  rw[zXA k]
  unfold qNG at h4
  simp only[Bool.and_eq_true,List.all_eq_true]at h4
  have:=zHZ v.kids v.keys h4.1 ihk
  have:=qWZ (qHN v.keys (v.kids.map zH))
  simp only[List.length_append,List.length_cons,List.length_nil]at this ⊢
  omega
mutual
def qEL (c:Int):Val->Prop
 | .mk k _ _ _ _ vs e=>(k=8->e=c)/\qGF c vs
def qGF (c:Int):List Val->Prop
 | []=>True
 | v::vs=>qEL c v/\qGF c vs
end
theorem qKM (c:Int):∀ l,qGF c l↔∀ v∈l,qEL c v
 | []=>by simp[qGF]
 | v::vs=>by simp[qGF,qKM c vs]
theorem qNO (c:Int) (v:Val):qEL c v↔(v.kind=8->v.code=c)/\∀ k∈v.kids,qEL c k:=by cases v;simp only[qEL,qKM,Val.kind,Val.kids,Val.code]
theorem zNP {c:Int} (v:Val):zX v=true->Val.sz v<=10000->qEL c v->(qDT v=true->qYB G c)->Prn G v:=by
 induction v using Val.induct with
 | h v ih =>
  intro hm hs hc hI
  have hl:=zKA v hm
  have hc':=(qNO c v).1 hc
  have hk1:∀ k∈v.kids,Prn G k:=fun k hk=>ih k hk (jJ hm hk) (by have:=Val.sz_kid hk;omega) (hc'.2 k hk) fun hp=>hI (by
   rw[qJO];simp only[Bool.or_eq_true,List.any_eq_true];exact .inr ⟨k,hk,hp⟩)
  by_cases h8:v.kind=8
  ·have hcode:=hc'.1 h8
   refine .mk (fun _=>by rw[hcode];exact hI (by rw[qJO];simp[h8])) (fun h=>by omega) (fun h=>by omega) (fun h=>by omega) ?_ (by omega) hk1
   exact qQL (by omega)
  obtain⟨_,hkl,hcs⟩:=qTW hm h8
  refine .mk (fun h=>absurd h h8) (fun h=>vK hm h) (fun h => ?_) (fun h => ?_) (by omega) (by omega) hk1
  ·rcases hcs with⟨k,_⟩|⟨k,_⟩|⟨k,_⟩|⟨k,h1,_⟩|⟨k,_,h2,_⟩|⟨k,h1,h2,h3⟩|⟨k,h1,h2,h3,h4⟩
   ·omega
   ·omega
   ·omega
   ·omega
   ·exact⟨(qCH h2).1,by have:=(qCH h2).2;omega⟩
   ·omega
   omega
  rcases hcs with⟨k,_⟩|⟨k,_⟩|⟨k,_⟩|⟨k,h1,_⟩|⟨k,_,h2,_⟩|⟨k,h1,h2,h3⟩|⟨k,h1,h2,h3,h4⟩
  ·omega
  ·omega
  ·omega
  ·omega
  ·omega
  ·omega
  unfold qNG at h4
  simp only[Bool.and_eq_true,List.all_eq_true]at h4
  exact⟨h3,fun key hk=>⟨(qCH (h4.1 key hk)).1,by have:=(qCH (h4.1 key hk)).2;omega⟩⟩
theorem zFS (c:Int) (v:Val):qDT v=false->qEL c v:=by
 induction v using Val.induct with
 | h v ih =>
  intro hp
  rw[qNO]
  exact⟨fun h=>absurd h (zNR hp),fun k hk=>ih k hk (zTE hp hk)⟩
theorem qZZ {v:Val} (hm:zX v=true) (hp:qDT v=false) (hs:Val.sz v<=10000):AFn Tryz.prog G 81 [v.enc] (.str (zH v)) :=
 zKB v (zNP (c:=0) v hm hs (zFS 0 v hp) fun h=>by rw[hp]at h;cases h)
theorem zUD:∀ (x y:List UInt8),x.length=y.length->x.all qO=true->y.all qO=true->(Op.bytesLess x y=true↔zW x<zW y)
 | [],[],_,_,_=>by simp[Op.bytesLess]
 | [],_::_,h,_,_=>by simp at h
 | _::_,[],h,_,_=>by simp at h
 | a::x,b::y,h,hx,hy=>by
  simp only[List.all_cons,Bool.and_eq_true]at hx hy
  have hl:x.length=y.length:=by simpa using h
  have ih:=zUD x y hl hx.2 hy.2
  have da:=(kL a).1 hx.1
  have db:=(kL b).1 hy.1
  have lx:=xZ hx.2
  have ly:=xZ hy.2
  rw[jS,jS,hl]
  rw[hl]at lx
  simp only[Op.bytesLess,Bool.or_eq_true,Bool.and_eq_true,decide_eq_true_eq,beq_iff_eq,UInt8.lt_iff_toNat_lt,ih]
  by_cases h1:a.toNat<b.toNat
  ·have:=Nat.mul_le_mul_right (10 ^ y.length) (show a.toNat-48+1<=b.toNat-48 by omega)
   rw[Nat.add_mul,Nat.one_mul]at this
   exact⟨fun _=>by omega,fun _ => .inl h1⟩
  by_cases h2:a=b
  ·subst h2
   exact ⟨fun h => by rcases h with h | h; · omega
                      ·omega,fun h => .inr ⟨rfl,by omega⟩⟩
  have h3:b.toNat<a.toNat:=by have:a.toNat≠b.toNat:=fun e=>h2 (UInt8.toNat_inj.1 e);omega
  have:=Nat.mul_le_mul_right (10 ^ y.length) (show b.toNat-48+1<=a.toNat-48 by omega)
  rw[Nat.add_mul,Nat.one_mul]at this
  exact ⟨fun h => by rcases h with h | h; · omega
                     ·exact(h2 h.1).elim,fun h=>by omega⟩
theorem zPS:∀ (x y:List UInt8),x.length=y.length->x.all qO=true->y.all qO=true->zW x=zW y->x=y
 | [],[],_,_,_,_=>rfl
 | [],_::_,h,_,_,_=>by simp at h
 | _::_,[],h,_,_,_=>by simp at h
 | a::x,b::y,h,hx,hy,he=>by
  simp only[List.all_cons,Bool.and_eq_true]at hx hy
  have hl:x.length=y.length:=by simpa using h
  have da:=(kL a).1 hx.1
  have db:=(kL b).1 hy.1
  have lx:=xZ hx.2
  have ly:=xZ hy.2
  rw[jS,jS,hl]at he
  rw[hl]at lx
  have hab:a.toNat=b.toNat:=by
   by_cases h1:a.toNat<b.toNat
   ·have:=Nat.mul_le_mul_right (10 ^ y.length) (show a.toNat-48+1<=b.toNat-48 by omega)
    rw[Nat.add_mul,Nat.one_mul]at this;omega
   by_cases h3:b.toNat<a.toNat
   ·have:=Nat.mul_le_mul_right (10 ^ y.length) (show b.toNat-48+1<=a.toNat-48 by omega)
    rw[Nat.add_mul,Nat.one_mul]at this;omega
   omega
  rw[hab]at he
  rw[UInt8.toNat_inj.1 hab,zPS x y hl hx.2 hy.2 (by omega)]
theorem zOO {x y:List UInt8} (hx:x.all qO=true) (hy:y.all qO=true) (lx:0<x.length) (ly:0<y.length) (h1:qV x 0≠48) (h2:qV y 0≠48) (h:zW x=zW y):x.length=y.length:=by
 have a1:=qAT hx lx h1
 have a2:=qAT hy ly h2
 have b1:=xZ hx
 have b2:=xZ hy
 by_cases h3:x.length<y.length
 ·have:=Nat.pow_le_pow_right (show 0<10 by omega) (show x.length<=y.length-1 by omega);omega
 by_cases h4:y.length<x.length
 ·have:=Nat.pow_le_pow_right (show 0<10 by omega) (show y.length<=x.length-1 by omega);omega
 omega
theorem qTV {d:Dc} (h:zO d=true):(d.digits=[48]/\d.scale=0/\d.neg=false)\/(qV d.digits 0≠48/\(d.scale=0\/qV d.digits (d.digits.length-1)≠48)):=by
 unfold zO at h
 simp only[Bool.and_eq_true]at h
 obtain⟨_,h3⟩:=h
 split at h3
 ·rename_i h4;simp at h3;exact .inl ⟨h4,h3.1,h3.2⟩
 simp at h3;exact .inr h3
def qEJ:Nat->Nat->List UInt8
 | 0,_=>[]
 | w+1,v=>UInt8.ofNat (48+v / 10 ^ w % 10)::qEJ w v
theorem qKH:∀ w v,(qEJ w v).length=w
 | 0,_=>rfl
 | w+1,v=>by simp[qEJ,qKH w v]
theorem qEI {n:Nat} (h:n<10):(UInt8.ofNat (48+n)).toNat=48+n:=by rw[UInt8.toNat_ofNat'];omega
theorem zBS:∀ w v,(qEJ w v).all qO=true
 | 0,_=>rfl
 | w+1,v=>by
  have h:v / 10 ^ w % 10<10:=Nat.mod_lt _ (by decide)
  simp only[qEJ,List.all_cons,zBS w v,Bool.and_true]
  rw[kL,qEI h];omega
theorem zBR:∀ w v,zW (qEJ w v)=v % 10 ^ w
 | 0,v=>by simp[qEJ,zW,Nat.mod_one]
 | w+1,v=>by
  have h:v / 10 ^ w % 10<10:=Nat.mod_lt _ (by decide)
  simp only[qEJ]
  rw[jS,zBR w v,qKH,qEI h,Nat.mod_pow_succ,Nat.mul_comm (10 ^ w)]
  rw[show 48+v / 10 ^ w % 10-48=v / 10 ^ w % 10 by omega];omega
def kQ (neg:Bool) (v scale:Nat):Dc × Int:=wU neg (Lib.decDigits v) scale
theorem qKJ (u:Nat):zW (Lib.decDigits u)=u:=by
 induction u using Nat.strongRecOn with
 | _ u ih =>
  rw[Lib.decDigits]
  split
  ·rename_i h
   simp only[zW,List.foldl_cons,List.foldl_nil,qEI h];omega
  rename_i h
  rw[qLA,ih (u / 10) (by omega),qEI (Nat.mod_lt _ (by decide))];omega
theorem qGC (u:Nat):(Lib.decDigits u).all qO=true:=by
 induction u using Nat.strongRecOn with
 | _ u ih =>
  rw[Lib.decDigits]
  split
  ·rename_i h
   simp only[List.all_cons,List.all_nil,Bool.and_true]
   rw[kL,qEI h];omega
  rename_i h
  rw[List.all_append,ih (u / 10) (by omega)]
  simp only[List.all_cons,List.all_nil,Bool.and_true,Bool.true_and]
  rw[kL,qEI (Nat.mod_lt _ (by decide))];omega
theorem qCL:∀ s:List UInt8,zW (qX s)=zW s
 | []=>rfl
 | b::s=>by
  unfold qX
  rw[List.dropWhile_cons]
  by_cases h:b=48
  ·subst h
   simp only[beq_self_eq_true,if_true]
   have:=qCL s
   unfold qX at this
   rw[this,jS];simp
  rw[if_neg (by simpa using h)]
theorem qDO (s:List UInt8) (h:0<(qX s).length):qV (qX s) 0≠48:=by
 unfold qX at h ⊢
 have:=List.head?_dropWhile_not (fun b:UInt8=>b == 48) s
 cases hs:s.dropWhile (fun b=>b == 48)with
 | nil=>rw[hs]at h;simp at h
 | cons b r =>
  rw[hs]at this
  simp only[List.head?_cons]at this
  have hb:¬ b=48:=by simpa using this
  unfold qV
  simp only[List.getD_cons_zero]
  intro e
  exact hb (UInt8.toNat_inj.1 (by show b.toNat=48;omega))
theorem qAK {s:List UInt8} (h:s.all qO=true):(qX s).all qO=true:=by
 rw[List.all_eq_true]at h ⊢
 exact fun b hb=>h b ((List.dropWhile_sublist _).subset hb)
theorem qZG {x y:List UInt8} (hx:x.all qO=true) (hy:y.all qO=true) (h:zW x=zW y):qX x=qX y:=by
 rw[<-qCL x,<-qCL y]at h
 have z:∀ s:List UInt8,s.all qO=true->0<(qX s).length->zW (qX s)≠0:=fun s hs hl e=>by
  have:=qAT (qAK hs) hl (qDO s hl)
  have:=Nat.pow_pos (n:=(qX s).length-1) (show 0<10 by omega)
  omega
 by_cases h1:0<(qX x).length
 ·by_cases h2:0<(qX y).length
  ·exact zPS _ _ (zOO (qAK hx) (qAK hy) h1 h2 (qDO x h1) (qDO y h2) h) (qAK hx) (qAK hy) h
  have e:qX y=[]:=List.length_eq_zero_iff.1 (by omega)
  rw[e]at h
  exact absurd h (z x hx h1)
 have e:qX x=[]:=List.length_eq_zero_iff.1 (by omega)
 by_cases h2:0<(qX y).length
 ·rw[e]at h
  exact absurd h.symm (z y hy h2)
 rw[e,List.length_eq_zero_iff.1 (show(qX y).length=0 by omega)]
theorem qJU (neg:Bool) {s:List UInt8} (h:s.all qO=true) (sc:Nat):wU neg s sc=kQ neg (zW s) sc:=by
 unfold kQ wU
 rw[qZG h (qGC (zW s)) (qKJ _).symm]
def xQ (l m:List Nat):Nat->List Nat × Nat
 | 0=>([],0)
 | i+1=>((xQ l m i).1++[(l.getD i 0+m.getD i 0+(xQ l m i).2) % qT],(l.getD i 0+m.getD i 0+(xQ l m i).2) / qT)
def qXY (l m:List Nat):List Nat:=yI ((xQ l m (max l.length m.length)).1++[(xQ l m (max l.length m.length)).2])
theorem qBX {l:List Nat} (h:okL l) (i:Nat):l.getD i 0<qT:=by
 rw[List.getD_eq_getElem?_getD]
 cases hi:l[i]? with
 | none=>simp[qT]
 | some x=>exact h x (List.mem_of_getElem? hi)
theorem qJI {l:List Nat} (i:Nat):qY (l.take (i+1))=qY (l.take i)+qT ^ i * l.getD i 0:=by
 by_cases h:i<l.length
 ·rw[qIH h,jQ,List.length_take,Nat.min_eq_left (by omega)]
 rw[List.take_of_length_le (by omega),List.take_of_length_le (by omega)]
 simp[List.getD_eq_getElem?_getD,List.getElem?_eq_none (show l.length<=i by omega)]
theorem qGS (l m:List Nat):∀ i,(xQ l m i).1.length=i
 | 0=>rfl
 | i+1=>by simp[xQ,qGS l m i]
theorem qMK {l m:List Nat} (hl:okL l) (hm:okL m):∀ i,okL (xQ l m i).1/\(xQ l m i).2<=1/\qY (xQ l m i).1+qT ^ i * (xQ l m i).2=qY (l.take i)+qY (m.take i)
 | 0=>⟨(by intro x hx;cases hx),by simp[xQ],by simp[xQ,qY]⟩
 | i+1=>by
  obtain⟨h1,h2,h3⟩:=qMK hl hm i
  have hlen:=qGS l m i
  have a1:=qBX hl i
  have a2:=qBX hm i
  rw[qJI,qJI]
  simp only[xQ]
  generalize xQ l m i=A at *
  generalize l.getD i 0=x at *
  generalize m.getD i 0=y at *
  have hd:=Nat.div_add_mod (x+y+A.2) qT
  have hb:0<qT:=by decide
  refine⟨?_, ?_, ?_⟩
  ·intro z hz
   rcases List.mem_append.1 hz with h|h
   ·exact h1 z h
   rw[List.mem_singleton.1 h];exact Nat.mod_lt _ hb
  ·have:(x+y+A.2) / qT<2:=(Nat.div_lt_iff_lt_mul hb).2 (by omega)
   omega
  rw[jQ,hlen,Nat.pow_succ]
  have e:qT ^ i * ((x+y+A.2) % qT)+qT ^ i * qT * ((x+y+A.2) / qT)=qT ^ i * (x+y+A.2):=by
   rw[Nat.mul_assoc,<-Nat.mul_add,Nat.add_comm,hd]
  have e2:qT ^ i * (x+y+A.2)=qT ^ i * x+qT ^ i * y+qT ^ i * A.2:=by rw[Nat.mul_add,Nat.mul_add]
  omega
theorem zMD {l m:List Nat} (hl:okL l) (hm:okL m):okL (qXY l m)/\qY (qXY l m)=qY l+qY m:=by
 obtain⟨h1,h2,h3⟩:=qMK hl hm (max l.length m.length)
 have hlen:=qGS l m (max l.length m.length)
 unfold qXY
 refine⟨qLD ?_, ?_⟩
 ·intro z hz
  rcases List.mem_append.1 hz with h|h
  ·exact h1 z h
  rw[List.mem_singleton.1 h];unfold qT;omega
 rw[qIE,jQ,hlen,h3,List.take_of_length_le (by omega),List.take_of_length_le (by omega)]
theorem qOZ (l:List Nat):(yI l).length<=l.length:=by
 unfold yI;rw[List.length_reverse];have:=(List.dropWhile_sublist (fun x:Nat=>x == 0) (l:=l.reverse)).length_le;simpa using this
theorem zRB (l m:List Nat):(qXY l m).length<=max l.length m.length+1:=by
 unfold qXY
 have:=qOZ ((xQ l m (max l.length m.length)).1++[(xQ l m (max l.length m.length)).2])
 rw[List.length_append,qGS]at this
 simpa using this
def vB (l m:List Nat):Nat->List Nat × Nat
 | 0=>([],0)
 | i+1=>((vB l m i).1++[(l.getD i 0+qT-m.getD i 0-(vB l m i).2) % qT],1-(l.getD i 0+qT-m.getD i 0-(vB l m i).2) / qT)
def qVV (l m:List Nat):List Nat:=yI (vB l m l.length).1
theorem qFJ (l m:List Nat):∀ i,(vB l m i).1.length=i
 | 0=>rfl
 | i+1=>by simp[vB,qFJ l m i]
theorem qLF {l m:List Nat} (hl:okL l) (hm:okL m):∀ i,okL (vB l m i).1/\(vB l m i).2<=1/\qY (vB l m i).1+qY (m.take i)=qY (l.take i)+qT ^ i * (vB l m i).2
 | 0=>⟨(by intro x hx;cases hx),by simp[vB],by simp[vB,qY]⟩
 | i+1=>by
  obtain⟨h1,h2,h3⟩:=qLF hl hm i
  have hlen:=qFJ l m i
  have a1:=qBX hl i
  have a2:=qBX hm i
  rw[qJI,qJI]
  simp only[vB]
  generalize vB l m i=A at *
  generalize l.getD i 0=x at *
  generalize m.getD i 0=y at *
  generalize hz:x+qT-y-A.2=z
  have hd:=Nat.div_add_mod z qT
  have hb:0<qT:=by decide
  have hq:z / qT<2:=(Nat.div_lt_iff_lt_mul hb).2 (by omega)
  refine⟨?_,Nat.sub_le _ _, ?_⟩
  ·intro w hw
   rcases List.mem_append.1 hw with h|h
   ·exact h1 w h
   rw[List.mem_singleton.1 h];exact Nat.mod_lt _ hb
  rw[jQ,hlen,Nat.pow_succ]
  have e:qT ^ i * (z % qT)+qT ^ i * qT * (z / qT)=qT ^ i * z:=by
   rw[Nat.mul_assoc,<-Nat.mul_add,Nat.add_comm,hd]
  have e2:qT ^ i * z+qT ^ i * y+qT ^ i * A.2=qT ^ i * x+qT ^ i * qT:=by
   rw[<-Nat.mul_add,<-Nat.mul_add,<-Nat.mul_add];congr 1;omega
  have e3:qT ^ i * qT * (1-z / qT)+qT ^ i * qT * (z / qT)=qT ^ i * qT:=by
   rw[<-Nat.mul_add]
   generalize z / qT=q at *
   rw[show 1-q+q=1 by omega,Nat.mul_one]
  omega
theorem qTB {l m:List Nat} (hl:okL l) (hm:okL m) (hlen:m.length<=l.length) (h:qY m<=qY l):okL (qVV l m)/\qY (qVV l m)=qY l-qY m:=by
 obtain⟨h1,h2,h3⟩:=qLF hl hm l.length
 have hlt:=qFS h1
 rw[qFJ]at hlt
 rw[List.take_of_length_le (Nat.le_refl _),List.take_of_length_le hlen]at h3
 have h0:(vB l m l.length).2=0:=by
  rcases Nat.eq_zero_or_pos (vB l m l.length).2 with h0|h0
  ·exact h0
  have:(vB l m l.length).2=1:=by omega
  rw[this,Nat.mul_one]at h3;omega
 rw[h0,Nat.mul_zero]at h3
 unfold qVV
 exact⟨qLD h1,by rw[qIE];omega⟩
theorem qZE (l m:List Nat):(qVV l m).length<=l.length:=by
 unfold qVV
 have:=qOZ (vB l m l.length).1
 rwa [qFJ]at this
theorem qWW (l:List Nat) (i:Nat):AFn Tryz.prog G 207 [.sl 1 (l.map wP),.int .i64 i] (.int .u64 (l.getD i 0:Nat)):=by
 refine AFn.introU tok Tryz.func207 (by kernel_rfl) rfl rfl ?_
 simp only[Tryz.f207,qG,List.map_cons,List.map_nil]
 refine rgn [] [[0,1]] ?_
 refine op3 ?_
 refine qA (AW.seq (rgn [] [[],[],[],[0,1,8]] ?_))
 iterate 4 refine op3 ?_
 refine qA (cnd ?_ ?_)
 ·intro h8
  try simp at h8
  obtain⟨x,hx⟩:∃ x,l[i]?=some x:=⟨l[i]'(by omega),List.getElem?_eq_getElem _⟩
  rw[show l.getD i 0=x by rw[List.getD_eq_getElem?_getD,hx];rfl]
  refine rgn [.int .u64 (x:Nat)] [[],[],[11],[],[4]] ?_
  iterate 5 refine op3 ?_ (hv:=by first|exact True.intro|((simp[hx];try omega);done)|omega|simp)
  exact qA (AW.ret qI)
 intro h8
 try simp at h8
 rw[show l.getD i 0=0 by rw[List.getD_eq_getElem?_getD,List.getElem?_eq_none (by omega)];rfl]
 refine AW.skip (rgn [] [[]] ?_)
 refine op3 ?_
 exact qA (AW.ret qI)
theorem zTF (l m:List Nat) (hl:okL l) (hm:okL m) (h1:l.length<=1000000) (h2:m.length<=1000000):AFn Tryz.prog G 170 [.sl 1 (l.map wP),.sl 1 (m.map wP)] (.sl 1 ((qXY l m).map wP)):=by
 refine AFn.introU tok Tryz.func170 (by kernel_rfl) rfl rfl ?_
 simp only[Tryz.f170,qG,List.map_cons,List.map_nil]
 refine rgn [] [[0,1]] ?_
 refine op3 ?_
 refine qA (rgn [] [[]] ?_)
 refine op3 ?_
 refine qA (rgn [] [[]] ?_)
 refine op3 ?_
 refine qA (AW.seq (rgn [] [[],[],[],[],[0,1,5,6,13],[]] ?_))
 iterate 6 refine op3 ?_
 refine qA (AW.block ?_)
 refine AW.beginE 5 90 24 1 (by simp) (by simp) (by conv=>lhs;simp) ?_
 refine AW.loop (α:=Nat) (fun k=>k<=max l.length m.length) (fun k=>⟨zA 39 [(0,.p (.sl 1 (l.map wP))),(1,.p (.sl 1 (m.map wP))),(5,.ms 90),(6,.p (.int .u64 ((xQ l m k).2:Nat))),(13,.p (.int .i64 (max l.length m.length:Nat))),(14,.p (.int .i64 k))],[],[(90,.row 24 1 ((xQ l m k).1.map wP))],0⟩) (fun k=>max l.length m.length-k) (0) (by omega) ⟨qE (by simp[xQ];split <;> omega),rfl,by simp[xQ],by simp[xQ]⟩ ?_
 rintro k hk
 obtain⟨s1,s2,s3⟩:=qMK hl hm k
 have sl:=qGS l m k
 have g1:=qBX hl k
 have g2:=qBX hm k
 unfold qT at g1 g2
 refine rgn [] [[]] ?_
 refine op3 ?_
 refine qA (AW.seq (cnd ?_ ?_))
 ·intro h15
  try simp at h15
  have hk':k<max l.length m.length:=by omega
  have lv1:=qWW (G:=G) l k
  have lv2:=qWW (G:=G) m k
  have hst:xQ l m (k+1)=((xQ l m k).1++[(l.getD k 0+m.getD k 0+(xQ l m k).2) % qT],(l.getD k 0+m.getD k 0+(xQ l m k).2) / qT):=rfl
  generalize xQ l m k=A at *
  generalize l.getD k 0=x at *
  generalize m.getD k 0=y at *
  have w1:IntKind.u64.wrap ((x:Int)+y)=(x:Int)+y:=kI (by omega) (by omega)
  obtain⟨z,hz⟩:∃ z,z=x+y+A.2:=⟨_,rfl⟩
  rw[<-hz]at hst
  have w2:IntKind.u64.wrap ((x:Int)+y+A.2)=(z:Int):=by rw[kI (by omega) (by omega)];omega
  have dm:(z:Int).tmod 1000000000=((z % qT:Nat):Int):=(Int.ofNat_tmod z 1000000000).symm
  have dq:IntKind.u64.wrap ((z:Int) / 1000000000)=((z / qT:Nat):Int):=by
   unfold qT
   rw[kI (by omega) (by omega)];omega
  generalize z % qT=r at *
  generalize z / qT=q at *
  refine AW.skip (AW.seq (AW.block (rgn [] [[],[0,1,5,6,7,13,14]] ?_)))
  iterate 2 refine op3 ?_
  refine qA (rgn [.nilp,.int .u64 (x:Nat),.nilp,.int .u64 (y:Nat)] [[],[],[],[],[],[0,1,5,6,13,14,19,22],[],[],[0,1,5,13,14,25],[0,1,5,8,13,14]] ?_)
  iterate 10 refine oq1 tok (ai lv1 lv2) ?_ (h:=by intro C;conv=>lhs;simp[w1,w2])
  refine qA (rgz [.int .u64 (r:Nat)] [[],[],[],[],[0,1,8,13,14,30],[],[],[],[0,1,5,6,13,14]] ?_)
  iterate 9 refine op3 ?_ (h:=by intro C;conv=>lhs;simp[dm,dq]) (hv:=by first|exact True.intro|((simp[dm]);done)|omega|simp)
  refine qA (rgz [] [[],[0,1,5,6,13,14]] ?_)
  iterate 2 refine op3 ?_
  refine qA ?_
  exact⟨k+1,by omega,by omega,qE (by simp[hst]),rfl,by simp[hst],by simp[hst]⟩
 intro h15
 try simp at h15
 obtain rfl:k=max l.length m.length:=by omega
 have htr:=qVS (G:=G) ((xQ l m (max l.length m.length)).1++[(xQ l m (max l.length m.length)).2])
 rw[show yI ((xQ l m (max l.length m.length)).1++[(xQ l m (max l.length m.length)).2])=qXY l m from rfl]at htr
 simp only[List.map_append,List.map_cons,List.map_nil,wP]at htr
 refine AW.exit ?_
 simp
 refine rgn [.int .u64 ((xQ l m (max l.length m.length)).2:Nat),.nilp,.sl 1 ((qXY l m).map wP)] [[],[],[],[37],[],[4]] ?_
 iterate 6 refine oq1 tok htr ?_ (h:=by intro C;conv=>lhs;simp[List.map_append])
 exact qA (AW.ret qI)
theorem qTU (l m:List Nat) (hl:okL l) (hm:okL m) (h1:l.length<=1000000) (h2:m.length<=1000000):AFn Tryz.prog G 172 [.sl 1 (l.map wP),.sl 1 (m.map wP)] (.sl 1 ((qVV l m).map wP)):=by
 refine AFn.introU tok Tryz.func172 (by kernel_rfl) rfl rfl ?_
 simp only[Tryz.f172,qG,List.map_cons,List.map_nil]
 refine rgn [] [[0,1]] ?_
 refine op3 ?_
 refine qA (rgn [] [[]] ?_)
 refine op3 ?_
 refine qA (rgn [] [[]] ?_)
 refine op3 ?_
 refine qA (AW.seq (rgn [] [[],[],[0,1,5,6,10,11]] ?_))
 iterate 3 refine op3 ?_
 refine qA (AW.block ?_)
 refine AW.beginE 5 90 24 1 (by simp) (by simp) (by conv=>lhs;simp) ?_
 refine AW.loop (α:=Nat) (fun k=>k<=l.length) (fun k=>⟨zA 36 [(0,.p (.sl 1 (l.map wP))),(1,.p (.sl 1 (m.map wP))),(5,.ms 90),(6,.p (.int .u64 ((vB l m k).2:Nat))),(10,.p (.int .i64 l.length)),(11,.p (.int .i64 k))],[],[(90,.row 24 1 ((vB l m k).1.map wP))],0⟩) (fun k=>l.length-k) (0) (by omega) ⟨qE (by simp[vB]),rfl,by simp[vB],by simp[vB]⟩ ?_
 rintro k hk
 obtain⟨s1,s2,s3⟩:=qLF hl hm k
 have sl:=qFJ l m k
 have g1:=qBX hl k
 have g2:=qBX hm k
 unfold qT at g1 g2
 refine rgn [] [[]] ?_
 refine op3 ?_
 refine qA (AW.seq (cnd ?_ ?_))
 ·intro h12
  try simp at h12
  have lv2:=qWW (G:=G) m k
  obtain⟨x0,hgl⟩:∃ x,l[k]?=some x:=⟨l[k]'(by omega),List.getElem?_eq_getElem _⟩
  have hx0:l.getD k 0=x0:=by rw[List.getD_eq_getElem?_getD,hgl];rfl
  have hst:vB l m (k+1)=((vB l m k).1++[(l.getD k 0+qT-m.getD k 0-(vB l m k).2) % qT],1-(l.getD k 0+qT-m.getD k 0-(vB l m k).2) / qT):=rfl
  generalize vB l m k=A at *
  rw[hx0]at hst g1
  generalize m.getD k 0=y at *
  generalize x0=x at *
  obtain⟨z,hz⟩:∃ z,z=x+qT-y-A.2:=⟨_,rfl⟩
  rw[<-hz]at hst
  have hzd:z / qT<=1:=by
   have:z / qT<2:=(Nat.div_lt_iff_lt_mul (by decide)).2 (by rw[hz];unfold qT;omega)
   omega
  unfold qT at hz
  have w1:IntKind.u64.wrap ((x:Int)+1000000000)=(x:Int)+1000000000:=kI (by omega) (by omega)
  have w2:IntKind.u64.wrap ((x:Int)+1000000000-y)=(x:Int)+1000000000-y:=kI (by omega) (by omega)
  have w3:IntKind.u64.wrap ((x:Int)+1000000000-y-A.2)=(z:Int):=by rw[kI (by omega) (by omega)];omega
  have dm:(z:Int).tmod 1000000000=((z % qT:Nat):Int):=(Int.ofNat_tmod z 1000000000).symm
  have dq:IntKind.u64.wrap ((z:Int) / 1000000000)=((z / qT:Nat):Int):=by
   unfold qT
   rw[kI (by omega) (by omega)];omega
  generalize z % qT=r at *
  generalize z / qT=q at *
  have w4:IntKind.u64.wrap (1-(q:Int))=((1-q:Nat):Int):=by
   rw[kI (by omega) (by omega)];omega
  generalize 1-q=b at *
  refine AW.skip (AW.seq (AW.block (rgn [] [[],[0,1,5,6,7,10,11]] ?_)))
  iterate 2 refine op3 ?_
  refine qA ?_
  refine AW.seqDrawS tok mixed 11 [[0],[7],[14,15],[16],[17],[1],[7],[19,20],[18,21],[6],[22,23]] [.int .u64 (x:Nat),.nilp,.int .u64 (y:Nat)] [] (by kernel_rfl) ?_
  iterate 11 refine d1 ?_ (h:=by intro C;conv=>lhs;simp[w1,w2,w3]) (hv:=by first|exact True.intro|exact lv2|(simp[hgl];done)|(simp[hgl];omega);done|omega|simp)
  refine DGo.nil (by kernel_rfl) ⟨by kernel_rfl, ?_⟩
  refine qB.run [[0,1,5,8,10,11]] ?_
  refine op3 ?_ (h:=by intro C;conv=>lhs;simp[w1,w2,w3])
  refine qA (rgz [.int .u64 (r:Nat)] [[],[],[],[],[0,1,8,10,11,29],[],[],[],[0,1,5,10,11,32],[0,1,5,6,10,11]] ?_)
  iterate 10 refine op3 ?_ (h:=by intro C;conv=>lhs;simp[dm,dq,w4]) (hv:=by first|exact True.intro|((simp[dm]);done)|omega|simp)
  refine qA (rgz [] [[],[0,1,5,6,10,11]] ?_)
  iterate 2 refine op3 ?_
  refine qA ?_
  exact⟨k+1,by omega,by omega,qE (by simp[hst]),rfl,by simp[hst],by simp[hst]⟩
 intro h12
 try simp at h12
 obtain rfl:k=l.length:=by omega
 have htr:=qVS (G:=G) (vB l m l.length).1
 refine AW.exit ?_
 simp
 refine rgn [.nilp,.sl 1 ((qVV l m).map wP)] [[],[],[4]] ?_
 iterate 3 refine oq1 tok htr ?_
 exact qA (AW.ret qI)
def vN (n w V:Nat):List PD:=qP (List.replicate (n-w) 0++qEJ w V)
theorem zBT (n V:Nat):vN n 0 V=List.replicate n (.int .u8 0):=by simp[vN,qEJ,qP]
theorem zFL {n w V:Nat} (h:w<=n):(vN n w V).length=n:=by simp[vN,qKH];omega
theorem zFM {n w V:Nat} (h:w<n):(vN n w V)[n-1-w]?=some (.int .u8 0):=by
 unfold vN
 refine qBJ (b:=0) ?_
 rw[List.getElem?_append_left (by simp;omega),List.getElem?_replicate,if_pos (by omega)]
theorem zFK {n w V:Nat} (h:w<n):(vN n w V).set (n-1-w) (.int .u8 (48+V / 10 ^ w % 10:Nat))=vN n (w+1) V:=by
 unfold vN qP
 have hd:V / 10 ^ w % 10<10:=Nat.mod_lt _ (by decide)
 rw[show PD.int .u8 (48+V / 10 ^ w % 10:Nat)=(fun b:UInt8=>PD.int .u8 b.toNat) (UInt8.ofNat (48+V / 10 ^ w % 10)) by simp only[qEI hd],<-List.map_set]
 congr 1
 rw[show n-w=(n-(w+1))+1 by omega,List.replicate_succ',List.append_assoc,List.set_append_right _ _ (by simp;omega)]
 simp only[List.length_replicate]
 rw[show n-1-w-(n-(w+1))=0 by omega]
 rfl
theorem zFN (n V:Nat):vN n n V=qP (qEJ n V):=by simp[vN]
theorem zOM {l:List Nat} (h:okL l) (i:Nat):qY l / qT ^ i % qT=l.getD i 0:=by
 induction l generalizing i with
 | nil=>simp[qY]
 | cons a l ih =>
  have ha:a<qT:=h a (by simp)
  have ih:=ih (fun x hx=>h x (by simp[hx]))
  have hb:0<qT:=by decide
  cases i with
  | zero=>simp[qY,Nat.add_mul_mod_self_left,Nat.mod_eq_of_lt ha]
  | succ i =>
   simp only[qY,List.getD_cons_succ]
   rw[Nat.pow_succ,Nat.mul_comm (qT ^ i),<-Nat.div_div_eq_div_mul,Nat.add_mul_div_left _ _ hb,Nat.div_eq_of_lt ha,Nat.zero_add]
   exact ih i
theorem zPR {l:List Nat} (h:okL l) (i:Nat) {j:Nat} (hj:j<9):qY l / 10 ^ (9 * i+j) % 10=l.getD i 0 / 10 ^ j % 10:=by
 rw[<-zOM h i,Nat.pow_add,Nat.pow_mul,<-Nat.div_div_eq_div_mul,show(10:Nat) ^ 9=qT from rfl]
 generalize qY l / qT ^ i=M
 obtain⟨d,hd⟩:∃ d,d+j=8:=⟨8-j,by omega⟩
 rw[show qT=10 ^ j * (10 * 10 ^ d) by rw[<-Nat.pow_succ',<-Nat.pow_add,show j+(d+1)=9 by omega];rfl,Nat.mod_mul_right_div_self,Nat.mod_mul_right_mod]
def qRW (x j:Nat):Nat:=x / 10 ^ j
theorem zJO (x:Nat):qRW x 0=x:=by simp[qRW]
theorem zJP (x j:Nat):qRW x j / 10=qRW x (j+1):=by unfold qRW;rw[Nat.div_div_eq_div_mul,<-Nat.pow_succ]
theorem qMA (l:List Nat) (hl:okL l) (h1:l.length<=1000000):AFn Tryz.prog G 171 [.sl 1 (l.map wP)] (.str (qEJ (9 * l.length) (qY l))):=by
 refine AFn.introU tok Tryz.func171 (by kernel_rfl) rfl rfl ?_
 simp only[Tryz.f171,qG,List.map_cons,List.map_nil]
 have hz:vN (9 * l.length) 0 (qY l)=List.replicate (9 * l.length) (.int .u8 0):=zBT _ _
 have hall:=zFN (9 * l.length) (qY l)
 have hdl:=fun k j (h:j<9)=>zPR hl k (j:=j) h
 have hset:=fun w=>zFK (n:=9 * l.length) (w:=w) (V:=qY l)
 have hget:=fun w=>zFM (n:=9 * l.length) (w:=w) (V:=qY l)
 have hlen:=fun w=>zFL (n:=9 * l.length) (w:=w) (V:=qY l)
 have hmul:((l.length:Int) * 9).toNat=9 * l.length:=by omega
 generalize qY l=V at *
 obtain⟨N,hN⟩:∃ N,N=9 * l.length:=⟨_,rfl⟩
 rw[<-hN]at hz hall hset hget hlen hmul ⊢
 refine rgn [] [[0]] ?_
 refine op3 ?_
 refine qA (rgn [.int .u8 0] [[],[],[],[],[0,3]] ?_)
 iterate 5 refine op3 ?_
 refine qA (AW.seq (rgn [] [[],[],[3,11,12,13]] ?_))
 iterate 3 refine op3 ?_
 refine qA (AW.block ?_)
 refine AW.loop (α:=Nat) (fun k=>k<=l.length) (fun k=>⟨zA 41 [(3,.ms 10),(11,.p (.sl 1 (l.map wP))),(12,.p (.int .i64 l.length)),(13,.p (.int .i64 k))],[],[(10,.row 5 1 (vN N (9 * k) V))],0⟩) (fun k=>l.length-k) (0) (by omega) ⟨qE (by simp),rfl,by(simp[hz,hmul]),by simp[hz,hmul]⟩ ?_
 rintro k hk
 refine rgn [] [[]] ?_
 refine op3 ?_
 refine qA (AW.seq (cnd ?_ ?_))
 ·intro h14
  try simp at h14
  obtain⟨x,hx⟩:∃ x,l[k]?=some x:=⟨l[k]'(by omega),List.getElem?_eq_getElem _⟩
  have hxd:l.getD k 0=x:=by rw[List.getD_eq_getElem?_getD,hx];rfl
  have hxb:x<1000000000:=hl x (List.mem_of_getElem? hx)
  have hx0:=zJO x
  refine AW.skip (AW.seq (AW.block (rgn [.int .u64 (x:Nat)] [[],[],[],[],[3,4,5,11,12,13]] ?_)))
  iterate 5 refine op3 ?_ (hv:=by first|exact True.intro|(simp[hx];done)|omega|simp)
  refine qA (rgn [] [[]] ?_)
  refine op3 ?_
  refine qA (AW.block ?_)
  refine AW.loop (α:=Nat) (fun j=>j<=9) (fun j=>⟨zA 41 [(3,.ms 10),(4,.p (.int .i64 k)),(5,.p (.int .u64 (qRW x j:Nat))),(11,.p (.sl 1 (l.map wP))),(12,.p (.int .i64 l.length)),(13,.p (.int .i64 k)),(18,.p (.int .i64 j))],[],[(10,.row 5 1 (vN N (9 * k+j) V))],0⟩) (fun j=>9-j) (0) (by omega) ⟨qE (by simp[hx0]),rfl,by simp,by simp⟩ ?_
  rintro j hj
  refine rgn [] [[]] ?_
  refine op3 ?_
  refine qA (AW.seq (cnd ?_ ?_))
  ·intro h19
   try simp at h19
   have hdj:=hdl k j (by omega)
   rw[hxd,show x / 10 ^ j=qRW x j from rfl]at hdj
   have hset:=hset (9 * k+j) (by omega)
   have hget:=hget (9 * k+j) (by omega)
   have hlen:=hlen (9 * k+j) (by omega)
   rw[hdj]at hset
   have hxj:qRW x j<1000000000:=Nat.lt_of_le_of_lt (Nat.div_le_self _ _) hxb
   have hnx:=zJP x j
   generalize qRW x j=z at *
   have hix:((N:Int)-1-k * 9).toNat-j=N-1-(9 * k+j):=by omega
   have dm:(z:Int).tmod 10=((z % 10:Nat):Int):=(Int.ofNat_tmod z 10).symm
   have dc:IntKind.u8.wrap (IntKind.u64.wrap (48+((z % 10:Nat):Int)))=((48+z % 10:Nat):Int):=by
    rw[kI (by omega) (by omega),zGI (by omega) (by omega)];omega
   have dq:IntKind.u64.wrap ((z:Int) / 10)=((qRW x (j+1):Nat):Int):=by rw[<-hnx,kI (by omega) (by omega)];omega
   generalize hr:z % 10=r at *
   have e9:9 * k+j+1=9 * k+(j+1):=rfl
   rw[e9,show((48+r:Nat):Int)=48+(r:Int) by omega]at hset
   refine AW.skip (AW.seq (AW.block (rgn [] [[],[3,4,5,6,11,12,13,18]] ?_)))
   iterate 2 refine op3 ?_
   refine qA (rgn [.int .u8 0,.int .u8 (48+r:Nat)] [[],[],[],[],[],[],[3,4,5,6,11,12,13,18,21,27],[],[],[],[3,4,5,11,12,13,18,21,29,31],[],[],[3,4,5,11,12,13,18,33,34],[3,4,5,11,12,13,18]] ?_)
   iterate 15 refine op3 ?_ (h:=by intro C;conv=>lhs;simp[hlen,hget,hix,dm,dc]) (hv:=by first|exact True.intro|(simp[hlen,hget,hix,dm,dc];done)|(simp[hlen,hget,hix,dm,dc];omega);done|omega|simp)
   refine qA (rgz [] [[],[],[3,4,5,11,12,13,18]] ?_)
   iterate 3 refine op3 ?_
   refine qA (rgz [] [[],[3,4,5,11,12,13,18]] ?_)
   iterate 2 refine op3 ?_
   refine qA ?_
   exact⟨j+1,by omega,by omega,qE (by simp[dq,hset,hlen,hix]),rfl,by simp[dq,hset,hlen,hix],by simp[dq,hset,hlen,hix]⟩
  intro h19
  try simp at h19
  obtain rfl:j=9:=by omega
  refine AW.exit ?_
  simp
  refine rgz [] [[],[3,11,12,13]] ?_
  iterate 2 refine op3 ?_
  refine qA ?_
  exact⟨k+1,by omega,by omega,qE (by simp[show 9 * (k+1)=9 * k+9 from rfl]),rfl,by simp[show 9 * (k+1)=9 * k+9 from rfl],by simp[show 9 * (k+1)=9 * k+9 from rfl]⟩
 intro h14
 try simp at h14
 obtain rfl:k=l.length:=by omega
 rw[<-hN,hall]
 refine AW.exit ?_
 simp
 refine rgn [.str (qEJ N V)] [[],[],[2]] ?_
 iterate 3 refine op3 ?_
 exact qA (AW.ret qI)
theorem zFJ {l:List Nat} (h:okL l):zW (qEJ (9 * l.length) (qY l))=qY l:=by
 rw[zBR,Nat.mod_eq_of_lt]
 rw[Nat.pow_mul]
 exact qFS h
theorem qIP (neg:Bool) {l:List Nat} (hl:okL l) (h:l.length<=1000000) (sc:Nat) (hs:sc<=1000000) :
  AFn Tryz.prog G 95 [.bool neg,.str (qEJ (9 * l.length) (qY l)),.int .i64 sc] (.tup [(kQ neg (qY l) sc).1.enc,.int .i64 (kQ neg (qY l) sc).2]):=by
 have:=qOG (G:=G) neg (qEJ (9 * l.length) (qY l)) sc (by rw[qKH];omega) (by omega)
 rwa [qJU neg (zBS _ _),zFJ hl]at this
def qOR (a b:Dc):Nat:=zW (jC a (zY a b))
def qOQ (a b:Dc):Nat:=zW (jC b (zY a b))
def qHO (a b:Dc):Dc × Int :=
 if a.neg=b.neg then kQ a.neg (qOR a b+qOQ a b) (zY a b).toNat
 else if qOQ a b<=qOR a b then kQ a.neg (qOR a b-qOQ a b) (zY a b).toNat else kQ b.neg (qOQ a b-qOR a b) (zY a b).toNat
theorem zKN {l m:List Nat} (hl:qNY l) (hm:qNY m):(0<=xS l m)↔qY m<=qY l:=by
 have h:=qMZ hl hm
 unfold sgn at h
 constructor
 ·intro h0
  rw[if_neg (show ¬ xS l m<0 by omega)]at h
  split at h <;> split at h <;> (try split at h) <;> omega
 intro h0
 rw[if_neg (show ¬ ((qY l:Int)-qY m<0) by omega)]at h
 split at h <;> split at h <;> (try split at h) <;> omega
theorem zIJ {l m:List Nat} (hl:qNY l) (hm:qNY m) (h:qY m<=qY l):m.length<=l.length:=by
 apply Nat.le_of_not_lt
 intro h2
 have:=qQH hl hm h2
 omega
theorem qVL (a b:Dc) (ha:okD a) (hb:okD b):AFn Tryz.prog G 131 [a.enc,b.enc] (.tup [(qHO a b).1.enc,.int .i64 (qHO a b).2]):=by
 refine AFn.introU tok Tryz.func131 (by kernel_rfl) rfl rfl ?_
 simp only[Tryz.f131,qG,List.map_cons,List.map_nil]
 have hal:=qRR (G:=G) a b ha hb
 obtain⟨a1,a2,a3,a4⟩:=ha
 obtain⟨b1,b2,b3,b4⟩:=hb
 have hm3:zY a b<=1000:=by unfold zY;split <;> omega
 have hm0:0<=zY a b:=by unfold zY;split <;> omega
 have hx:=qJX (qAF a4 (zY a b-a.scale).toNat)
 have hy:=qJX (qAF b4 (zY a b-b.scale).toNat)
 have vx:=qJW (qAF a4 (zY a b-a.scale).toNat)
 have vy:=qJW (qAF b4 (zY a b-b.scale).toNat)
 have lx:(xC (jC a (zY a b))).length<=2000:=by have:=qQE (jC a (zY a b));simp[jC]at *; omega
 have ly:(xC (jC b (zY a b))).length<=2000:=by have:=qQE (jC b (zY a b));simp[jC]at *; omega
 have hD:qHO a b=if a.neg=b.neg then kQ a.neg (qOR a b+qOQ a b) (zY a b).toNat else if qOQ a b<=qOR a b then kQ a.neg (qOR a b-qOQ a b) (zY a b).toNat else kQ b.neg (qOQ a b-qOR a b) (zY a b).toNat:=rfl
 rw[show qOR a b=qY (xC (jC a (zY a b))) from vx.symm,show qOQ a b=qY (xC (jC b (zY a b))) from vy.symm]at hD
 rw[hD]
 change qNY (xC (jC a (zY a b)))at hx
 change qNY (xC (jC b (zY a b)))at hy
 clear vx vy hD
 generalize xC (jC a (zY a b))=x at *
 generalize xC (jC b (zY a b))=y at *
 obtain⟨sc,hsc⟩:∃ sc:Nat,zY a b=sc:=⟨(zY a b).toNat,by omega⟩
 rw[hsc]at hal ⊢
 rw[Int.toNat_natCast]
 have hcm:=qTS (G:=G) x y (by omega) (by omega)
 have hge:=zKN hx hy
 generalize xS x y=c at *
 have hp:=zTF (G:=G) x y hx.1 hy.1 (by omega) (by omega)
 obtain⟨op,vp⟩:=zMD hx.1 hy.1
 have lp:=zRB x y
 generalize qXY x y=p at *
 have dp:=qMA (G:=G) p op (by omega)
 have mp:=qIP (G:=G) a.neg op (by omega) sc (by omega)
 have hq:=qTU (G:=G) x y hx.1 hy.1 (by omega) (by omega)
 have sq:=fun h=>qTB hx.1 hy.1 (zIJ hx hy h) h
 have lq:=qZE x y
 generalize qVV x y=q at *
 have hr:=qTU (G:=G) y x hy.1 hx.1 (by omega) (by omega)
 have sr:=fun h=>qTB hy.1 hx.1 (zIJ hy hx h) h
 have lr:=qZE y x
 generalize qVV y x=r at *
 refine rgn [] [[],[],[],[2,3,4]] ?_
 iterate 4 refine op3 ?_
 refine qA (rgn [.nilp,.tup [.sl 1 (x.map wP),.sl 1 (y.map wP),.int .i64 sc]] [[],[],[],[],[],[],[2,3,4,13,14,15],[],[],[2,3,4,6,7,8]] ?_)
 iterate 10 refine oq1 tok hal ?_
 refine qA (AW.seq (AW.block (rgn [] [[],[],[],[],[2,3,4,6,7,8,21],[2,3,4,6,7,8,16]] ?_)))
 iterate 6 refine op3 ?_
 refine qA (cnd ?_ ?_)
 ·intro h16
  try simp at h16
  rw[if_pos h16,<-vp]
  generalize qEJ (9 * p.length) (qY p)=dg at *
  generalize kQ a.neg (qY p) sc=R at *
  refine AW.seqDrawS tok mixed 10 [[2],[22],[6],[7],[24,25],[26],[8],[23,27,28],[29],[29]] [.nilp,.sl 1 (p.map wP),.nilp,.str dg,.nilp,.tup [R.1.enc,.int .i64 R.2]] [] (by kernel_rfl) ?_
  iterate 10 refine dq1 (ai hp (ai dp mp)) ?_
  refine DGo.nil (by kernel_rfl) ⟨by kernel_rfl, ?_⟩
  refine qB.run [[],[4,5]] ?_
  iterate 2 refine op3 ?_
  exact qA (AW.ret qI)
 intro h16
 try simp at h16
 rw[if_neg h16]
 refine rgn [.nilp,.int .i64 c] [[],[],[],[],[2,3,4,6,7,8,32]] ?_
 iterate 5 refine oq1 tok hcm ?_
 refine qA (cnd ?_ ?_)
 ·intro h32
  try simp at h32
  obtain⟨oq,vq⟩:=sq (hge.1 h32)
  rw[if_pos (hge.1 h32),<-vq]
  have dq:=qMA (G:=G) q oq (by omega)
  have mq:=qIP (G:=G) a.neg oq (by omega) sc (by omega)
  generalize qEJ (9 * q.length) (qY q)=dg at *
  generalize kQ a.neg (qY q) sc=R at *
  refine AW.seqDrawS tok mixed 10 [[2],[37],[6],[7],[39,40],[41],[8],[38,42,43],[44],[44]] [.nilp,.sl 1 (q.map wP),.nilp,.str dg,.nilp,.tup [R.1.enc,.int .i64 R.2]] [] (by kernel_rfl) ?_
  iterate 10 refine dq1 (ai hq (ai dq mq)) ?_
  refine DGo.nil (by kernel_rfl) ⟨by kernel_rfl, ?_⟩
  refine qB.run [[],[4,5]] ?_
  iterate 2 refine op3 ?_
  exact qA (AW.ret qI)
 intro h32
 try simp at h32
 have hlt:¬ qY y<=qY x:=fun h=>by have:=hge.2 h;omega
 obtain⟨or,vr⟩:=sr (by omega)
 rw[if_neg hlt,<-vr]
 have dr:=qMA (G:=G) r or (by omega)
 have mr:=qIP (G:=G) b.neg or (by omega) sc (by omega)
 generalize qEJ (9 * r.length) (qY r)=dg at *
 generalize kQ b.neg (qY r) sc=R at *
 refine AW.skip ?_
 refine AW.seqDrawS tok mixed 10 [[3],[47],[7],[6],[49,50],[51],[8],[48,52,53],[54],[54]] [.nilp,.sl 1 (r.map wP),.nilp,.str dg,.nilp,.tup [R.1.enc,.int .i64 R.2]] [] (by kernel_rfl) ?_
 iterate 10 refine dq1 (ai hr (ai dr mr)) ?_
 refine DGo.nil (by kernel_rfl) ⟨by kernel_rfl, ?_⟩
 refine qB.run [[],[4,5]] ?_
 iterate 2 refine op3 ?_
 exact qA (AW.ret qI)
theorem zUW (v:Val) (ks:List Int):AFn Tryz.prog G 168 [v.enc,.ref [.sl 1 (ks.map (PD.int .i64))]] (.bool (!decide (v.kind∈ks))):=by
 refine AFn.introU tok Tryz.func168 (by kernel_rfl) rfl rfl ?_
 simp only[Tryz.f168,qG,List.map_cons,List.map_nil]
 have h1:=zPG (G:=G) ks v.kind
 generalize decide (v.kind∈ks)=b at *
 refine rgn [] [[],[1,2]] ?_
 iterate 2 refine op3 ?_
 refine qA (rgn [.nilp,.bool b] [[],[],[],[7],[],[3]] ?_)
 iterate 6 refine oq1 tok h1 ?_
 exact qA (AW.ret qI)
def qMI (l:List Val) (ks:List Int):Bool:=l.all fun v=>decide (v.kind∈ks)
theorem zGB (l:List Val) (ks:List Int):AFn Tryz.prog G 130 [.sl 9 (l.map Val.enc),.sl 1 (ks.map (PD.int .i64))] (.bool (qMI l ks)):=by
 refine AFn.introU tok Tryz.func130 (by kernel_rfl) rfl rfl ?_
 simp only[Tryz.f130,qG,List.map_cons,List.map_nil]
 have hc:=qHX (G:=G) l 168 [.sl 1 (ks.map (PD.int .i64))] (fun v => !decide (v.kind∈ks)) (fun v _=>zUW v ks)
 have e:qMI l ks = !(l.any fun v => !decide (v.kind∈ks)):=by unfold qMI;rw[List.not_any_eq_all_not];simp
 rw[e]
 generalize (l.any fun v => !decide (v.kind∈ks))=r at *
 refine rgn [] [[],[0,3]] ?_
 iterate 2 refine op3 ?_
 refine qA ?_
 refine AW.freezeV 3 (by conv=>lhs;simp) ?_
 refine rgn [.nilp,.bool r] [[],[],[7],[],[4]] ?_
 iterate 5 refine op3 ?_ (hv:=by first|exact True.intro|exact hc|(simp;done)|(simp at hc ⊢; exact hc);done|omega|simp)
 exact qA (AW.ret qI)
def qFT (l:List Val) (sep:List UInt8) (m:Int):Val:=if qMI l [5,1]=true then wW (Lib.join (l.map Val.text) sep) m else qQ 40 m
theorem zAR (l:List Val) (sep:List UInt8) (m:Int) (hl:l.length<=1000000) (hj:(Lib.join (l.map Val.text) sep).length<=1000000000):AFn Tryz.prog G 91 [.agg [.int .u64 m],.sl 9 (l.map Val.enc),.str sep] ((qFT l sep m).enc):=by
 refine AFn.introU tok Tryz.func91 (by kernel_rfl) rfl rfl ?_
 simp only[Tryz.f91,qG,List.map_cons,List.map_nil]
 have hf:=zT (G:=G) 40 m
 have ha:=zGB (G:=G) l [5,1]
 have hw:=qCT (G:=G) (Lib.join (l.map Val.text) sep) m
 have hJ:=zIP (G:=G) (l.map Val.text) sep (by simp;omega) (by omega)
 have e:qFT l sep m=if qMI l [5,1]=true then wW (Lib.join (l.map Val.text) sep) m else qQ 40 m:=rfl
 rw[e]
 have hle:(l.map Val.enc).length=l.length:=by simp
 have htl:(l.map Val.text).length=l.length:=by simp
 have htg:∀ (k:Nat) x,l[k]?=some x->(l.map Val.text)[k]?=some x.text:=fun k x h=>by rw[List.getElem?_map,h];rfl
 generalize qMI l [5,1]=b at *
 generalize wW (Lib.join (l.map Val.text) sep) m=W at *
 generalize Lib.join (l.map Val.text) sep=J at *
 generalize l.map Val.text=ts at *
 simp only[Val.enc_def,List.map_cons,List.map_nil]at hf ha hw
 refine rgn [] [[],[1,2,3,6]] ?_
 iterate 2 refine op3 ?_
 refine qA (AW.seq (rgn [.int .i64 5,.int .i64 1,.nilp,.bool b] [[],[],[],[1,2,3,6,13]] ?_))
 iterate 4 refine oq1 tok ha ?_
 refine qA (cnd ?_ ?_)
 ·intro h13
  try simp at h13
  rw[if_neg (by simp[h13])]
  refine rgn [.nilp,(qQ 40 m).enc] [[],[],[6]] ?_
  iterate 3 refine oq1 tok hf ?_
  exact qA (AW.ret qI)
 intro h13
 try simp at h13
 rw[if_pos (by simpa using h13)]
 refine AW.skip (rgn [] [[]] ?_)
 refine op3 ?_
 refine qA (AW.seq (rgn [] [[],[],[2,3,6,7,16,17,18]] ?_))
 iterate 3 refine op3 ?_
 refine qA (AW.block ?_)
 refine AW.beginE 7 100 9 1 (by simp) (by simp) (by conv=>lhs;simp) ?_
 refine AW.loop (α:=Nat) (fun k=>k<=l.length) (fun k=>⟨zA 33 [(2,.p (.str sep)),(3,.ptr 3 0),(6,.ptr 6 0),(7,.ms 100),(16,.p (.sl 9 (l.map Val.enc))),(17,.p (.int .i64 l.length)),(18,.p (.int .i64 k))],[],[(3,.vars 61 [.p (.int .u64 m)]),(6,.vars 31 [.p (.int .i64 0),.p (.int .u64 0),.p (.bool false),.p (.str []),.p (.int .i64 0),.p (.str []),.nilsl,.nilsl,.p (.int .i64 0)]),(100,.row 9 1 ((ts.map PD.str).take k))],0⟩) (fun k=>l.length-k) (0) (by omega) ⟨qE (by simp),rfl,by simp,by simp⟩ ?_
 rintro k hk
 refine rgn [] [[]] ?_
 refine op3 ?_
 refine qA (AW.seq (cnd ?_ ?_))
 ·intro h19
  try simp at h19
  obtain⟨x,hx⟩:∃ x,l[k]?=some x:=⟨l[k]'(by omega),by simp[show k<l.length by omega]⟩
  have ht:=htg k x hx
  have hgp:(ts.map PD.str)[k]?=some (.str x.text):=by rw[List.getElem?_map,ht];rfl
  have htk:(ts.map PD.str).take k++[.str x.text]=(ts.map PD.str).take (k+1):=by rw[List.take_add_one,hgp];rfl
  refine AW.skip (AW.seq (AW.block (rgn [x.enc] [[],[],[],[2,3,6,7,9,16,17,18]] ?_)))
  iterate 4 refine op3 ?_ (hv:=by first|exact True.intro|(simp[hx];done)|(simp[hx];omega);done|omega|simp)
  refine qA (rgz [.str x.text] [[],[],[],[2,3,6,16,17,18,22,25],[],[2,3,6,7,16,17,18]] ?_)
  iterate 6 refine op3 ?_
  refine qA (rgz [] [[],[2,3,6,7,16,17,18]] ?_)
  iterate 2 refine op3 ?_
  refine qA ?_
  exact⟨k+1,by omega,by omega,qE (by simp[htk]),rfl,by simp[htk],by simp[htk]⟩
 intro h19
 try simp at h19
 obtain rfl:k=l.length:=by omega
 have hall:(ts.map PD.str).take l.length=ts.map PD.str:=List.take_of_length_le (by simp[htl])
 simp only[hall]
 refine AW.exit ?_
 simp
 refine AW.freezeE 100 (by conv=>lhs;simp) ?_
 refine AW.seqRunDrawK tok mixed [6] 5 [[3],[7],[2],[29,30],[28,31]] [.nilp,.str J,.nilp,W.enc] [] (by kernel_rfl) (by intro C;conv=>lhs;simp) (by first|exact⟨hJ,hw⟩|omega|(simp;exact⟨hJ,hw⟩)) (by simp[Sm.sum,Sm.foot,Sm.tch,Sm.refs];kernel_rfl) (by intro C;conv=>lhs;simp) (by first|exact True.intro|omega|simp) ?_
 exact AW.ret qI
theorem zKD (v:Val) (ih:∀ k∈v.kids,AFn Tryz.prog G 80 [k.enc] (.bool (qDT k))):AFn Tryz.prog G 80 [v.enc] (.bool (qDT v)):=by
 refine AFn.introU tok Tryz.func80 (by kernel_rfl) rfl rfl ?_
 simp only[Tryz.f80,qG,List.map_cons,List.map_nil]
 have hc:=qKL (G:=G) v.kids 80 qDT ih
 rw[qJO]
 generalize v.kids.any qDT=r at *
 refine rgn [] [[],[1]] ?_
 iterate 2 refine op3 ?_
 refine qA (rgn [.nilp,.bool r] [[],[],[],[],[6,7],[],[],[10],[2]] ?_)
 iterate 4 refine op3 ?_ (hv:=by first|exact True.intro|exact hc|exact fun h=>⟨h,hc⟩|(simp;exact fun h=>⟨h,hc⟩)|(simp;done);done|omega|simp)
 iterate 3 refine op4 ?_ (hv:=by first|exact True.intro|exact hc|exact fun h=>⟨h,hc⟩|(simp;exact fun h=>⟨h,hc⟩)|(simp;done);done|omega|simp)
 iterate 2 refine op3 ?_ (hv:=by first|exact True.intro|exact hc|exact fun h=>⟨h,hc⟩|(simp;exact fun h=>⟨h,hc⟩)|(simp;done);done|omega|simp)
 refine qA ?_
 exact AW.ret (qI (k:=by(simp;done)))
theorem zNQ (v:Val):AFn Tryz.prog G 80 [v.enc] (.bool (qDT v)):=Val.induct (fun v ih=>zKD v ih) v
def qKA (v:Val) (m:Int):Val:=if qDT v=true then qQ 40 m else wW (zH v) m
theorem zAQ (v:Val) (m:Int) (hm:zX v=true) (hs:Val.sz v<=10000):AFn Tryz.prog G 45 [.agg [.int .u64 m],v.enc] ((qKA v m).enc):=by
 refine AFn.introU tok Tryz.func45 (by kernel_rfl) rfl rfl ?_
 simp only[Tryz.f45,qG,List.map_cons,List.map_nil]
 have hf:=zT (G:=G) 40 m
 have hp:=zNQ (G:=G) v
 have hpr:=fun h=>qZZ (G:=G) hm h hs
 have hw:=qCT (G:=G) (zH v) m
 have e:qKA v m=if qDT v=true then qQ 40 m else wW (zH v) m:=rfl
 rw[e]
 generalize qDT v=b at *
 generalize wW (zH v) m=W at *
 generalize zH v=T at *
 simp only[Val.enc_def]at hf hp hpr hw
 refine rgn [] [[],[],[2,3,4]] ?_
 iterate 3 refine op3 ?_
 refine qA (AW.seq (rgn [.nilp,.bool b] [[],[2,3,4,6]] ?_))
 iterate 2 refine oq1 tok hp ?_
 refine qA (cnd ?_ ?_)
 ·intro h6
  try simp at h6
  rw[if_pos h6]
  refine rgn [.nilp,(qQ 40 m).enc] [[],[],[4]] ?_
  iterate 3 refine oq1 tok hf ?_
  exact qA (AW.ret qI)
 intro h6
 try simp at h6
 rw[if_neg (by simp[h6])]
 have hpr:=hpr h6
 refine AW.skip ?_
 refine AW.seqRunDrawK tok mixed [4] 4 [[2],[3],[10],[9,11]] [.nilp,.str T,.nilp,W.enc] [] (by kernel_rfl) (by intro C;conv=>lhs;simp) (by exact⟨hpr,hw⟩) (by simp[Sm.sum,Sm.foot,Sm.tch,Sm.refs];kernel_rfl) (by intro C;conv=>lhs;simp) (by first|exact True.intro|omega|simp) ?_
 exact AW.ret qI
def rowN:Nat->Nat->List Nat
 | 0,_=>[]
 | w+1,v=>v / 10 ^ w % 10::rowN w v
def ndg (Q:Nat):Nat:=(qX (Lib.decDigits Q)).length
theorem zXO (Q k:Nat):ndg Q<=k↔Q<10 ^ k:=by
 unfold ndg
 have ha:=qAK (qGC Q)
 have hv:zW (qX (Lib.decDigits Q))=Q:=by rw[qCL,qKJ]
 have hh:=qDO (Lib.decDigits Q)
 have h1:=xZ ha
 generalize qX (Lib.decDigits Q)=s at *
 rw[hv]at h1
 constructor
 ·intro h
  exact Nat.lt_of_lt_of_le h1 (Nat.pow_le_pow_right (by decide) h)
 intro h
 apply Nat.le_of_not_lt
 intro hk
 have h2:=qAT ha (by omega) (hh (by omega))
 rw[hv]at h2
 have:10 ^ k<=10 ^ (s.length-1):=Nat.pow_le_pow_right (by decide) (by omega)
 omega
theorem qSX:∀ (k:Nat) (d:List UInt8),zW (wH d k).1 * 10 ^ (k-(wH d k).2)=zW d/\(wH d k).2<=k
 | 0,d=>by simp[wH]
 | k+1,d=>by
  simp only[wH]
  split
  ·rename_i h
   obtain⟨h1,h2⟩:=qSX k d.dropLast
   have hd:d=d.dropLast++[48]:=by
    obtain⟨hne,hl⟩:∃ hne:d≠[],d.getLast hne=48:=by
     cases d with
     | nil=>simp at h
     | cons a t=>exact⟨by simp,by rw[List.getLast?_eq_some_getLast (by simp)]at h;exact Option.some.inj h⟩
    conv=>lhs;rw[<-List.dropLast_concat_getLast hne,hl]
   refine⟨?_,by omega⟩
   conv=>rhs;rw[hd,qLA,<-h1]
   rw[show k+1-(wH d.dropLast k).2=(k-(wH d.dropLast k).2)+1 by omega,Nat.pow_succ,<-Nat.mul_assoc];rfl
  simp
theorem zAG {neg:Bool} {v sc:Nat} {d:Dc} (h:kQ neg v sc=(d,0)):zO d=true/\d.scale.toNat<=sc/\zW d.digits * 10 ^ (sc-d.scale.toNat)=v/\(v≠0->d.neg=neg)/\(v=0->d.neg=false):=by
 have hm:zO d=true:=by
  have:=qHI (neg:=neg) (scale:=sc) (qGC v) (by show(kQ neg v sc).2=0;rw[h])
  have e:(wU neg (Lib.decDigits v) sc).1=d:=by show(kQ neg v sc).1=d;rw[h]
  rwa [e]at this
 refine⟨hm, ?_⟩
 obtain⟨h1,h2⟩:=qSX sc (qX (Lib.decDigits v))
 rw[qCL,qKJ]at h1
 unfold kQ wU at h
 simp only at h
 generalize wH (qX (Lib.decDigits v)) sc=x at *
 split at h
 ·rename_i hx
  cases h
  rw[hx]at h1
  simp[zW]at h1
  subst h1
  exact⟨by simp,by simp[zW],by simp,by simp⟩
 rename_i hx
 split at h
 ·cases h
 cases h
 simp only at hm ⊢
 refine⟨by simpa using h2,by simpa using h1,by simp,fun h0 => ?_⟩
 rw[h0]at h1
 have hz:zW x.1=0:=by
  rcases Nat.mul_eq_zero.1 h1 with e|e
  ·exact e
  have:=Nat.pow_pos (n:=sc-x.2) (show 0<10 by decide);omega
 rcases qTV hm with⟨_,_,e⟩|⟨e,_⟩
 ·exact e
 have:=qAT (jB hm).1.2.2.2 (List.length_pos_iff.2 hx) e
 have:=Nat.pow_pos (n:=x.1.length-1) (show 0<10 by decide)
 simp only at *; omega
theorem zJD (d:List UInt8) (sc:Nat):∀ k,wH (d++List.replicate k 48) (sc+k)=wH d sc
 | 0=>by simp
 | k+1=>by
  rw[show sc+(k+1)=(sc+k)+1 by omega]
  simp only[wH]
  have e:d++List.replicate (k+1) 48=(d++List.replicate k 48)++[48]:=by rw[List.replicate_succ',List.append_assoc]
  rw[e,if_pos (by simp),List.dropLast_concat]
  exact zJD d sc k
theorem zJE:∀ k,wH [] k=([],k)\/wH [] k=([],0)
 | 0 => .inr rfl
 | k+1=>by simp[wH]
theorem qQB (neg:Bool) (sc:Nat):kQ neg 0 sc=(⟨false,[48],0⟩,0):=by
 have e:qX (Lib.decDigits 0)=[]:=by
  rw[qZG (y:=[]) (qGC 0) (by simp) (by rw[qKJ];rfl)];rfl
 unfold kQ wU
 rw[e]
 simp only
 rw[if_pos (by rcases zJE sc with h|h <;> rw[h])]
def zOD (z:Int) (sc:Nat):Dc × Int:=kQ (decide (z<0)) z.natAbs sc
def zV (d:Dc) (M:Int):Int:=if d.neg=true then-((zW d.digits * 10 ^ (M-d.scale).toNat:Nat):Int) else((zW d.digits * 10 ^ (M-d.scale).toNat:Nat):Int)
theorem zMK {d:Dc} (h:zO d=true) (M:Int):decide (zV d M<0)=d.neg:=by
 have hp:0<10 ^ (M-d.scale).toNat:=Nat.pow_pos (by decide)
 unfold zV
 by_cases hn:d.neg=true
 ·have hv:0<zW d.digits:=by
   rcases qTV h with⟨_,_,e⟩|⟨e,_⟩
   ·rw[hn]at e;cases e
   obtain⟨⟨_,_,_,h4⟩,_,_⟩:=jB h
   have hl:0<d.digits.length:=by
    unfold zO at h;simp only[Bool.and_eq_true,decide_eq_true_eq]at h;omega
   have:=qAT h4 hl e
   have:=Nat.pow_pos (n:=d.digits.length-1) (show 0<10 by decide)
   omega
  have:=Nat.mul_pos hv hp
  rw[if_pos hn,hn];simp only[decide_eq_true_eq];omega
 rw[if_neg hn]
 have:d.neg=false:=by simpa using hn
 rw[this];simp only[decide_eq_false_iff_not];omega
theorem zYI {a b:Dc} (ha:zO a=true) (hb:zO b=true):qHO a b=zOD (zV a (zY a b)+zV b (zY a b)) (zY a b).toNat:=by
 have hx:qOR a b=zW a.digits * 10 ^ (zY a b-a.scale).toNat:=qJB _ _
 have hy:qOQ a b=zW b.digits * 10 ^ (zY a b-b.scale).toNat:=qJB _ _
 have na:=zMK ha (zY a b)
 have nb:=zMK hb (zY a b)
 unfold qHO zOD
 unfold zV at na nb ⊢
 rw[<-hx]at na ⊢
 rw[<-hy]at nb ⊢
 generalize qOR a b=x at *
 generalize qOQ a b=y at *
 generalize (zY a b).toNat=M
 cases h1:a.neg <;> cases h2:b.neg <;> simp only[h1,h2]at na nb ⊢ <;> simp at na nb ⊢
 ·have e:¬ ((x:Int)+y<0):=by omega
  have e3:((x:Int)+y).natAbs=x+y:=by omega
  simp[e,e3]
 ·split
  ·have e:¬ ((x:Int) + -y<0):=by omega
   have e3:((x:Int) + -y).natAbs=x-y:=by omega
   simp[e,e3]
  have e:((x:Int) + -y<0):=by omega
  have e3:((x:Int) + -y).natAbs=y-x:=by omega
  simp[e,e3]
 ·by_cases hxy:y<=x
  ·rw[if_pos hxy]
   by_cases he:x=y
   ·subst he
    have e:¬ (-(x:Int)+x<0):=by omega
    have e3:(-(x:Int)+x).natAbs=0:=by omega
    rw[Nat.sub_self,e3,qQB,qQB]
   have e:(-(x:Int)+y<0):=by omega
   have e3:(-(x:Int)+y).natAbs=x-y:=by omega
   simp[e,e3]
  rw[if_neg hxy]
  have e:¬ (-(x:Int)+y<0):=by omega
  have e3:(-(x:Int)+y).natAbs=y-x:=by omega
  simp[e,e3]
 have e3:(-(x:Int) + -y).natAbs=x+y:=by omega
 rw[e3]
 have e:(-(x:Int) + -y<0):=by omega
 simp[e]
theorem qLO {neg:Bool} {v sc:Nat} (h:(kQ neg v sc).2=0):zO (kQ neg v sc).1=true:=qHI (qGC v) h
theorem zRC {a b:Dc} (h:(qHO a b).2=0):zO (qHO a b).1=true:=by
 unfold qHO at h ⊢
 split
 ·rename_i h0;rw[if_pos h0]at h;exact qLO h
 rename_i h0;rw[if_neg h0]at h
 split
 ·rename_i h1;rw[if_pos h1]at h;exact qLO h
 rename_i h1;rw[if_neg h1]at h;exact qLO h
def qZC (d:Dc):List Val->Dc × Int
 | []=>(d,0)
 | v::l=>if(qHO d v.num).2≠0 then qHO d v.num else qZC (qHO d v.num).1 l
def qSK (l:List Val) (m:Int):Val:=if l.length=0 then qWO m else if qMI l [5]=true then qFT l [] m else if qMI l [4]=false then qQ 40 m else vH (qZC (qFV 0) l) m
theorem zTR (l:List Val) (m:Int) (hl:l.length<=1000000) (hj:(Lib.join (l.map Val.text) []).length<=1000000000) (hm:∀ v∈l,zX v=true):AFn Tryz.prog G 86 [.agg [.int .u64 m],.sl 9 (l.map Val.enc)] ((qSK l m).enc):=by
 refine AFn.introU tok Tryz.func86 (by kernel_rfl) rfl rfl ?_
 simp only[Tryz.f86,qG,List.map_cons,List.map_nil]
 have hf:=zT (G:=G) 40 m
 have hn:=zAP (G:=G) m
 have ha5:=zGB (G:=G) l [5]
 have ha4:=zGB (G:=G) l [4]
 have hjn:=zAR (G:=G) l [] m hl hj
 have hd0:=qDJ (G:=G) 0 (by decide) (by decide)
 have hr:=fun r=>vT (G:=G) r m
 have hm0:=zOX (n:=0) (by decide) (by decide)
 have hnum:qMI l [4]=true->∀ v∈l,zO v.num=true:=fun h v hv=>by
  have:=List.all_eq_true.1 h v hv
  simp at this
  exact vK (hm v hv) this
 have e:qSK l m=if l.length=0 then qWO m else if qMI l [5]=true then qFT l [] m else if qMI l [4]=false then qQ 40 m else vH (qZC (qFV 0) l) m:=rfl
 rw[e]
 have hle:(l.map Val.enc).length=l.length:=by simp
 generalize qMI l [5]=b5 at *
 generalize qMI l [4]=b4 at *
 generalize qFT l [] m=J at *
 generalize qFV 0=D0 at *
 obtain⟨R,hRe⟩:∃ R,qZC D0 l=R:=⟨_,rfl⟩
 rw[hRe]
 simp only[Val.enc_def,Dc.enc,List.map_cons,List.map_nil]at hf hn ha5 ha4 hjn hd0 hr
 refine rgn [] [[],[1,2,4]] ?_
 iterate 2 refine op3 ?_
 refine qA (AW.seq (AW.block (rgn [] [[],[],[],[1,2,4,9]] ?_)))
 iterate 4 refine op3 ?_
 refine qA (cnd ?_ ?_)
 ·intro h9
  try simp at h9
  rw[if_pos (by simpa using h9)]
  refine rgn [.nilp,(qWO m).enc] [[],[],[4]] ?_
  iterate 3 refine oq1 tok hn ?_
  exact qA (AW.ret qI)
 intro h9
 try simp at h9
 rw[if_neg (by simpa using h9)]
 refine rgn [.int .i64 5,.nilp,.bool b5] [[],[],[],[1,2,4,15]] ?_
 iterate 4 refine oq1 tok ha5 ?_
 refine qA (cnd ?_ ?_)
 ·intro h15
  try simp at h15
  rw[if_pos h15]
  refine rgn [.nilp,J.enc] [[],[],[4,21],[4]] ?_
  iterate 4 refine op3 ?_ (hv:=by first|exact True.intro|exact hjn|(simp at hjn ⊢; exact hjn);done|omega|simp)
  exact qA (AW.ret qI)
 intro h15
 try simp at h15
 rw[if_neg (by simp[h15])]
 refine rgn [.int .i64 4,.nilp,.bool b4] [[],[],[],[],[1,2,4,22]] ?_
 iterate 5 refine oq1 tok ha4 ?_
 refine qA (cnd ?_ ?_)
 ·intro h22
  try simp at h22
  rw[if_pos h22]
  refine rgn [.nilp,(qQ 40 m).enc] [[],[],[4]] ?_
  iterate 3 refine oq1 tok hf ?_
  exact qA (AW.ret qI)
 intro h22
 try simp at h22
 rw[if_neg (by simp[h22])]
 have hnum:=hnum (by simpa using h22)
 refine AW.skip (rgn [.nilp,D0.enc] [[],[],[],[1,2,4,5,6]] ?_)
 iterate 4 refine oq1 tok hd0 ?_
 refine qA ?_
 refine AW.join (α:=Unit) (fun _=>True) (fun a=>⟨zA 50 [(2,.ptr 2 0),(4,.ptr 4 0),(5,.ptr 5 0),(6,.p (.int .i64 R.2))],[],[(2,.vars 61 [.p (.int .u64 m)]),(4,.vars 31 [.p (.int .i64 0),.p (.int .u64 0),.p (.bool false),.p (.str []),.p (.int .i64 0),.p (.str []),.nilsl,.nilsl,.p (.int .i64 0)]),(5,.vars 26 [.p (.bool R.1.neg),.p (.str R.1.digits),.p (.int .i64 R.1.scale)])],0⟩) ?_ ?_
 ·
  refine rgn [] [[],[],[2,4,5,6,30,31,32]] ?_
  iterate 3 refine op3 ?_
  refine qA (AW.block ?_)
  refine AW.loop (α:=Nat × Dc) (fun a=>a.1<=l.length/\R=qZC a.2 (l.drop a.1)/\zO a.2=true) (fun a=>⟨zA 50 [(2,.ptr 2 0),(4,.ptr 4 0),(5,.ptr 5 0),(6,.p (.int .i64 0)),(30,.p (.sl 9 (l.map Val.enc))),(31,.p (.int .i64 l.length)),(32,.p (.int .i64 a.1))],[],[(2,.vars 61 [.p (.int .u64 m)]),(4,.vars 31 [.p (.int .i64 0),.p (.int .u64 0),.p (.bool false),.p (.str []),.p (.int .i64 0),.p (.str []),.nilsl,.nilsl,.p (.int .i64 0)]),(5,.vars 26 [.p (.bool a.2.neg),.p (.str a.2.digits),.p (.int .i64 a.2.scale)])],0⟩) (fun a=>l.length-a.1) ((0,D0)) ⟨by simp,by simp[hRe],hm0⟩ ⟨qE (by simp),rfl,by simp,by simp⟩ ?_
  rintro⟨k,d⟩ ⟨hk,hs,hdm⟩
  simp only at hk hs hdm
  refine rgn [] [[]] ?_
  refine op3 ?_
  refine qA (AW.seq (cnd ?_ ?_))
  ·intro h33
   try simp at h33
   obtain⟨v,hv⟩:∃ v,l[k]?=some v:=⟨l[k]'(by omega),by simp[show k<l.length by omega]⟩
   have hvm:=hnum v (List.mem_of_getElem? hv)
   have had:=qVL (G:=G) d v.num (jB hdm).1 (jB hvm).1
   have hdr:l.drop k=v::l.drop (k+1):=by
    obtain⟨h1,h2⟩:=List.getElem?_eq_some_iff.1 hv
    rw[List.drop_eq_getElem_cons h1,h2]
   have hst:qZC d (l.drop k)=if(qHO d v.num).2≠0 then qHO d v.num else qZC (qHO d v.num).1 (l.drop (k+1)):=by rw[hdr];rfl
   have hmm:=fun h=>zRC (a:=d) (b:=v.num) h
   generalize qHO d v.num=R2 at *
   obtain⟨r,c⟩:=R2
   simp only[Dc.enc]at had hst hmm
   refine AW.skip (AW.seq (AW.block (rgn [v.enc] [[],[],[],[2,4,5,8,30,31,32]] ?_)))
   iterate 4 refine op3 ?_ (hv:=by first|exact True.intro|(simp[hv];done)|(simp[hv];omega);done|omega|simp)
   refine qA (rgn [.nilp,.tup [r.enc,.int .i64 c]] [[],[],[],[2,4,5,30,31,32,40],[],[],[],[],[2,4,5,6,30,31,32]] ?_)
   iterate 9 refine oq1 tok had ?_
   refine qA (rgn [] [[],[2,4,5,6,30,31,32,44]] ?_)
   iterate 2 refine op3 ?_
   refine qA (cnd ?_ ?_)
   ·intro h44
    try simp at h44
    rw[if_pos h44]at hst
    obtain rfl:=hs.trans hst
    refine AW.exit ?_
    simp[-exists_const, -exists_eq_left, -true_and, -exists_and_left, -exists_and_right]
    exact⟨(),trivial,qE (by simp),rfl,by simp,by simp⟩
   intro h44
   try simp at h44
   rw[if_neg (by simpa using h44)]at hst
   obtain rfl:c=0:=by simpa using h44
   refine AW.skip (rgz [] [[],[2,4,5,6,30,31,32]] ?_)
   iterate 2 refine op3 ?_
   refine qA ?_
   exact⟨(k+1,r),⟨by simp only;omega,hs.trans hst,hmm rfl⟩,by simp only;omega,qE (by simp),rfl,by simp,by simp⟩
  intro h33
  try simp at h33
  obtain rfl:k=l.length:=by omega
  rw[List.drop_length]at hs
  have hs2:R=(d,0):=hs
  subst hs2
  refine AW.exit ?_
  simp[-exists_const, -exists_eq_left, -true_and, -exists_and_left, -exists_and_right]
  exact⟨(),trivial,qE (by simp),rfl,by simp,by simp⟩
 ·
  rintro a hI
  have hr:=hr R
  refine rgn [.nilp,(vH R m).enc] [[],[],[],[4,49],[4]] ?_
  iterate 5 refine op3 ?_ (hv:=by first|exact True.intro|exact hr|(simp;done)|(simp at hr ⊢; exact hr);done|omega|simp)
  exact qA (AW.ret qI)
def zEF (v:Val) (m:Int):Val:=if(kR v).2=false then qQ 40 m else yT (!(kR v).1) m
structure CallOK (G:qR) (call arg:List UInt8) (v r:Val):Prop where
 len:call=[108,101,110,103,116,104]->AFn Tryz.prog G 31 [.agg [.int .u64 v.mask],v.enc] r.enc
 key:call=[107,101,121,115]->AFn Tryz.prog G 32 [.agg [.int .u64 v.mask],v.enc] r.enc
 not_:call=[110,111,116]->r=zEF v v.mask
 typ:call=[116,121,112,101]->∃ s,AFn Tryz.prog G 37 [.int .i64 v.kind] (.str s)/\r=wW s v.mask
 rev:call=[114,101,118,101,114,115,101]->(v.kind≠6->r=qQ 40 v.mask)/\(v.kind=6->AX Tryz.prog G 39 [.ms 890] [(890,.row 31 9 (v.kids.map Val.enc))] (.tuple []) [890] [(890,.row 31 9 (v.kids.reverse.map Val.enc))]/\v.kids.length<=1000000/\AFn Tryz.prog G 40 [.agg [.int .u64 v.mask],.sl 9 (v.kids.reverse.map Val.enc)] r.enc)
 tnu:call=[116,111,110,117,109,98,101,114]->(v.kind=4->r = .mk 4 v.mask v.num [] [] [] 0)/\(v.kind≠4->AFn Tryz.prog G 42 [.agg [.int .u64 v.mask],.str call,.str arg,v.enc] r.enc)
 num:call=[102,108,111,111,114]\/call=[99,101,105,108]\/call=[114,111,117,110,100]->AFn Tryz.prog G 43 [.agg [.int .u64 v.mask],.str call,v.enc] r.enc
 obj:call=[101,110,116,114,105,101,115]\/call=[104,97,115]->AFn Tryz.prog G 44 [.agg [.int .u64 v.mask],.str call,.str arg,v.enc] r.enc
 txt:call=[116,101,115,116]\/call=[115,116,97,114,116,115]\/call=[101,110,100,115]\/call=[115,112,108,105,116]->AFn Tryz.prog G 42 [.agg [.int .u64 v.mask],.str call,.str arg,v.enc] r.enc
 str:call=[116,111,115,116,114,105,110,103]->(v.kind=5->r=wW v.text (zJ v))/\(v.kind≠5->AFn Tryz.prog G 45 [.agg [.int .u64 (zJ v)],v.enc] r.enc)
 jsn:call=[116,111,106,115,111,110]->AFn Tryz.prog G 45 [.agg [.int .u64 (zJ v)],v.enc] r.enc
 lst:call ∉ [[108,101,110,103,116,104],[107,101,121,115],[110,111,116],[116,121,112,101],[114,101,118,101,114,115,101],[116,111,110,117,109,98,101,114],[102,108,111,111,114],[99,101,105,108],[114,111,117,110,100],[101,110,116,114,105,101,115],[104,97,115],[116,101,115,116],[115,116,97,114,116,115],[101,110,100,115],[115,112,108,105,116],[116,111,115,116,114,105,110,103],[116,111,106,115,111,110]]->AFn Tryz.prog G 46 [.agg [.int .u64 (zJ v)],.str call,.str arg,v.enc] r.enc
theorem qXN (call arg:List UInt8) (v r:Val) (h:CallOK G call arg v r):AFn Tryz.prog G 11 [.str call,.str arg,v.enc] (r.enc):=by
 refine AFn.introU tok Tryz.func11 (by kernel_rfl) rfl rfl ?_
 simp only[Tryz.f11,qG,List.map_cons,List.map_nil]
 obtain⟨f1,f2,f3,f4,f5,f6,f7,f8,f9,f10,f11,f12⟩:=h
 have hd:=zUF (G:=G) v
 simp only[Val.enc_def]at f1 f2 f5 f6 f7 f8 f9 f10 f11 f12 hd
 refine rgn [] [[],[0,1,5,6]] ?_
 iterate 2 refine op3 ?_
 refine qA ?_
 refine AW.seqDrawS tok mixed 9 [[5],[12],[13],[5],[15],[16],[],[],[7,14]] [.nilp,.int .u64 (zJ v)] [] (by kernel_rfl) ?_
 iterate 9 refine dq1 hd ?_
 refine DGo.nil (by kernel_rfl) ⟨by kernel_rfl, ?_⟩
 refine qB.run [[0,1,5,6,7,8]] ?_
 refine op3 ?_
 refine qA (AW.seq (rgn [] [[]] ?_))
 refine op3 ?_
 refine qA (AW.block (rgn [] [[],[0,1,5,6,7,8,18,19]] ?_))
 iterate 2 refine op3 ?_
 refine qA (cnd ?_ ?_)
 ·intro h19
  try simp at h19
  have f1:=f1 h19
  refine rgn [.nilp,r.enc] [[],[],[6,23],[6]] ?_
  iterate 4 refine oq1 tok f1 ?_
  exact qA (AW.ret qI)
 intro h19
 try simp at h19
 refine rgn [] [[],[0,1,5,6,7,8,18,24]] ?_
 iterate 2 refine op3 ?_
 refine qA (cnd ?_ ?_)
 ·intro h24
  try simp at h24
  have f2:=f2 h24
  refine rgn [.nilp,r.enc] [[],[],[6,28],[6]] ?_
  iterate 4 refine oq1 tok f2 ?_
  exact qA (AW.ret qI)
 intro h24
 try simp at h24
 refine rgn [] [[],[0,1,5,6,7,8,18,29]] ?_
 iterate 2 refine op3 ?_
 refine qA (cnd ?_ ?_)
 ·intro h29
  try simp at h29
  have f3:=f3 h29
  have ht:=qSW (G:=G) v
  have hf:=zT (G:=G) 40 v.mask
  have hx:=fun x=>qAM (G:=G) x v.mask
  unfold zEF at f3
  generalize kR v=tk at *
  obtain⟨t1,t2⟩:=tk
  simp only[Val.enc_def]at ht hf hx f3
  subst f3
  refine rgn [.nilp,.tup [.bool t1,.bool t2]] [[],[],[],[],[6,7,34,35],[],[6,7,9,10]] ?_
  iterate 7 refine oq1 tok ht ?_
  refine qA (AW.seq (rgn [] [[],[6,7,9,37]] ?_))
  iterate 2 refine op3 ?_
  refine qA (cnd ?_ ?_)
  ·intro h37
   try simp at h37
   rw[if_pos h37]
   refine rgn [.nilp,(qQ 40 v.mask).enc] [[],[],[6]] ?_
   iterate 3 refine oq1 tok hf ?_
   exact qA (AW.ret qI)
  intro h37
  try simp at h37
  rw[if_neg (by simp[h37])]
  have hx:=hx (!t1)
  generalize yT (!t1) v.mask=X at *
  refine AW.skip (rgn [.nilp,X.enc] [[],[],[],[6,43],[6]] ?_)
  iterate 5 refine op3 ?_ (hv:=by first|exact True.intro|exact hx|(simp at hx ⊢; exact hx);done|omega|simp)
  exact qA (AW.ret qI)
 intro h29
 try simp at h29
 refine rgn [] [[],[0,1,5,6,7,8,18,44]] ?_
 iterate 2 refine op3 ?_
 refine qA (cnd ?_ ?_)
 ·intro h44
  try simp at h44
  obtain⟨s,g4,rfl⟩:=f4 h44
  have hw:=qCT (G:=G) s v.mask
  generalize wW s v.mask=W at *
  simp only[Val.enc_def]at hw
  refine AW.seqRunDrawK tok mixed [6] 5 [[7],[5],[47],[48],[46,49]] [.nilp,.str s,.nilp,W.enc] [] (by kernel_rfl) (by intro C;conv=>lhs;simp) (by exact⟨g4,hw⟩) (by simp[Sm.sum,Sm.foot,Sm.tch,Sm.refs];kernel_rfl) (by intro C;conv=>lhs;simp) (by first|exact True.intro|omega|simp) ?_
  exact AW.ret qI
 intro h44
 try simp at h44
 refine rgn [] [[],[0,1,5,6,7,8,18,51]] ?_
 iterate 2 refine op3 ?_
 refine qA (cnd ?_ ?_)
 ·intro h51
  try simp at h51
  obtain⟨f5,f5b⟩:=f5 h51
  refine AW.seq (rgn [] [[],[],[5,6,7,55]] ?_)
  iterate 3 refine op3 ?_
  refine qA (cnd ?_ ?_)
  ·intro h55
   try simp at h55
   have f5:=f5 h55
   subst f5
   have hf:=zT (G:=G) 40 v.mask
   simp only[Val.enc_def]at hf
   refine rgn [.nilp,(qQ 40 v.mask).enc] [[],[],[6]] ?_
   iterate 3 refine oq1 tok hf ?_
   exact qA (AW.ret qI)
  intro h55
  try simp at h55
  obtain⟨g1,g2,g3⟩:=f5b (by simpa using h55)
  have hcl:=jW (G:=G) v.kids (by omega)
  refine AW.skip (rgn [.nilf,.sl 9 (v.kids.map Val.enc),.clo 31 []] [[],[],[],[6,7,11]] ?_)
  iterate 4 refine oq1 tok hcl ?_
  refine qA ?_
  refine AW.renE 60 890 (by simp) (by conv=>lhs;simp) ?_
  refine rgn [] [[]] ?_
  refine op3 ?_
  refine qJ ?_
  refine qB.stepK [6,7,11] (zF rfl g1 (by simp)) (by conv=>lhs;simp) rfl ?_
  refine qB.nil ?_
  refine AW.freezeE 890 (by conv=>lhs;simp) ?_
  refine rgn [.nilp,r.enc] [[],[],[6,65],[6]] ?_
  iterate 4 refine op3 ?_ (hv:=by first|exact True.intro|exact g3|(simp[List.map_reverse]at g3 ⊢; exact g3);done|omega|simp)
  exact qA (AW.ret qI)
 intro h51
 try simp at h51
 refine rgn [] [[],[0,1,5,6,7,8,18,66]] ?_
 iterate 2 refine op3 ?_
 refine qA (cnd ?_ ?_)
 ·intro h66
  try simp at h66
  obtain⟨f6,f6b⟩:=f6 h66
  refine AW.seq (rgn [] [[],[],[0,1,5,6,7,70]] ?_)
  iterate 3 refine op3 ?_
  refine qA (cnd ?_ ?_)
  ·intro h70
   try simp at h70
   have f6:=f6 h70
   have hn:=vT (G:=G) (v.num,0) v.mask
   have e:vH (v.num,0) v.mask = .mk 4 v.mask v.num [] [] [] 0:=rfl
   rw[e,<-f6]at hn
   simp only[Val.enc_def,Dc.enc]at hn
   refine rgn [.nilp,r.enc] [[],[],[],[6,74],[6]] ?_
   iterate 5 refine oq1 tok hn ?_
   exact qA (AW.ret qI)
  intro h70
  try simp at h70
  have f6b:=f6b h70
  refine AW.skip (rgn [.nilp,r.enc] [[],[],[],[6,75,76,77,78],[6,79],[6]] ?_)
  iterate 6 refine oq1 tok f6b ?_
  exact qA (AW.ret qI)
 intro h66
 try simp at h66
 refine AW.seq (rgn [] [[],[0,1,5,6,7,8,18,80]] ?_)
 iterate 2 refine op3 ?_
 refine qA (cnd ?_ ?_)
 ·intro h80
  try simp at h80
  have g7:=f7 (by first|exact .inl h80|exact .inr (.inl h80)|exact .inr (.inr h80)|simp_all)
  refine AW.skip (cnd ?_ ?_)
  ·intro h80
   try simp at h80
   have g7:=f7 (by first|exact .inl h80|exact .inr (.inl h80)|exact .inr (.inr h80)|simp_all)
   refine rgn [.nilp,r.enc] [[],[],[],[6,87],[6]] ?_
   iterate 5 refine oq1 tok g7 ?_
   exact qA (AW.ret qI)
  intro h80
  try simp at h80
  contradiction
 intro h80
 try simp at h80
 refine rgn [] [[],[0,1,5,6,7,8,18,80]] ?_
 iterate 2 refine op3 ?_
 refine qA (cnd ?_ ?_)
 ·intro h80
  try simp at h80
  have g7:=f7 (by first|exact .inl h80|exact .inr (.inl h80)|exact .inr (.inr h80)|simp_all)
  refine AW.skip (cnd ?_ ?_)
  ·intro h80
   try simp at h80
   have g7:=f7 (by first|exact .inl h80|exact .inr (.inl h80)|exact .inr (.inr h80)|simp_all)
   refine rgn [.nilp,r.enc] [[],[],[],[6,87],[6]] ?_
   iterate 5 refine oq1 tok g7 ?_
   exact qA (AW.ret qI)
  intro h80
  try simp at h80
  contradiction
 intro h80
 try simp at h80
 refine rgz [] [[],[0,1,5,6,7,8,18,80]] ?_
 iterate 2 refine op3 ?_
 refine qA (cnd ?_ ?_)
 ·intro h80
  try simp at h80
  have g7:=f7 (by first|exact .inl h80|exact .inr (.inl h80)|exact .inr (.inr h80)|simp_all)
  refine rgn [.nilp,r.enc] [[],[],[],[6,87],[6]] ?_
  iterate 5 refine oq1 tok g7 ?_
  exact qA (AW.ret qI)
 intro h80
 try simp at h80
 refine AW.seq (rgn [] [[],[0,1,5,6,7,8,18,88]] ?_)
 iterate 2 refine op3 ?_
 refine qA (cnd ?_ ?_)
 ·intro h88
  try simp at h88
  have g8:=f8 (by first|exact .inl h88|exact .inr h88|simp_all)
  refine AW.skip (cnd ?_ ?_)
  ·intro h88
   try simp at h88
   have g8:=f8 (by first|exact .inl h88|exact .inr h88|simp_all)
   refine rgn [.nilp,r.enc] [[],[],[],[6,91,92,93,94],[6,95],[6]] ?_
   iterate 6 refine oq1 tok g8 ?_
   exact qA (AW.ret qI)
  intro h88
  try simp at h88
  contradiction
 intro h88
 try simp at h88
 refine rgz [] [[],[0,1,5,6,7,8,18,88]] ?_
 iterate 2 refine op3 ?_
 refine qA (cnd ?_ ?_)
 ·intro h88
  try simp at h88
  have g8:=f8 (by first|exact .inl h88|exact .inr h88|simp_all)
  refine rgn [.nilp,r.enc] [[],[],[],[6,91,92,93,94],[6,95],[6]] ?_
  iterate 6 refine oq1 tok g8 ?_
  exact qA (AW.ret qI)
 intro h88
 try simp at h88
 refine AW.seq (rgn [] [[],[0,1,5,6,7,8,18,96]] ?_)
 iterate 2 refine op3 ?_
 refine qA (cnd ?_ ?_)
 ·intro h96
  try simp at h96
  have g9:=f9 (by first|exact .inl h96|exact .inr (.inl h96)|exact .inr (.inr (.inl h96))|exact .inr (.inr (.inr h96))|simp_all)
  refine AW.skip (cnd ?_ ?_)
  ·intro h96
   try simp at h96
   have g9:=f9 (by first|exact .inl h96|exact .inr (.inl h96)|exact .inr (.inr (.inl h96))|exact .inr (.inr (.inr h96))|simp_all)
   refine rgn [.nilp,r.enc] [[],[],[],[6,101,102,103,104],[6,105],[6]] ?_
   iterate 6 refine oq1 tok g9 ?_
   exact qA (AW.ret qI)
  intro h96
  try simp at h96
  contradiction
 intro h96
 try simp at h96
 refine rgn [] [[],[0,1,5,6,7,8,18,96]] ?_
 iterate 2 refine op3 ?_
 refine qA (cnd ?_ ?_)
 ·intro h96
  try simp at h96
  have g9:=f9 (by first|exact .inl h96|exact .inr (.inl h96)|exact .inr (.inr (.inl h96))|exact .inr (.inr (.inr h96))|simp_all)
  refine AW.skip (cnd ?_ ?_)
  ·intro h96
   try simp at h96
   have g9:=f9 (by first|exact .inl h96|exact .inr (.inl h96)|exact .inr (.inr (.inl h96))|exact .inr (.inr (.inr h96))|simp_all)
   refine rgn [.nilp,r.enc] [[],[],[],[6,101,102,103,104],[6,105],[6]] ?_
   iterate 6 refine oq1 tok g9 ?_
   exact qA (AW.ret qI)
  intro h96
  try simp at h96
  contradiction
 intro h96
 try simp at h96
 refine rgn [] [[],[0,1,5,6,7,8,18,96]] ?_
 iterate 2 refine op3 ?_
 refine qA (cnd ?_ ?_)
 ·intro h96
  try simp at h96
  have g9:=f9 (by first|exact .inl h96|exact .inr (.inl h96)|exact .inr (.inr (.inl h96))|exact .inr (.inr (.inr h96))|simp_all)
  refine AW.skip (cnd ?_ ?_)
  ·intro h96
   try simp at h96
   have g9:=f9 (by first|exact .inl h96|exact .inr (.inl h96)|exact .inr (.inr (.inl h96))|exact .inr (.inr (.inr h96))|simp_all)
   refine rgn [.nilp,r.enc] [[],[],[],[6,101,102,103,104],[6,105],[6]] ?_
   iterate 6 refine oq1 tok g9 ?_
   exact qA (AW.ret qI)
  intro h96
  try simp at h96
  contradiction
 intro h96
 try simp at h96
 refine rgz [] [[],[0,1,5,6,7,8,18,96]] ?_
 iterate 2 refine op3 ?_
 refine qA (cnd ?_ ?_)
 ·intro h96
  try simp at h96
  have g9:=f9 (by first|exact .inl h96|exact .inr (.inl h96)|exact .inr (.inr (.inl h96))|exact .inr (.inr (.inr h96))|simp_all)
  refine rgn [.nilp,r.enc] [[],[],[],[6,101,102,103,104],[6,105],[6]] ?_
  iterate 6 refine oq1 tok g9 ?_
  exact qA (AW.ret qI)
 intro h96
 try simp at h96
 refine rgn [] [[],[0,1,5,6,8,18,106]] ?_
 iterate 2 refine op3 ?_
 refine qA (cnd ?_ ?_)
 ·intro h106
  try simp at h106
  obtain⟨f10,f10b⟩:=f10 h106
  refine AW.seq (rgn [] [[],[],[5,6,8,110]] ?_)
  iterate 3 refine op3 ?_
  refine qA (cnd ?_ ?_)
  ·intro h110
   try simp at h110
   have f10:=f10 h110
   subst f10
   have hw:=qCT (G:=G) v.text (zJ v)
   generalize wW v.text (zJ v)=W at *
   simp only[Val.enc_def]at hw
   refine rgn [.nilp,W.enc] [[],[],[],[6,114],[6]] ?_
   iterate 5 refine oq1 tok hw ?_
   exact qA (AW.ret qI)
  intro h110
  try simp at h110
  have f10b:=f10b h110
  refine AW.skip (rgn [.nilp,r.enc] [[],[],[6,117],[6]] ?_)
  iterate 4 refine oq1 tok f10b ?_
  exact qA (AW.ret qI)
 intro h106
 try simp at h106
 refine rgn [] [[],[0,1,5,6,8,118]] ?_
 iterate 2 refine op3 ?_
 refine qA (cnd ?_ ?_)
 ·intro h118
  try simp at h118
  have f11:=f11 h118
  refine rgn [.nilp,r.enc] [[],[],[6,122],[6]] ?_
  iterate 4 refine oq1 tok f11 ?_
  exact qA (AW.ret qI)
 intro h118
 try simp at h118
 have f12:=f12 (by simp[*])
 refine AW.skip (rgn [.nilp,r.enc] [[],[],[],[6,123,124,125,126],[6,127],[6]] ?_)
 iterate 6 refine oq1 tok f12 ?_
 exact qA (AW.ret qI)
theorem zPK:zIQ Tryz.prog 196 Extern.BytealgCount.count:=fun args w=>run_callFunc_extern Tryz.func196 (by kernel_rfl) (by kernel_rfl) (by kernel_rfl) (by kernel_rfl) args w
theorem zRQ (s:List UInt8) (c:UInt8):AFn Tryz.prog G 153 [.str s,.str [c]] (.int .i64 (s.count c:Nat)):=by
 refine AFn.introU tok Tryz.func153 (by kernel_rfl) rfl rfl ?_
 simp only[Tryz.f153,qG,List.map_cons,List.map_nil]
 refine rgn [] [[0,1]] ?_
 refine op3 ?_
 refine qA (AW.seq (rgn [] [[],[],[0,1,9]] ?_))
 iterate 3 refine op3 ?_
 refine qA (cnd ?_ ?_)
 ·intro h9
  try simp at h9
 intro h9
 try simp at h9
 refine AW.skip (AW.seq (rgn [] [[],[],[0,1,15]] ?_))
 iterate 3 refine op3 ?_
 refine qA (cnd ?_ ?_)
 ·intro h15
  try simp at h15
  refine rgn [.int .u8 c.toNat] [[],[],[]] ?_
  iterate 3 refine op3 ?_
  refine qJ ?_
  refine qB.stepK [19] (qRV (s:=s) (n:=c.toNat) (p:=True) (q:=True) (r:=True) zPK rfl (by simp) trivial (by simp) trivial (by simp) trivial) (by conv=>lhs;simp) rfl ?_
  refine qB.run [[4]] ?_
  refine op3 ?_
  exact qA (AW.ret qI)
 intro h15
 try simp at h15
theorem zJS (s:List UInt8) (c:UInt8):AFn Tryz.prog G 197 [.str s,.str [c]] (.int .i64 (Lib.indexByte s c)):=by
 refine AFn.introU tok Tryz.func197 (by kernel_rfl) rfl rfl ?_
 simp only[Tryz.f197,qG,List.map_cons,List.map_nil]
 refine rgn [] [[0,1]] ?_
 refine op3 ?_
 refine qA (rgn [] [[],[],[0,1,5]] ?_)
 iterate 3 refine op3 ?_
 refine qA (AW.seq (AW.block (rgn [] [[],[],[],[],[],[0,1,5,19,22],[],[0,1,5,16]] ?_)))
 iterate 3 refine op3 ?_
 iterate 3 refine op4 ?_
 iterate 2 refine op3 ?_
 refine qA (cnd ?_ ?_)
 ·intro h16
  try simp at h16
  subst h16
  refine rgn [] [[]] ?_
  refine op3 ?_
  refine qA ?_
  exact AW.ret (qI (k:=by simp[Lib.indexByte]))
 intro h16
 try simp at h16
 refine rgn [] [[],[],[0,1,5,24]] ?_
 iterate 3 refine op3 ?_
 refine qA (cnd ?_ ?_)
 ·intro h24
  try simp at h24
  refine rgn [.int .u8 c.toNat,.nilp,.int .i64 (Lib.indexByte s c)] [[],[],[],[30],[4]] ?_
  iterate 5 refine op3 ?_ (hv:=by first|exact True.intro|(have:=qRX (G:=G) s c.toNat;simpa using this)|simp;done|omega|simp)
  exact qA (AW.ret qI)
 intro h24
 try simp at h24
theorem zRM (s:List UInt8) (c:UInt8):AFn Tryz.prog G 154 [.str s,.str [c]] (.int .i64 (Lib.indexByte s c)):=by
 refine AFn.introU tok Tryz.func154 (by kernel_rfl) rfl rfl ?_
 simp only[Tryz.f154,qG,List.map_cons,List.map_nil]
 refine rgn [] [[0,1]] ?_
 refine op3 ?_
 refine qA (rgn [.nilp,.int .i64 (Lib.indexByte s c)] [[],[],[7],[4]] ?_)
 iterate 4 refine op3 ?_ (hv:=by first|exact True.intro|(exact zJS s c;done)|omega|simp)
 exact qA (AW.ret qI)
theorem qDR {α β:Type} (f:α->β) (l:List α) (x y:β) (r:List β):(l.map f++x::r).set l.length y=l.map f++y::r:=by
 rw[List.set_append_right _ _ (by simp)];simp
theorem qBW {α β:Type} (f:α->β) (l:List α) (x:β) (r:List β):(l.map f++x::r)[l.length]?=some x:=by
 rw[List.getElem?_append_right (by simp)];simp
theorem zBM (s:List UInt8) (c:UInt8) (hs:s.length<=1000000000):AX Tryz.prog G 109 [.p (.str s),.p (.str [c]),.p (.int .i64 0),.p (.int .i64 (-1))] [] (.ms 91) [] [(91,.row 9 1 ((splitB c s).map PD.str))]:=by
 refine AX.introU tok 60 Tryz.func109 (by kernel_rfl) rfl rfl ?_
 simp only[Tryz.f109,qG,List.map_cons,List.map_nil]
 have hC:=zRQ (G:=G) s c
 have hcl:s.count c<=s.length:=List.count_le_length
 have hsl:=qPH c s
 generalize hN:s.count c=N at *
 have hlt:¬ s.length<N:=by omega
 refine rgn [] [[0,1,2,3]] ?_
 refine op3 ?_
 refine qA (AW.seq (rgn [] [[],[0,1,2,3,13]] ?_))
 iterate 2 refine op3 ?_
 refine qA (cnd ?_ ?_)
 ·intro h13
  try simp at h13
 intro h13
 try simp at h13
 refine AW.skip (AW.seq (rgn [] [[],[0,1,2,3,15]] ?_))
 iterate 2 refine op3 ?_
 refine qA (cnd ?_ ?_)
 ·intro h15
  try simp at h15
 intro h15
 try simp at h15
 refine AW.skip (AW.seq (rgn [] [[],[0,1,2,3,20]] ?_))
 iterate 2 refine op3 ?_
 refine qA (cnd ?_ ?_)
 ·intro h20
  try simp at h20
  refine rgz [.nilp,.int .i64 N] [[],[],[],[],[0,1,2,3]] ?_
  iterate 5 refine oq1 tok hC ?_
  refine qA (rgn [] [[],[],[],[],[0,1,2,29],[0,1,2,3]] ?_)
  iterate 6 refine op3 ?_
  refine qA (rgn [.str []] [[],[],[0,1,2,3,9]] ?_)
  iterate 3 refine op3 ?_
  refine qA (rgn [] [[],[],[0,1,2,3,9]] ?_)
  iterate 3 refine op3 ?_
  refine qA (rgn [] [[]] ?_)
  refine op3 ?_
  refine qA (AW.seq (AW.block ?_))
  refine AW.loop (α:=List (List UInt8) × List UInt8) (fun a=>splitB c s=a.1++splitB c a.2/\a.1.length+a.2.count c=N/\a.2.length<=s.length) (fun a=>⟨zA 66 [(0,.p (.str a.2)),(1,.p (.str [c])),(2,.p (.int .i64 0)),(3,.p (.int .i64 N)),(9,.ms 91),(10,.p (.int .i64 a.1.length))],[],[(91,.row 9 1 (a.1.map PD.str ++ .str []::List.replicate (N-a.1.length) (.str [])))],60⟩) (fun a=>N-a.1.length) (([],s)) ⟨by simp,by simpa using hN,by simp⟩ ⟨qE (by simp[hlt]),rfl,by simp[hlt,List.replicate_succ],by simp[hlt]⟩ ?_
  rintro⟨done,r⟩ ⟨hsp,hcn,hrl⟩
  simp only at hsp hcn hrl
  have hI:=zRM (G:=G) r c
  refine AW.seq (rgn [] [[],[],[0,1,2,3,9,10,36]] ?_)
  iterate 3 refine op3 ?_
  refine qA (cnd ?_ ?_)
  ·intro h36
   try simp at h36
   have hm:c∈r:=by
    apply Classical.byContradiction;intro h
    have:=List.count_eq_zero.2 h;omega
   obtain⟨a,q,rfl,hn⟩:=zKQ hm
   rw[qTD hn]at hsp
   rw[zPW hn]at hcn
   simp only[List.length_append,List.length_cons]at hrl
   rw[qLS hn]at hI
   have hrep:List.replicate (N-done.length) (PD.str [])=PD.str []::List.replicate (N-(done.length+1)) (PD.str []):=by
    rw[show N-done.length=(N-(done.length+1))+1 by omega,List.replicate_succ]
   have hdq:List.drop (a.length+1) (List.take ((a.length:Int)+((q.length:Int)+1)).toNat (a++c::q))=q:=by
    rw[List.take_of_length_le (by simp;omega)];simp
   refine AW.skip (AW.block (rgn [.nilp,.int .i64 a.length] [[],[],[],[0,1,2,3,9,10,11]] ?_))
   iterate 4 refine oq1 tok hI ?_
   refine qA (AW.seq (rgn [] [[],[0,1,2,3,9,10,11,41]] ?_))
   iterate 2 refine op3 ?_
   refine qA (cnd ?_ ?_)
   ·intro h41
    try simp at h41
    omega
   intro h41
   try simp at h41
   refine AW.skip (rgn [.str [],.str a] [[],[],[],[],[],[],[0,1,2,3,9,10,11,42,43,48],[],[0,1,2,3,9,10,11]] ?_)
   iterate 9 refine op3 ?_ (hv:=by first|exact True.intro|(simp[qBW];done)|(simp[qBW];omega);done|omega|simp)
   refine qA (rgn [] [[],[],[],[],[1,2,3,9,10,50,54],[],[0,1,2,3,9,10]] ?_)
   iterate 7 refine op3 ?_
   refine qA (rgz [] [[],[],[0,1,2,3,9,10]] ?_)
   iterate 3 refine op3 ?_
   refine qA ?_
   exact⟨(done++[a],q),⟨by simp[hsp],by simp;omega,by simp only[];omega⟩,by simp;omega,qE (by simp[qDR,hrep,hdq]),rfl,by simp[qDR,hrep,hdq],by simp[qDR,hrep,hdq]⟩
  intro h36
  try simp at h36
  have hm:c ∉ r:=by
   intro h
   have:=List.count_pos_iff.2 h;omega
  rw[qTC hm]at hsp
  have hdl:done.length=N:=by have:=List.count_eq_zero.2 hm;omega
  subst hdl
  have hfin:List.take (done.length+1) (List.map PD.str done++[PD.str r])=List.map PD.str (splitB c s):=by
   rw[hsp,List.take_of_length_le (by simp)];simp
  refine AW.exit ?_
  simp
  refine rgn [.str [],.str r] [[],[],[],[],[9,10]] ?_
  iterate 5 refine op3 ?_ (hv:=by first|exact True.intro|(simp[qBW];done)|(simp[qBW];omega);done|omega|simp)
  refine qA (rgn [] [[],[],[]] ?_)
  iterate 3 refine op3 ?_
  refine qJ ?_
  refine qB.stepK [65] (qYH tok rfl rfl (done.length+1) (by conv=>lhs;simp) trivial (by conv=>lhs;simp) trivial rfl (by conv=>lhs;simp[qDR]) (by simp) (by omega)) (by conv=>lhs;simp[hfin]) rfl ?_
  refine qB.run [[8]] ?_
  refine op3 ?_
  refine qA ?_
  exact AW.ret qZ
 intro h20
 try simp at h20
theorem zBN (s:List UInt8) (c:UInt8) (hs:s.length<=1000000000):AR Tryz.prog G 109 [.str s,.str [c],.int .i64 0,.int .i64 (-1)] 9 1 ((splitB c s).map PD.str):=AR.of_AX (k:=91) (by simpa using zBM s c hs)
theorem zRH (s:List UInt8) (c:UInt8) (hs:s.length<=1000000000):AX Tryz.prog G 75 [.p (.str s),.p (.str [c])] [] (.ms 67) [] [(67,.row 9 1 ((splitB c s).map PD.str))]:=by
 refine AX.introU tok 60 Tryz.func75 (by kernel_rfl) rfl rfl ?_
 simp only[Tryz.f75,qG,List.map_cons,List.map_nil]
 have hG:=zBN (G:=G) s c hs
 refine rgn [] [[0,1]] ?_
 refine op3 ?_
 refine qA (rgn [.nilf,.sl 1 ((splitB c s).map PD.str),.clo 9 []] [[],[],[7],[4]] ?_)
 iterate 4 refine op3 ?_ (hv:=by first|exact True.intro|exact hG|(simp;exact hG);done|omega|simp)
 refine qA ?_
 exact AW.ret qZ
def qFG (ws:List (List UInt8)) (m:Int):Val:=yE (ws.map fun s=>wW s 0) m
theorem qTT (sep:List UInt8) (parts:List (List UInt8)) (v:Val) (m:Int) (hs:v.kind=5->AFn Tryz.prog G 75 [.str v.text,.str sep] (.sl 1 (parts.map PD.str))) (hn:parts.length<=1000000):AFn Tryz.prog G 42 [.agg [.int .u64 m],.str [115,112,108,105,116],.str sep,v.enc] ((if v.kind=5 then qFG parts m else qQ 40 m).enc):=by
 refine AFn.introU tok Tryz.func42 (by kernel_rfl) rfl rfl ?_
 simp only[Tryz.f42,qG,List.map_cons,List.map_nil]
 have hf:=zT (G:=G) 40 m
 have he:=zIA (G:=G) parts m hn
 have e:qFG parts m=yE (parts.map fun s=>wW s 0) m:=rfl
 rw[<-e]at he
 generalize qFG parts m=W at *
 simp only[Val.enc_def]at hf he
 refine rgn [] [[],[],[1,2,4,7,8]] ?_
 iterate 3 refine op3 ?_
 refine qA (AW.seq (rgn [] [[],[],[1,2,4,7,8,13]] ?_))
 iterate 3 refine op3 ?_
 refine qA (cnd ?_ ?_)
 ·intro h13
  try simp at h13
  rw[if_neg (by simpa using h13)]
  refine rgn [.nilp,(qQ 40 m).enc] [[],[],[8]] ?_
  iterate 3 refine oq1 tok hf ?_
  exact qA (AW.ret qI)
 intro h13
 try simp at h13
 rw[if_pos (by simpa using h13)]
 have hs:=hs (by simpa using h13)
 refine AW.skip (AW.seq (rgn [] [[2,4,7,8,16]] ?_))
 refine op3 ?_
 refine qA (AW.block (rgn [] [[],[2,4,7,8,16,17]] ?_))
 iterate 2 refine op3 ?_
 refine qA (cnd ?_ ?_)
 ·intro h17
  try simp at h17
 intro h17
 try simp at h17
 refine rgn [] [[],[2,4,7,8,16,34]] ?_
 iterate 2 refine op3 ?_
 refine qA (cnd ?_ ?_)
 ·intro h34
  try simp at h34
 intro h34
 try simp at h34
 refine rgn [] [[],[2,4,7,8,16,42]] ?_
 iterate 2 refine op3 ?_
 refine qA (cnd ?_ ?_)
 ·intro h42
  try simp at h42
 intro h42
 try simp at h42
 refine rgn [] [[],[2,4,7,8,50]] ?_
 iterate 2 refine op3 ?_
 refine qA (cnd ?_ ?_)
 ·intro h50
  try simp at h50
 intro h50
 try simp at h50
 refine AW.skip ?_
 refine AW.seqDrawR mixed 8 [[4],[7],[60],[2],[61,62],[],[64],[59,63,65]] [W.enc] (by kernel_rfl) ?_
 iterate 4 refine qS.o0 tok (hv:=by first|exact True.intro|exact hs|(simp;done);done|omega|simp) (k := ?_)
 refine qS.o1 tok (orc:=[.nilp,.sl 1 (parts.map PD.str)]) (hv:=by first|exact True.intro|exact hs|(simp;done);done|omega|simp) (k := ?_)
 iterate 2 refine qS.o0 tok (hv:=by first|exact True.intro|exact hs|(simp;done);done|omega|simp) (k := ?_)
 refine qS.call [] he rfl rfl (by simp) (by simp) (by simp) (by simp) (by simp) (by first|(simp;done)|(simp;omega)) (by first|(simp;done)|(simp;omega)) (by kernel_rfl) (by conv=>lhs;simp) ?_
 refine qS.nil (by kernel_rfl) ⟨by kernel_rfl, ?_⟩
 refine qB.run [[8]] ?_
 refine op3 ?_
 exact qA (AW.ret qI)
theorem qNB (arg:List UInt8) (v:Val) (m:Int) (hn:v.kids.length<=1000000) (hj:(Lib.join (v.kids.map Val.text) []).length<=1000000000) (hm:∀ k∈v.kids,zX k=true):AFn Tryz.prog G 46 [.agg [.int .u64 m],.str [97,100,100],.str arg,v.enc] ((if v.kind=6 then qSK v.kids m else qQ 40 m).enc):=by
 refine AFn.introU tok Tryz.func46 (by kernel_rfl) rfl rfl ?_
 simp only[Tryz.f46,qG,List.map_cons,List.map_nil]
 have hf:=zT (G:=G) 40 m
 have hc:=jW (G:=G) v.kids (by omega)
 have ha:=zTR (G:=G) v.kids m hn hj hm
 generalize qSK v.kids m=W at *
 simp only[Val.enc_def]at hf ha
 refine rgn [] [[],[],[1,2,4,7,8]] ?_
 iterate 3 refine op3 ?_
 refine qA (AW.seq (rgn [] [[],[],[1,2,4,7,8,12]] ?_))
 iterate 3 refine op3 ?_
 refine qA (cnd ?_ ?_)
 ·intro h12
  try simp at h12
  rw[if_neg (by simpa using h12)]
  refine rgn [.nilp,(qQ 40 m).enc] [[],[],[8]] ?_
  iterate 3 refine oq1 tok hf ?_
  exact qA (AW.ret qI)
 intro h12
 try simp at h12
 rw[if_pos (by simpa using h12)]
 refine AW.skip (rgn [.nilf,.sl 9 (v.kids.map Val.enc),.clo 31 []] [[],[],[],[1,2,4,8,9]] ?_)
 iterate 4 refine oq1 tok hc ?_
 refine qA (AW.seq (rgn [] [[]] ?_))
 refine op3 ?_
 refine qA (AW.block (rgn [] [[],[1,2,4,8,9,18,19]] ?_))
 iterate 2 refine op3 ?_
 refine qA (cnd ?_ ?_)
 ·intro h19
  try simp at h19
 intro h19
 try simp at h19
 refine rgn [] [[],[1,2,4,8,9,18,26]] ?_
 iterate 2 refine op3 ?_
 refine qA (cnd ?_ ?_)
 ·intro h26
  try simp at h26
 intro h26
 try simp at h26
 refine rgn [] [[],[1,2,4,8,9,18,34]] ?_
 iterate 2 refine op3 ?_
 refine qA (cnd ?_ ?_)
 ·intro h34
  try simp at h34
  refine AW.freezeE 17 (by conv=>lhs;simp) ?_
  refine rgn [.nilp,W.enc] [[],[],[8,38],[8]] ?_
  iterate 4 refine oq1 tok ha ?_
  exact qA (AW.ret qI)
 intro h34
 try simp at h34
def n1:Dc:=⟨false,[49],0⟩
def n25:Dc:=⟨false,[50,53],1⟩
def exN (d:Dc):Val := .mk 4 0 d [] [] [] 0
def exL:Val := .mk 6 0 dc0 [] [] [exN n1,exN n25] 0
def exT:Val := .mk 5 0 dc0 [97,44,98] [] [] 0
theorem zHY {d:Dc} (h:zO d=true):zX (exN d)=true:=by
 rw[qBV];simp[exN,qEO,qDU,zID,zOB,qYY,qLP,zHQ,h]
theorem zOW:qFV 0=⟨false,[48],0⟩:=by unfold qFV;rw[show(0:Int).natAbs=0 from rfl,qDC];rfl
theorem zXW:qZC ⟨false,[48],0⟩ exL.kids=(⟨false,[51,53],1⟩,0):=by decide +kernel
theorem zXX:qSK exL.kids 0 = .mk 4 0 ⟨false,[51,53],1⟩ [] [] [] 0:=by
 unfold qSK
 rw[if_neg (by decide),if_neg (by decide +kernel),if_neg (by decide +kernel),zOW,zXW];rfl
theorem zPL:qFG (splitB 44 [97,44,98]) 0 = .mk 6 0 dc0 [] [] [.mk 5 0 dc0 [97] [] [] 0,.mk 5 0 dc0 [98] [] [] 0] 0:=by kernel_rfl
theorem zQG (v:Val) (r:Val) (h:AFn Tryz.prog G 46 [.agg [.int .u64 (zJ v)],.str [97,100,100],.str [],v.enc] r.enc):AFn Tryz.prog G 11 [.str [97,100,100],.str [],v.enc] r.enc :=
 qXN [97,100,100] [] v r ⟨fun h=>absurd h (by decide),fun h=>absurd h (by decide),fun h=>absurd h (by decide),fun h=>absurd h (by decide),fun h=>absurd h (by decide),fun h=>absurd h (by decide),fun h=>absurd h (by decide),fun h=>absurd h (by decide),fun h=>absurd h (by decide),fun h=>absurd h (by decide),fun h=>absurd h (by decide),fun _=>h⟩
theorem zFV (sep:List UInt8) (v:Val) (r:Val) (h:AFn Tryz.prog G 42 [.agg [.int .u64 v.mask],.str [115,112,108,105,116],.str sep,v.enc] r.enc):AFn Tryz.prog G 11 [.str [115,112,108,105,116],.str sep,v.enc] r.enc :=
 qXN [115,112,108,105,116] sep v r ⟨fun h=>absurd h (by decide),fun h=>absurd h (by decide),fun h=>absurd h (by decide),fun h=>absurd h (by decide),fun h=>absurd h (by decide),fun h=>absurd h (by decide),fun h=>absurd h (by decide),fun h=>absurd h (by decide),fun _=>h,fun h=>absurd h (by decide),fun h=>absurd h (by decide),fun h=>absurd (by decide) h⟩
theorem zJH (s:List UInt8):AFn Tryz.prog G 20 [.str s] ((Val.mk 5 0 dc0 s [] [] 0).enc):=by
 refine AFn.introU tok Tryz.func20 (by kernel_rfl) rfl rfl ?_
 simp only[Tryz.f20,qG,List.map_cons,List.map_nil]
 refine rgn [] [[]] ?_
 refine op3 ?_
 refine qA (rgn [] [[],[],[2]] ?_)
 iterate 3 refine op3 ?_
 refine qA ?_
 exact AW.ret (qI (k:=by simp[dc0]))
theorem zDW  : AFn Tryz.prog G 9 [] (.bool true):=by
 refine AFn.introU tok Tryz.func9 (by kernel_rfl) rfl rfl ?_
 simp only[Tryz.f9,qG,List.map_cons,List.map_nil]
 have ht:=zJH (G:=G) [97,44,98]
 have hsp:AFn Tryz.prog G 75 [.str [97,44,98],.str [44]] (.sl 1 ((splitB 44 [97,44,98]).map PD.str)):=AFn.of_AX (k:=67) (by simpa using zRH (G:=G) [97,44,98] 44 (by decide))
 have h2:=zFV (G:=G) [44] exT _ (qTT [44] (splitB 44 [97,44,98]) exT 0 (fun _=>hsp) (by decide))
 rw[if_pos (show exT.kind=5 from rfl),zPL]at h2
 have m1:zX (exN n1)=true:=zHY (by decide +kernel)
 have m2:zX (exN n25)=true:=zHY (by decide +kernel)
 have h1:=zQG (G:=G) exL _ (qNB [] exL (zJ exL) (by decide) (by decide) (fun k hk=>by
  rcases List.mem_cons.1 hk with rfl|hk
  ·exact m1
  rw[List.mem_singleton.1 hk];exact m2))
 rw[if_pos (show exL.kind=6 from rfl),show zJ exL=0 by decide +kernel,zXX]at h1
 simp only[Val.enc_def]at ht h1 h2
 refine rgn [] [[34]] ?_
 refine op3 ?_
 refine qA (rgn [] [[],[],[],[1]] ?_)
 iterate 4 refine op3 ?_
 refine qA (rgn [] [[],[],[],[1,2]] ?_)
 iterate 4 refine op3 ?_
 refine qA (rgn [(exN n1).enc,(exN n25).enc,.tup [.str [97,100,100],.str [],exL.enc],(Val.mk 4 0 ⟨false,[51,53],1⟩ [] [] [] 0).enc] [[],[],[11],[]] ?_)
 iterate 4 refine op3 ?_ (hv:=by first|exact True.intro|(simp[dc0,exN,n1,n25,exL]at h1 ⊢; exact h1)|(simp[dc0,exN,n1,n25,exL];done)|simp[exN,n1,n25,dc0]|decide;done|omega|simp)
 refine qJ ?_
 refine qB.freeze 11 (by conv=>lhs;simp) ?_
 refine qB.run [[],[],[3]] ?_
 iterate 3 refine op3 ?_ (hv:=by first|exact True.intro|(simp[dc0,exN,n1,n25,exL]at h1 ⊢; exact h1)|(simp[dc0,exN,n1,n25,exL];done)|simp[exN,n1,n25,dc0]|decide;done|omega|simp)
 refine qA (rgn [.nilp,(Val.mk 5 0 dc0 [97,44,98] [] [] 0).enc,.nilp,(Val.mk 6 0 dc0 [] [] [.mk 5 0 dc0 [97] [] [] 0,.mk 5 0 dc0 [98] [] [] 0] 0).enc] [[],[],[],[3,4]] ?_)
 iterate 4 refine op3 ?_ (hv:=by first|exact True.intro|(simp[dc0]at ht ⊢; exact ht)|(simp[dc0]at h2 ⊢; exact h2)|(simp;done);done|omega|simp)
 refine qA (rgn [(Val.mk 5 0 dc0 [98] [] [] 0).enc] [[],[],[],[4,19],[],[],[],[],[4,20,24],[],[],[26,27],[],[],[],[26,31],[],[],[0]] ?_)
 iterate 19 first|refine op3 ?_ (hv:=by first|exact True.intro|((simp;done);done)|omega|simp)|refine op4 ?_ (hv:=by first|exact True.intro|((simp;done);done)|omega|simp)
 exact qA (AW.ret qI)
def eqL {α:Type} (p:α->α->Bool):List α->List α->Bool
 | [],[]=>true
 | x::l,y::m=>p x y && eqL p l m
 | _,_=>false
theorem qXI {α:Type} {p:α->α->Bool}:∀ {l m:List α},eqL p l m=true->l.length=m.length
 | [],[],_=>rfl
 | x::l,y::m,h=>by simp only[eqL,Bool.and_eq_true]at h;simp[qXI h.2]
 | [],_::_,h=>by simp[eqL]at h
 | _::_,[],h=>by simp[eqL]at h
theorem qQZ {α:Type} {p:α->α->Bool} {l m:List α} {k:Nat} {x y:α} (hx:l[k]?=some x) (hy:m[k]?=some y):eqL p (l.drop k) (m.drop k)=(p x y && eqL p (l.drop (k+1)) (m.drop (k+1))):=by
 obtain⟨h1,rfl⟩:=List.getElem?_eq_some_iff.1 hx
 obtain⟨h2,rfl⟩:=List.getElem?_eq_some_iff.1 hy
 rw[List.drop_eq_getElem_cons h1,List.drop_eq_getElem_cons h2];rfl
theorem qXJ {α:Type} {p:α->α->Bool} {l m:List α} {k:Nat} (h1:l.length<=k) (h2:l.length=m.length):eqL p (l.drop k) (m.drop k)=true:=by
 rw[List.drop_eq_nil_of_le h1,List.drop_eq_nil_of_le (by omega)];rfl
theorem qOJ {α:Type} {p:α->α->Bool} (hp:∀ x y,p x y=true↔x=y):∀ {l m:List α},eqL p l m=true↔l=m
 | [],[]=>by simp[eqL]
 | x::l,y::m=>by simp[eqL,hp,qOJ hp]
 | [],_::_=>by simp[eqL]
 | _::_,[]=>by simp[eqL]
def eqS (a b:List UInt8):Bool:=decide (a=b)
noncomputable def xH (a b:Val):Bool := @decide (a=b) (Classical.propDecidable _)
theorem qAL (a b:Val):xH a b=true↔a=b:=by unfold xH;exact @decide_eq_true_iff _ (Classical.propDecidable _)
theorem zNK (a b:Val):xH a b=(decide (a.kind=b.kind) && decide (a.mask=b.mask) && decide (a.num.neg=b.num.neg/\a.num.digits=b.num.digits/\a.num.scale=b.num.scale) && decide (a.text=b.text) && decide (a.code=b.code) && eqL eqS a.keys b.keys && eqL xH a.kids b.kids):=by
 rw[Bool.eq_iff_iff,qAL]
 simp only[Bool.and_eq_true,decide_eq_true_eq,qOJ qAL,qOJ (p:=eqS) (fun x y=>by simp[eqS])]
 constructor
 ·rintro rfl;simp
 rintro⟨⟨⟨⟨⟨⟨h1,h2⟩,h3⟩,h4⟩,h5⟩,h6⟩,h7⟩
 exact Val.ext h1 h2 (Dc.ext' h3.1 h3.2.1 h3.2.2) h4 h6 h7 h5
theorem zNA (l m:List (List UInt8)):AFn Tryz.prog G 49 [.sl 1 (l.map PD.str),.sl 1 (m.map PD.str)] (.bool (eqL eqS l m)):=by
 refine AFn.introU tok Tryz.func49 (by kernel_rfl) rfl rfl ?_
 simp only[Tryz.f49,qG,List.map_cons,List.map_nil]
 refine rgn [] [[0,1]] ?_
 refine op3 ?_
 refine qA (AW.seq (rgn [] [[],[],[],[],[0,1,10]] ?_))
 iterate 5 refine op3 ?_
 refine qA (cnd ?_ ?_)
 ·intro h10
  try simp at h10
  have hR:eqL eqS l m=false:=by
   rw[<-Bool.not_eq_true];intro h;have:=qXI h;omega
  refine rgn [] [[]] ?_
  refine op3 ?_
  refine qA ?_
  exact AW.ret (qI (k:=by simp[hR]))
 intro h10
 try simp at h10
 refine AW.skip (AW.seq (rgn [] [[]] ?_))
 refine op3 ?_
 refine qA (AW.block ?_)
 refine AW.slFactU (i:=0) rfl (by decide) ?_;intro hlen;simp at hlen
 refine AW.loop (α:=Nat) (fun k=>k<=l.length/\eqL eqS l m=eqL eqS (l.drop k) (m.drop k)) (fun k=>⟨zA 26 [(0,.p (.sl 1 (l.map PD.str))),(1,.p (.sl 1 (m.map PD.str))),(5,.p (.int .i64 k))],[],[],0⟩) (fun k=>l.length-k) (0) ⟨by omega,rfl⟩ ⟨qE (by simp),rfl,by simp,by simp⟩ ?_
 rintro k ⟨hk,hall⟩
 refine AW.seq (rgn [] [[],[],[],[0,1,5,14]] ?_)
 iterate 4 refine op3 ?_
 refine qA (cnd ?_ ?_)
 ·intro h14
  try simp at h14
  obtain⟨x,hx⟩:∃ x,l[k]?=some x:=⟨l[k],by simp[h14]⟩
  obtain⟨y,hy⟩:∃ y,m[k]?=some y:=⟨m[k]'(by omega),by simp[show k<m.length by omega]⟩
  have hst:=qQZ (p:=eqS) hx hy
  refine AW.skip (AW.seq (AW.block ?_))
  refine AW.seqRunDrawK tok mixed [0,1,5,25] 9 [[0],[5],[17,18],[19],[1],[5],[21,22],[23],[20,24]] [.str x,.str y] [] (by kernel_rfl) (by intro C;conv=>lhs;simp) (by simp[hx,hy]) (by simp[Sm.sum,Sm.foot,Sm.tch,Sm.refs];kernel_rfl) (by intro C;conv=>lhs;simp) (by first|exact True.intro|omega|simp) ?_
  refine cnd ?_ ?_
  ·intro h25
   try simp at h25
   have hR:eqL eqS l m=false:=by rw[hall,hst];simp[eqS,h25]
   refine rgn [] [[]] ?_
   refine op3 ?_
   refine qA ?_
   exact AW.ret (qI (k:=by simp[hR]))
  intro h25
  try simp at h25
  have hnx:eqL eqS l m=eqL eqS (l.drop (k+1)) (m.drop (k+1)):=by rw[hall,hst];simp[eqS,h25]
  refine AW.skip (rgz [] [[],[],[0,1,5]] ?_)
  iterate 3 refine op3 ?_
  refine qA ?_
  exact⟨k+1,⟨by omega,hnx⟩,by omega,qE (by simp),rfl,by simp,by simp⟩
 intro h14
 try simp at h14
 have hR:eqL eqS l m=true:=by rw[hall];exact qXJ (by omega) (by omega)
 refine AW.exit ?_
 simp
 refine rgn [] [[]] ?_
 refine op3 ?_
 refine qA ?_
 exact AW.ret (qI (k:=by simp[hR]))
theorem qWG (a b:Val) (hlm:a.kids.length<=1000000) (ih:∀ x∈a.kids, ∀ y∈b.kids,AFn Tryz.prog G 15 [x.enc,y.enc] (.bool (xH x y))):AFn Tryz.prog G 15 [a.enc,b.enc] (.bool (xH a b)):=by
 refine AFn.introU tok Tryz.func15 (by kernel_rfl) rfl rfl ?_
 simp only[Tryz.f15,qG,List.map_cons,List.map_nil]
 have ht:=zNA (G:=G) a.keys b.keys
 refine rgn [] [[],[],[2,3]] ?_
 iterate 3 refine op3 ?_
 refine qA (rgn [.nilp,.bool (eqL eqS a.keys b.keys)] [[],[],[],[],[2,3,12],[2,3,5]] ?_)
 iterate 6 refine oq1 tok ht ?_
 refine qA (AW.seq (rgn [] [[],[],[],[],[2,3,5,17],[],[],[],[],[],[2,3,5,18,23],[],[],[],[2,3,5,25,27],[],[],[],[2,3,5,31],[],[],[],[],[],[2,3,5,32,37],[],[],[],[2,3,5,39,41],[],[],[],[2,3,5,45],[],[],[],[2,3,49],[],[],[],[],[],[2,3,50,53,55],[],[],[2,3,58]] ?_))
 iterate 46 first|refine op3 ?_|refine op4 ?_
 refine qA (cnd ?_ ?_)
 ·intro h58
  try simp at h58
  have hR:xH a b=false:=by
   rw[<-Bool.not_eq_true];intro h
   have hl:a.kids.length=b.kids.length:=by rw[(qAL a b).1 h]
   have hk:eqL eqS a.keys b.keys=true:=by rw[(qAL a b).1 h];exact(qOJ (p:=eqS) (fun x y=>by simp[eqS])).2 rfl
   have:=(qAL a b).1 h
   subst this
   simp[hk]at h58
  refine rgn [] [[]] ?_
  refine op3 ?_
  refine qA ?_
  exact AW.ret (qI (k:=by simp[hR]))
 intro h58
 try simp at h58
 have hE:xH a b=eqL xH a.kids b.kids:=by
  rw[zNK];grind
 have hlen:a.kids.length=b.kids.length:=by grind
 refine AW.skip (AW.seq (rgn [] [[]] ?_))
 refine op3 ?_
 refine qA (AW.block ?_)
 refine AW.loop (α:=Nat) (fun k=>k<=a.kids.length/\xH a b=eqL xH (a.kids.drop k) (b.kids.drop k)) (fun k=>⟨zA 79 [(2,.ptr 2 0),(3,.ptr 3 0),(6,.p (.int .i64 k))],[],[(2,.vars 31 a.cells),(3,.vars 31 b.cells)],0⟩) (fun k=>a.kids.length-k) (0) ⟨by omega,hE⟩ ⟨qE (by simp),rfl,by simp,by simp⟩ ?_
 rintro k ⟨hk,hall⟩
 refine AW.seq (rgn [] [[],[],[],[],[2,3,6,63]] ?_)
 iterate 5 refine op3 ?_
 refine qA (cnd ?_ ?_)
 ·intro h63
  try simp at h63
  obtain⟨x,hx⟩:∃ x,a.kids[k]?=some x:=⟨a.kids[k],by simp[h63]⟩
  obtain⟨y,hy⟩:∃ y,b.kids[k]?=some y:=⟨b.kids[k]'(by omega),by simp[show k<b.kids.length by omega]⟩
  have hst:=qQZ (p:=xH) hx hy
  have hgv:=ih x (List.mem_of_getElem? hx) y (List.mem_of_getElem? hy)
  simp only[Val.enc_def]at hgv
  refine AW.skip (AW.seq (AW.block ?_))
  refine AW.seqRunDrawK tok mixed [2,3,6,7] 11 [[2],[66],[6],[67,68],[69],[3],[71],[6],[72,73],[74],[70,75]] [x.enc,y.enc,.nilp,.bool (xH x y)] [] (by kernel_rfl) (by intro C;conv=>lhs;simp) (by(simp[hx,hy];exact hgv)) (by simp[Sm.sum,Sm.foot,Sm.tch,Sm.refs];kernel_rfl) (by intro C;conv=>lhs;simp) (by first|exact True.intro|omega|simp) ?_
  refine rgn [] [[],[2,3,6,78]] ?_
  iterate 2 refine op3 ?_
  refine qA (cnd ?_ ?_)
  ·intro h78
   try simp at h78
   have hR:xH a b=false:=by rw[hall,hst];simp[h78]
   refine rgn [] [[]] ?_
   refine op3 ?_
   refine qA ?_
   exact AW.ret (qI (k:=by simp[hR]))
  intro h78
  try simp at h78
  have hnx:xH a b=eqL xH (a.kids.drop (k+1)) (b.kids.drop (k+1)):=by rw[hall,hst];simp[h78]
  refine AW.skip (rgz [] [[],[],[2,3,6]] ?_)
  iterate 3 refine op3 ?_
  refine qA ?_
  exact⟨k+1,⟨by omega,hnx⟩,by omega,qE (by simp),rfl,by simp,by simp⟩
 intro h63
 try simp at h63
 have hR:xH a b=true:=by rw[hall];exact qXJ (by omega) (by omega)
 refine AW.exit ?_
 simp
 refine rgn [] [[]] ?_
 refine op3 ?_
 refine qA ?_
 exact AW.ret (qI (k:=by simp[hR]))
theorem zDY (a:Val):Val.sz a<=1000000->∀ b,AFn Tryz.prog G 15 [a.enc,b.enc] (.bool (xH a b)) :=
 Val.induct (p:=fun a=>Val.sz a<=1000000->∀ b,AFn Tryz.prog G 15 [a.enc,b.enc] (.bool (xH a b))) (fun a ih ha b=>qWG a b (qQL ha) fun x hx y _=>ih x hx (by have:=Val.sz_kid hx;omega) y) a
def qHW (s:List UInt8):List UInt8:=if 40<s.length then s.take 40 else s
def zCQ (s:List UInt8):List UInt8:=if qAS (qHW s)=false then[97] else qHW s
theorem zBV (s:List UInt8):(qHW s).length<=40:=by unfold qHW;split <;> first|(simp;omega)|omega|simp
theorem zQT (s:List UInt8):AFn Tryz.prog G 13 [.str s] (.str (zCQ s)):=by
 refine AFn.introU tok Tryz.func13 (by kernel_rfl) rfl rfl ?_
 simp only[Tryz.f13,qG,List.map_cons,List.map_nil]
 have hc:qHW s=if 40<s.length then s.take 40 else s:=rfl
 have hv:=qMU (G:=G) (qHW s) (by have:=zBV s;omega)
 have e:zCQ s=if qAS (qHW s)=false then[97] else qHW s:=rfl
 rw[e]
 generalize qAS (qHW s)=b at *
 generalize qHW s=c at *
 refine rgn [] [[0]] ?_
 refine op3 ?_
 refine qA ?_
 refine AW.join (α:=Unit) (fun _=>True) (fun a=>⟨zA 12 [(0,.p (.str c))],[],[],0⟩) ?_ ?_
 ·
  refine rgn [] [[],[],[0,5]] ?_
  iterate 3 refine op3 ?_
  refine qA (cnd ?_ ?_)
  ·intro h5
   try simp at h5
   have hcc:s.take 40=c:=by rw[hc,if_pos (by omega)]
   refine rgz [] [[],[],[0]] ?_
   iterate 3 refine op3 ?_
   refine qA ?_
   exact⟨(),trivial,qE (by simp[hcc]),rfl,by simp[hcc],by simp[hcc]⟩
  intro h5
  try simp at h5
  have hcc:s=c:=by rw[hc,if_neg (by omega)]
  refine AW.skip ?_
  exact⟨(),trivial,qE (by simp[hcc]),rfl,by simp[hcc],by simp[hcc]⟩
 ·
  rintro a hI
  refine AW.seq (rgn [.nilp,.bool b] [[],[],[0,10]] ?_)
  iterate 3 refine oq1 tok hv ?_
  refine qA (cnd ?_ ?_)
  ·intro h10
   try simp at h10
   rw[if_pos h10]
   refine rgn [] [[]] ?_
   refine op3 ?_
   exact qA (AW.ret qI)
  intro h10
  try simp at h10
  rw[if_neg (by simp[h10])]
  refine AW.skip (rgn [] [[],[2]] ?_)
  iterate 2 refine op3 ?_
  exact qA (AW.ret qI)
theorem zBU:∀ (l:List Val) {a b:Int},LeM a b->LeM a (uF b l)
 | [],a,b,h=>by simpa using h
 | x::l,a,b,h=>by simp only[uF];exact zBU l (h.trans (.or_left _ _))
theorem zHK (v:Val) (h:InV v):LeM v.mask (zJ v):=by rw[qRF];exact zBU _ (.refl (zRN h))
end Go.Proofs.YtgcbapchinideaaGreatDoor
namespace Go.Proofs
open Go.Shelf
def Tryz.laysM146_ren:Go.Shelf.Ren:=⟨fun|146=>75|221=>109|268=>152|138=>153|143=>154|195=>96|197=>195|218=>196|219=>197|260=>222|217=>198|225=>223|224=>224|267=>225|266=>226|314=>238|n=>n,fun|9=>9|31=>27|3=>3|4=>4|0=>0|105=>222|21=>21|5=>5|46=>148|119=>254|139=>257|138=>256|146=>217|51=>202|n=>n,fun|1=>0|3=>1|4=>2|n=>n⟩
theorem Tryz.laysM146:Go.Proofs.LaysM.n146 Tryz.prog Tryz.laysM146_ren:={
 mixed:=by kernel_rfl
 f138:=Tryz.func153.trans (congrArg some (by kernel_rfl))
 f143:=Tryz.func154.trans (congrArg some (by kernel_rfl))
 f146:=Tryz.func75.trans (congrArg some (by kernel_rfl))
 f195:=Tryz.func96.trans (congrArg some (by kernel_rfl))
 f197:=Tryz.func195.trans (congrArg some (by kernel_rfl))
 f217:=Tryz.func198.trans (congrArg some (by kernel_rfl))
 f218:=Tryz.func196.trans (congrArg some (by kernel_rfl))
 f219:=Tryz.func197.trans (congrArg some (by kernel_rfl))
 f221:=Tryz.func109.trans (congrArg some (by kernel_rfl))
 f224:=Tryz.func224.trans (congrArg some (by kernel_rfl))
 f225:=Tryz.func223.trans (congrArg some (by kernel_rfl))
 f260:=Tryz.func222.trans (congrArg some (by kernel_rfl))
 f266:=Tryz.func226.trans (congrArg some (by kernel_rfl))
 f267:=Tryz.func225.trans (congrArg some (by kernel_rfl))
 f268:=Tryz.func152.trans (congrArg some (by kernel_rfl))
 f314:=Tryz.func238.trans (congrArg some (by kernel_rfl))
 t0:=Tryz.underlying0
 a0:=Tryz.isAgg0
 z0:=Tryz.sizeOf0
 v0:=Tryz.zeroValue0
 t3:=Tryz.underlying3
 a3:=Tryz.isAgg3
 z3:=Tryz.sizeOf3
 v3:=Tryz.zeroValue3
 t4:=Tryz.underlying4
 a4:=Tryz.isAgg4
 z4:=Tryz.sizeOf4
 v4:=Tryz.zeroValue4
 t5:=Tryz.underlying5
 a5:=Tryz.isAgg5
 z5:=Tryz.sizeOf5
 v5:=Tryz.zeroValue5
 t9:=Tryz.underlying9
 a9:=Tryz.isAgg9
 z9:=Tryz.sizeOf9
 v9:=Tryz.zeroValue9
 t21:=Tryz.underlying21
 a21:=Tryz.isAgg21
 z21:=Tryz.sizeOf21
 v21:=Tryz.zeroValue21
 t31:=Tryz.underlying27
 a31:=Tryz.isAgg27
 z31:=Tryz.sizeOf27
 v31:=Tryz.zeroValue27
 t46:=Tryz.underlying148
 a46:=Tryz.isAgg148
 z46:=Tryz.sizeOf148
 v46:=Tryz.zeroValue148
 t51:=Tryz.underlying202
 a51:=Tryz.isAgg202
 z51:=Tryz.sizeOf202
 v51:=Tryz.zeroValue202
 t105:=Tryz.underlying222
 a105:=Tryz.isAgg222
 z105:=Tryz.sizeOf222
 v105:=Tryz.zeroValue222
 t119:=Tryz.underlying254
 a119:=Tryz.isAgg254
 z119:=Tryz.sizeOf254
 t138:=Tryz.underlying256
 a138:=Tryz.isAgg256
 z138:=Tryz.sizeOf256
 v138:=Tryz.zeroValue256
 t139:=Tryz.underlying257
 a139:=Tryz.isAgg257
 z139:=Tryz.sizeOf257
 v139:=Tryz.zeroValue257
 t146:=Tryz.underlying217
 a146:=Tryz.isAgg217
 z146:=Tryz.sizeOf217
 v146:=Tryz.zeroValue217
 g1:=by kernel_rfl
 g3:=by kernel_rfl
 g4:=by kernel_rfl
 i0:=by kernel_rfl
 i3:=by kernel_rfl
 i4:=by kernel_rfl
 i5:=by kernel_rfl
 i9:=by kernel_rfl
 i21:=by kernel_rfl
 i31:=by kernel_rfl
 i46:=by kernel_rfl
 i51:=by kernel_rfl
 i105:=by kernel_rfl
 i138:=by kernel_rfl
 i139:=by kernel_rfl
 i146:=by kernel_rfl
 m1:=by kernel_rfl
 s1_3:=fun w h=>Go.Proofs.cell_of_shapedOpen_int (zero := #[.int .i64 0]) (t:=3) h (of_decide_eq_true (by kernel_rfl)) (by kernel_rfl) rfl (by kernel_rfl) (by kernel_rfl) Tryz.underlying3
 m3:=by kernel_rfl
 m4:=by kernel_rfl }
def Tryz.lays195_ren:Go.Shelf.Ren:=⟨fun|195=>96|n=>n,fun|9=>9|3=>3|0=>0|4=>4|n=>n,fun|n=>n⟩
theorem Tryz.lays195:Go.Proofs.Lays.n195 Tryz.prog Tryz.lays195_ren:={
 mixed:=by kernel_rfl
 f195:=Tryz.func96.trans (congrArg some (by kernel_rfl))
 t0:=Tryz.underlying0
 a0:=Tryz.isAgg0
 z0:=Tryz.sizeOf0
 v0:=Tryz.zeroValue0
 t3:=Tryz.underlying3
 a3:=Tryz.isAgg3
 z3:=Tryz.sizeOf3
 v3:=Tryz.zeroValue3
 t4:=Tryz.underlying4
 a4:=Tryz.isAgg4
 z4:=Tryz.sizeOf4
 v4:=Tryz.zeroValue4
 t9:=Tryz.underlying9
 a9:=Tryz.isAgg9
 z9:=Tryz.sizeOf9
 v9:=Tryz.zeroValue9 }
end Go.Proofs
namespace Go.Proofs.YtgcbapchinideaaGreatDoor
open Sy Go
set_option maxRecDepth 100000
set_option linter.all false
variable {G:qR}
def qIK (s sep:List UInt8):List (List UInt8):=Lib.splitK sep 0 (Lib.count s sep) s
theorem qFK {sep:List UInt8} (hs:sep≠[]):∀ (k:Nat) (s:List UInt8),Lib.join (Lib.splitK sep 0 k s) sep=s/\Lib.splitK sep 0 k s≠[]/\(Lib.splitK sep 0 k s).length<=s.length+1/\∀ p∈Lib.splitK sep 0 k s,p.length<=s.length
 | 0,s=>⟨by simp[Lib.splitK,Lib.join_one],by simp[Lib.splitK],by simp[Lib.splitK],by simp[Lib.splitK]⟩
 | k+1,s=>by
  unfold Lib.splitK
  split
  ·exact⟨by simp[Lib.join_one],by simp,by simp,by simp⟩
  rename_i h
  rcases Lib.index_spec s sep with⟨h1,_⟩|⟨i,h1,h2,h3,_⟩
  ·exact absurd (beq_iff_eq.2 h1) h
  have e:(Lib.index s sep).toNat=i:=by omega
  rw[e,Nat.add_zero]
  obtain⟨i1,i2,i3,i4⟩:=qFK hs k (s.drop (i+sep.length))
  have hlen:0<sep.length:=List.length_pos_iff.2 hs
  have hp:s=s.take i++(sep++s.drop (i+sep.length)):=by
   unfold Lib.occAt at h3
   obtain⟨t,ht⟩:=List.isPrefixOf_iff_prefix.1 h3
   have hd:s.drop (i+sep.length)=t:=by rw[<-List.drop_drop,<-ht,List.drop_left]
   rw[hd,ht,List.take_append_drop]
  refine⟨?_,by simp, ?_, ?_⟩
  ·generalize Lib.splitK sep 0 k (s.drop (i+sep.length))=R at *
   obtain⟨x,r,rfl⟩:∃ x r,R=x::r:=by cases R with
    | nil=>exact absurd rfl i2
    | cons x r=>exact⟨x,r,rfl⟩
   rw[Lib.join_cons]at i1 ⊢
   conv=>rhs;rw[hp,<-i1]
   simp[Lib.joinTail]
  ·rw[List.length_cons]
   rw[List.length_drop]at i3
   have:=Lib.index_room s sep (by omega)
   omega
  intro p hm
  rcases List.mem_cons.1 hm with rfl|hm
  ·simp;omega
  have:=i4 p hm
  rw[List.length_drop]at this;omega
theorem qZK {s sep:List UInt8} (hs:sep≠[]):Lib.join (qIK s sep) sep=s/\qIK s sep≠[]/\(qIK s sep).length<=s.length+1/\∀ p∈qIK s sep,p.length<=s.length:=qFK hs _ s
def qMM (g:Nat) (G:qR):Prop:=∃ m:Int,G g=some [.int .i64 m]
theorem zMF (hG:qMM 0 G) (s sep:List UInt8) (h1:sep≠[]) (hs:s.length<=1000000):AFn Tryz.prog G 75 [.str s,.str sep] (.sl 1 ((qIK s sep).map PD.str)):=by
 refine⟨kA Tryz.func75 (by kernel_rfl) rfl,fun M w vs hg hmem hsz hrd => ?_⟩
 obtain⟨a,b,rfl,rfl,rfl⟩:=zCP hsz hrd
 obtain⟨m,hm⟩:=hG
 obtain⟨g1,g2⟩:=hg.1 _ _ hm
 obtain⟨u,hu,_⟩:=g1 0 _ rfl
 have hur:=g2 0 _ u rfl hu
 cases hur with
 | int k1 k2 =>
 have hcell:=hmem _ _ _ hu
 have hb:1<=b.size:=by
  have:0<b.data.toList.length:=List.length_pos_iff.2 h1
  simp at this;omega
 have ha:a.size<=1000000:=by simpa using hs
 refine(Any.strings_Split { Tryz.laysM146 with } Tryz.laysM146.i9 a b m w (by omega) hcell hb).mono ?_
 rintro e w' ⟨rfl,rfl⟩
 have hlen:=Lib.splitB_all b hb 0 (Lib.countB a b) a rfl
 have hdata:=Lib.splitB_data b 0 (Lib.countB a b) a
 obtain⟨_,_,j3,j4⟩:=qFK h1 (Lib.countB a b) a.data.toList
 have hS:qIK a.data.toList b.data.toList=(Lib.splitB b 0 (Lib.countB a b) a).map (·.data.toList):=hdata.symm
 rw[<-hdata]at j3 j4
 rw[hS]
 generalize Lib.splitB b 0 (Lib.countB a b) a=ps at *
 rw[List.length_map]at j3
 have ha2:a.data.toList.length<=1000000:=hs
 have hold:∀ b' o v,M b' o=some v->b'<w.heap.size:=fun b' o v h=>yM (hmem b' o v h)
 have hnew:∀ j,(w.alloc (.cells (ps.map Value.string).toArray (Tryz.laysM146_ren.t 9))).cell? ⟨w.heap.size,j,none⟩=(ps.map Value.string)[j]?:=fun j=>by
  rw[World.cell?_alloc_new];simp
 refine⟨_,fun b' o=>if b'=w.heap.size then(ps.map Value.string)[o]? else M b' o,rfl, ?_, ?_, ?_, ?_,(RowKit.Below.refl _ w).alloc (Nat.le_refl _) _⟩
 ·refine Rd.sl w.heap.size 0 (by simp;omega) (Nat.le_refl _) (by unfold maxLen;omega) (fun _=>rfl) ?_ ?_ ?_
  ·intro i e he
   rw[List.getElem?_map,Option.map_eq_some_iff]at he
   obtain⟨x,_,rfl⟩:=he;rfl
  ·intro i e j he hj
   rw[List.map_map,List.getElem?_map,Option.map_eq_some_iff]at he
   obtain⟨x,hx,rfl⟩:=he
   obtain rfl:j=0:=by omega
   refine⟨.string x, ?_,rfl⟩
   rw[if_pos rfl]
   simp[hx]
  intro i e j d u he hj hu
  rw[List.map_map,List.getElem?_map,Option.map_eq_some_iff]at he
  obtain⟨x,hx,rfl⟩:=he
  match j,hj with
  | 0,hj =>
   rw[if_pos rfl]at hu
   simp[hx]at hu
   subst hu
   cases hj
   refine .str rfl ?_
   have:x.data.toList.length<=a.data.toList.length:=j4 _ (List.mem_map.2 ⟨x,List.mem_of_getElem? hx,rfl⟩)
   show x.data.toList.length<=maxLen
   unfold maxLen;omega
  | j+1,hj=>exact absurd hj (by simp[PD.cells])
 ·intro b' o v h
  change (if b'=w.heap.size then(ps.map Value.string)[o]? else M b' o)=some v at h
  by_cases hb':b'=w.heap.size
  ·subst hb'
   rw[if_pos rfl]at h
   rw[hnew];exact h
  rw[if_neg hb']at h
  rw[World.cell?_alloc_lt _ _ _ (hold b' o v h)]
  exact hmem b' o v h
 ·intro b' o v h
  show(if b'=w.heap.size then(ps.map Value.string)[o]? else M b' o)=some v
  rw[if_neg (by have:=hold b' o v h;omega)];exact h
 intro b' o h
 show(if b'=w.heap.size then(ps.map Value.string)[o]? else M b' o)=_
 rw[if_neg (by omega)]
theorem qKS (s:List UInt8) (hs:s.length<=1000000):AFn Tryz.prog G 96 [.str s] (.int .i64 (Lib.runeCountL s)):=by
 refine AFn.of_calls (kA Tryz.func96 (by kernel_rfl) rfl) fun M w vs hg hmem hsz hrd => ?_
 obtain⟨b,rfl,rfl,hm⟩:=zIL hsz hrd
 have hb:b.size<=1000000:=by simpa using hs
 refine(Any.utf8_RuneCountInString Tryz.lays195 b w (by omega)).mono ?_
 rintro e w' ⟨rfl,pos,rfl⟩
 have hle:=Lib.runeCountFrom_le b b.size 0
 have e:Lib.runeCountL b.data.toList=Lib.runeCount b:=rfl
 rw[e]
 refine⟨_,rfl,.int (by rw[jK];simp only[kD];omega) (by rw[kV];simp only[kE];unfold Lib.runeCount;omega), ?_⟩
 exact(RowKit.Below.refl _ w).alloc (Nat.le_refl _) _
theorem qZR:Lib.runeCountL []=0:=rfl
theorem qRG (l:List UInt8) (h:l≠[]):1<=(Lib.decodeL l).2:=by
 have h0:0<l.length:=List.length_pos_iff.2 h
 exact Lib.decode_width_pos ⟨l.toArray⟩ 0 (by show 0<l.toArray.size;simpa using h0)
theorem qLJ (l:List UInt8) (h:l≠[]):Lib.runeCountL l=1+Lib.runeCountL (l.drop (Lib.decodeL l).2):=by
 have h0:0<l.length:=List.length_pos_iff.2 h
 have hd:=qRG l h
 have hle:=Lib.decodeL_le l h
 generalize hw:(Lib.decodeL l).2=k at *
 have hsz:(⟨l.toArray⟩:ByteArray).size=l.length:=by show l.toArray.size=_;simp
 have e1:Lib.runeCountL l=Lib.runeCountFrom ⟨l.toArray⟩ l.length 0:=by
  unfold Lib.runeCountL Lib.runeCount;rw[hsz]
 have e2:Lib.runeCountL (l.drop k)=Lib.runeCountFrom ((⟨l.toArray⟩:ByteArray).extract k (⟨l.toArray⟩:ByteArray).size) (l.length-k) 0:=by
  have:((⟨l.toArray⟩:ByteArray).extract k (⟨l.toArray⟩:ByteArray).size).data.toList=l.drop k:=by rw[Lib.extract_to_end]
  rw[<-this,Lib.runeCountL_eq]
  unfold Lib.runeCount;rw[Lib.tail_size,hsz]
 rw[e1,e2,Lib.tail_count]
 obtain⟨f,hf⟩:∃ f,l.length=f+1:=⟨l.length-1,by omega⟩
 rw[hf]
 conv=>lhs;unfold Lib.runeCountFrom
 rw[hsz,if_pos h0]
 congr 1
 rw[Nat.zero_add,Nat.add_zero,show(Utf8.decode ⟨l.toArray⟩ 0).2=k from hw]
 exact Lib.fuel_enough _ _ _ _ (by rw[hsz];omega) (by rw[hsz];omega)
def qAA:Nat->List UInt8->List (List UInt8)
 | 0,_=>[]
 | 1,s=>[s]
 | n+2,s=>s.take (Lib.decodeL s).2::qAA (n+1) (s.drop (Lib.decodeL s).2)
def vD (s:List UInt8):List (List UInt8):=qAA (Lib.runeCountL s) s
theorem qUV:∀ n s,(qAA n s).length=n
 | 0,_=>rfl
 | 1,_=>rfl
 | n+2,s=>by simp only[qAA,List.length_cons,qUV (n+1)]
theorem qQW:∀ (n:Nat) (s:List UInt8),Lib.runeCountL s=n->(qAA n s).flatten=s/\∀ p∈qAA n s,p.length<=s.length
 | 0,s,h=>by
  by_cases hs:s=[]
  ·subst hs;simp[qAA]
  rw[qLJ s hs]at h;omega
 | 1,s,h=>by simp[qAA]
 | n+2,s,h=>by
  have hs:s≠[]:=by rintro rfl;rw[qZR]at h;omega
  rw[qLJ s hs]at h
  obtain⟨h1,h2⟩:=qQW (n+1) (s.drop (Lib.decodeL s).2) (by omega)
  refine⟨by simp only[qAA,List.flatten_cons,h1,List.take_append_drop],fun p hp => ?_⟩
  rcases List.mem_cons.1 hp with rfl|hp
  ·simp;omega
  have:=h2 p hp
  rw[List.length_drop]at this;omega
theorem zFE {n:Nat} (h:1<n) (s:List UInt8):qAA n s=s.take (Lib.decodeL s).2::qAA (n-1) (s.drop (Lib.decodeL s).2):=by
 obtain⟨k,rfl⟩:∃ k,n=k+2:=⟨n-2,by omega⟩
 rfl
theorem qZQ (s:List UInt8):Lib.join (vD s) []=s/\(vD s).length=Lib.runeCountL s/\∀ p∈vD s,p.length<=s.length:=by
 obtain⟨h1,h2⟩:=qQW _ s rfl
 refine⟨?_,qUV _ _,h2⟩
 unfold vD
 have hj:∀ l:List (List UInt8),Lib.join l []=l.flatten:=fun l=>by
  cases l with
  | nil=>rfl
  | cons x r=>rw[Lib.join_cons];simp[Lib.joinTail]
 rw[hj,h1]
theorem qPO (s:List UInt8):Lib.runeCountL s<=s.length:=by
 have:=Lib.runeCount_le ⟨s.toArray⟩
 have hsz:(⟨s.toArray⟩:ByteArray).size=s.length:=by show s.toArray.size=_;simp
 rw[hsz]at this;exact this
set_option maxHeartbeats 4000000
theorem zFC (s:List UInt8) (hG:U8 G) (hs:s.length<=1000000):AX Tryz.prog G 152 [.p (.str s),.p (.int .i64 (-1))] [] (.ms 81) [] [(81,.row 9 1 ((vD s).map PD.str))]:=by
 refine AX.introU tok 60 Tryz.func152 (by kernel_rfl) rfl rfl ?_
 simp only[Tryz.f152,qG,List.map_cons,List.map_nil]
 have hC:=qKS (G:=G) s hs
 have hle:=qPO s
 have hD:=fun r h=>qSO (G:=G) hG r h
 have hR:vD s=qAA (Lib.runeCountL s) s:=rfl
 rw[hR]
 have hcs:Lib.runeCountL s=Lib.runeCountL s:=rfl
 generalize hN:Lib.runeCountL s=N at *
 have hlt:¬ (N:Int) < -1:=by omega
 refine rgn [] [[0,1]] ?_
 refine op3 ?_
 refine qA (rgn [.nilp,.int .i64 N] [[],[],[0,1,5]] ?_)
 iterate 3 refine oq1 tok hC ?_
 refine qA (AW.seq (rgn [] [[],[],[],[],[],[0,1,5,14,17],[0,1,5,18]] ?_))
 iterate 3 refine op3 ?_
 iterate 3 refine op4 ?_
 refine op3 ?_
 refine qA (cnd ?_ ?_)
 ·intro h18
  try simp at h18
  refine rgz [] [[],[0,1]] ?_
  iterate 2 refine op3 ?_
  refine qA (rgn [.str []] [[],[],[0,1,6]] ?_)
  iterate 3 refine op3 ?_
  refine qA (AW.seq (rgn [] [[]] ?_))
  refine op3 ?_
  refine qA (AW.block ?_)
  refine AW.loop (α:=List (List UInt8) × List UInt8) (fun a=>qAA N s=a.1++qAA (N-a.1.length) a.2/\a.1.length+Lib.runeCountL a.2=N/\a.2.length<=s.length/\(0<N->a.1.length<N)) (fun a=>⟨zA 50 [(0,.p (.str a.2)),(1,.p (.int .i64 N)),(6,.ms 81),(7,.p (.int .i64 a.1.length))],[],[(81,.row 9 1 (a.1.map PD.str++List.replicate (N-a.1.length) (.str [])))],60⟩) (fun a=>N-a.1.length) (([],s)) ⟨by simp,by simp[hN],by simp,by simp⟩ ⟨qE (by simp),rfl,by simp,by simp⟩ ?_
  rintro⟨done,r⟩ ⟨hsp,hcn,hrl,hpos⟩
  simp only at hsp hcn hrl hpos
  refine AW.seq (rgn [] [[],[],[],[0,1,6,7,25]] ?_)
  iterate 4 refine op3 ?_
  refine qA (cnd ?_ ?_)
  ·intro h25
   try simp at h25
   have hr0:r≠[]:=by rintro rfl;rw[qZR]at hcn;omega
   have hD:=hD r hr0
   have hst:=qLJ r hr0
   have hk1:=qRG r hr0
   have hk2:=Lib.decodeL_le r hr0
   have hnx:=zFE (n:=N-done.length) (by omega) r
   have hrep:List.replicate (N-done.length) (PD.str [])=PD.str []::List.replicate (N-(done.length+1)) (PD.str []):=by
    rw[show N-done.length=(N-(done.length+1))+1 by omega,List.replicate_succ]
   generalize (Lib.decodeL r).2=k at *
   generalize (Lib.decodeL r).1=c at *
   refine AW.skip (AW.seq (AW.block (rgn [.nilp,.tup [.int .i32 c,.int .i64 k]] [[],[],[],[],[],[0,1,6,7,32],[0,1,6,7,9]] ?_)))
   iterate 7 refine oq1 tok hD ?_
   refine qA (rgn [.str [],.str (r.take k)] [[],[],[],[],[],[0,1,6,7,9,37,38],[0,1,6,7,9]] ?_)
   iterate 7 refine op3 ?_ (hv:=by first|exact True.intro|(simp[hrep,qBW];done)|(simp[hrep,qBW];omega)|omega;done|omega|simp)
   refine qA (rgz [] [[],[],[1,6,7,41],[0,1,6,7]] ?_)
   iterate 4 refine op3 ?_
   refine qA (rgz [] [[],[],[0,1,6,7]] ?_)
   iterate 3 refine op3 ?_
   refine qA ?_
   exact⟨(done++[r.take k],r.drop k),⟨by rw[hsp,hnx];simp[Nat.sub_sub],by simp;omega,by simp;omega,by simp;omega⟩,by simp;omega,qE (by simp[qDR,hrep]),rfl,by simp[qDR,hrep],by simp[qDR,hrep]⟩
  intro h25
  try simp at h25
  refine AW.exit ?_
  simp
  refine AW.seq (rgn [] [[],[0,1,6,43]] ?_)
  iterate 2 refine op3 ?_
  refine qA (cnd ?_ ?_)
  ·intro h43
   try simp at h43
   have hd1:done.length+1=N:=by have:=hpos (by omega);omega
   have hrep:List.replicate (N-done.length) (PD.str [])=[PD.str []]:=by rw[show N-done.length=1 by omega];rfl
   have hfin:qAA N s=done++[r]:=by rw[hsp,show N-done.length=1 by omega];rfl
   rw[hfin]
   subst hd1
   refine rgz [.str [],.str r] [[],[],[],[],[6,47,48],[6]] ?_
   iterate 6 refine op3 ?_ (hv:=by first|exact True.intro|(simp[hrep,qBW];done)|(simp[hrep,qBW];omega)|omega;done|omega|simp)
   refine qA (rgn [] [[],[4]] ?_)
   iterate 2 refine op3 ?_
   refine qA ?_
   exact AW.ret qZ
  intro h43
  try simp at h43
  have hN0:N=0:=by omega
  subst hN0
  obtain rfl:done=[]:=List.eq_nil_of_length_eq_zero (by omega)
  rw[show qAA 0 s=[] from rfl]
  refine AW.skip (rgn [] [[],[4]] ?_)
  iterate 2 refine op3 ?_
  refine qA ?_
  exact AW.ret qZ
 intro h18
 try simp at h18
theorem zFD (hG:U8 G) (s:List UInt8) (hs:s.length<=1000000):AR Tryz.prog G 152 [.str s,.int .i64 (-1)] 9 1 ((vD s).map PD.str):=AR.of_AX (k:=81) (by simpa using zFC s hG hs)
theorem qXE (s:List UInt8) (hG:U8 G) (hs:s.length<=1000000):AX Tryz.prog G 109 [.p (.str s),.p (.str []),.p (.int .i64 0),.p (.int .i64 (-1))] [] (.ms 78) [] [(78,.row 9 1 ((vD s).map PD.str))]:=by
 refine AX.introU tok 60 Tryz.func109 (by kernel_rfl) rfl rfl ?_
 simp only[Tryz.f109,qG,List.map_cons,List.map_nil]
 have hE:=zFD (G:=G) hG s hs
 refine rgn [] [[0,1,2,3]] ?_
 refine op3 ?_
 refine qA (AW.seq (rgn [] [[],[0,1,2,3,13]] ?_))
 iterate 2 refine op3 ?_
 refine qA (cnd ?_ ?_)
 ·intro h13
  try simp at h13
 intro h13
 try simp at h13
 refine AW.skip (AW.seq (rgn [] [[],[0,1,2,3,15]] ?_))
 iterate 2 refine op3 ?_
 refine qA (cnd ?_ ?_)
 ·intro h15
  try simp at h15
  refine rgn [.nilf,.sl 1 ((vD s).map PD.str),.clo 9 []] [[],[],[18],[8]] ?_
  iterate 4 refine op3 ?_ (hv:=by first|exact True.intro|exact hE|(simp;exact hE);done|omega|simp)
  refine qA ?_
  exact AW.ret qZ
 intro h15
 try simp at h15
theorem qXF (hG:U8 G) (s:List UInt8) (hs:s.length<=1000000):AR Tryz.prog G 109 [.str s,.str [],.int .i64 0,.int .i64 (-1)] 9 1 ((vD s).map PD.str):=AR.of_AX (k:=78) (by simpa using qXE s hG hs)
theorem zMH (s:List UInt8) (hG:U8 G) (hs:s.length<=1000000):AX Tryz.prog G 75 [.p (.str s),.p (.str [])] [] (.ms 67) [] [(67,.row 9 1 ((vD s).map PD.str))]:=by
 refine AX.introU tok 60 Tryz.func75 (by kernel_rfl) rfl rfl ?_
 simp only[Tryz.f75,qG,List.map_cons,List.map_nil]
 have hE:=qXF (G:=G) hG s hs
 refine rgn [] [[0,1]] ?_
 refine op3 ?_
 refine qA (rgn [.nilf,.sl 1 ((vD s).map PD.str),.clo 9 []] [[],[],[7],[4]] ?_)
 iterate 4 refine op3 ?_ (hv:=by first|exact True.intro|exact hE|(simp;exact hE);done|omega|simp)
 refine qA ?_
 exact AW.ret qZ
theorem zMG (hG:U8 G) (s:List UInt8) (hs:s.length<=1000000):AFn Tryz.prog G 75 [.str s,.str []] (.sl 1 ((vD s).map PD.str)):=AFn.of_AX (k:=67) (by simpa using zMH s hG hs)
theorem zRI (s:List UInt8) (hs:s.length<=1000000):AFn Tryz.prog G 65 [.str s] (.int .i64 (Lib.runeCountL s)):=by
 refine AFn.introU tok Tryz.func65 (by kernel_rfl) rfl rfl ?_
 simp only[Tryz.f65,qG,List.map_cons,List.map_nil]
 have h:=qKS (G:=G) s hs
 refine rgn [] [[0]] ?_
 refine op3 ?_
 refine qA (rgn [.nilp,.int .i64 (Lib.runeCountL s)] [[],[],[2]] ?_)
 iterate 3 refine oq1 tok h ?_
 exact qA (AW.ret qI)
theorem qWV (arg:List UInt8) (v:Val) (m:Int) (hn:v.kids.length<=1000000) (hj:(Lib.join (v.kids.map Val.text) arg).length<=1000000000):AFn Tryz.prog G 46 [.agg [.int .u64 m],.str [106,111,105,110],.str arg,v.enc] ((if v.kind=6 then qFT v.kids arg m else qQ 40 m).enc):=by
 refine AFn.introU tok Tryz.func46 (by kernel_rfl) rfl rfl ?_
 simp only[Tryz.f46,qG,List.map_cons,List.map_nil]
 have hf:=zT (G:=G) 40 m
 have hc:=jW (G:=G) v.kids (by omega)
 have ha:=zAR (G:=G) v.kids arg m hn hj
 generalize qFT v.kids arg m=W at *
 simp only[Val.enc_def]at hf ha
 refine rgn [] [[],[],[1,2,4,7,8]] ?_
 iterate 3 refine op3 ?_
 refine qA (AW.seq (rgn [] [[],[],[1,2,4,7,8,12]] ?_))
 iterate 3 refine op3 ?_
 refine qA (cnd ?_ ?_)
 ·intro h12
  try simp at h12
  rw[if_neg (by simpa using h12)]
  refine rgn [.nilp,(qQ 40 m).enc] [[],[],[8]] ?_
  iterate 3 refine oq1 tok hf ?_
  exact qA (AW.ret qI)
 intro h12
 try simp at h12
 rw[if_pos (by simpa using h12)]
 refine AW.skip (rgn [.nilf,.sl 9 (v.kids.map Val.enc),.clo 31 []] [[],[],[],[1,2,4,8,9]] ?_)
 iterate 4 refine oq1 tok hc ?_
 refine qA (AW.seq (rgn [] [[]] ?_))
 refine op3 ?_
 refine qA (AW.block (rgn [] [[],[1,2,4,8,9,18,19]] ?_))
 iterate 2 refine op3 ?_
 refine qA (cnd ?_ ?_)
 ·intro h19
  try simp at h19
 intro h19
 try simp at h19
 refine rgn [] [[],[1,2,4,8,9,18,26]] ?_
 iterate 2 refine op3 ?_
 refine qA (cnd ?_ ?_)
 ·intro h26
  try simp at h26
 intro h26
 try simp at h26
 refine rgn [] [[],[1,2,4,8,9,18,34]] ?_
 iterate 2 refine op3 ?_
 refine qA (cnd ?_ ?_)
 ·intro h34
  try simp at h34
 intro h34
 try simp at h34
 refine rgn [] [[],[1,2,4,8,9,18,39]] ?_
 iterate 2 refine op3 ?_
 refine qA (cnd ?_ ?_)
 ·intro h39
  try simp at h39
 intro h39
 try simp at h39
 refine rgn [] [[],[1,2,4,8,9,18,44]] ?_
 iterate 2 refine op3 ?_
 refine qA (cnd ?_ ?_)
 ·intro h44
  try simp at h44
 intro h44
 try simp at h44
 refine AW.seq (rgn [] [[],[1,2,4,8,9,18,49]] ?_)
 iterate 2 refine op3 ?_
 refine qA (cnd ?_ ?_)
 ·intro h49
  try simp at h49
 intro h49
 try simp at h49
 refine rgz [] [[],[1,2,4,8,9,49]] ?_
 iterate 2 refine op3 ?_
 refine qA (cnd ?_ ?_)
 ·intro h49
  try simp at h49
 intro h49
 try simp at h49
 refine AW.skip ?_
 refine AW.freezeE 17 (by conv=>lhs;simp) ?_
 refine rgn [.nilp,W.enc] [[],[],[],[8,59],[8]] ?_
 iterate 5 refine oq1 tok ha ?_
 exact qA (AW.ret qI)
structure WholeP (d:Dc) (W R:List UInt8):Prop where
 form:xD d=(if d.neg=true then[45] else[])++(W++if R=[] then[] else 46::R)
 wd:W.all qO=true
 rd:R.all qO=true
 wne:W≠[]
 lead:W.length=1\/qV W 0≠48
 norm:wU d.neg (W++R) R.length=(d,0)
 rl:R.length=d.scale.toNat
 wl:W.length<=60/\(R≠[]->W.length<=59)
theorem qIA {d:Dc} (h:zO d=true):∃ W R,WholeP d W R:=by
 obtain⟨W,R,hp,hW,hR,h0,h1,hn⟩:=zEC h
 obtain⟨⟨_,h2,_,h4⟩,_,h6⟩:=jB h
 have hb:=qAQ h
 have hpa:(wV d).all qO=true:=by unfold wV;rw[List.all_append,qVI,h4];rfl
 have hpl:(wV d).length=if d.scale.toNat+1<=d.digits.length then d.digits.length else d.scale.toNat+1:=by
  unfold wV;simp[zZ];split <;> omega
 have e:W++(if R=[] then[] else 46::R)=(if d.scale=0 then wV d else(wV d).take ((wV d).length-d.scale.toNat)++46::(wV d).drop ((wV d).length-d.scale.toNat)):=by
  unfold xD at hp
  exact(List.append_cancel_left hp).symm
 have hFh:∀ b,(if R=[] then[] else(46:UInt8)::R).head?=some b->qO b=false:=by
  split
  ·simp
  intro b hb;simp at hb;subst hb;decide
 obtain⟨t1,t2⟩:=qYW hW hFh
 rw[e]at t1 t2
 by_cases hs:d.scale=0
 ·rw[if_pos hs]at t1 t2
  obtain⟨a1,a2⟩:=zQX hpa
  rw[a2]at t2
  rw[a1]at t1
  have hR0:R=[]:=by
   by_cases hR:R=[]
   ·exact hR
   rw[if_neg hR]at t2;cases t2
  refine⟨W,R,hp,hW,hR,h0,h1,hn,by rw[hR0,hs];rfl, ?_,fun h=>absurd hR0 h⟩
  rw[<-t1,hpl];split <;> omega
 rw[if_neg hs]at t1 t2
 have hd46:∀ b,((46:UInt8)::(wV d).drop ((wV d).length-d.scale.toNat)).head?=some b->qO b=false:=by
  intro b hb;simp at hb;subst hb;decide
 obtain⟨b1,b2⟩:=qYW (W:=(wV d).take ((wV d).length-d.scale.toNat)) (qGP hpa _) hd46
 rw[b1]at t1
 rw[b2]at t2
 have hRn:R≠[]:=by
  intro hR;rw[if_pos hR]at t2;cases t2
 rw[if_neg hRn]at t2
 have hR2:R=(wV d).drop ((wV d).length-d.scale.toNat):=(List.cons.inj t2).2.symm
 have hlen:W.length<=59:=by
  rw[<-t1,List.length_take,hpl];split <;> omega
 refine⟨W,R,hp,hW,hR,h0,h1,hn, ?_,by omega,fun _=>hlen⟩
 rw[hR2,List.length_drop,hpl];split <;> omega
theorem zKK (neg:Bool) {v:Nat} (h:v<10 ^ 60):(kQ neg v 0).2=0:=by
 have hl:(qX (Lib.decDigits v)).length<=60:=(zXO v 60).2 h
 unfold kQ wU
 generalize qX (Lib.decDigits v)=t at *
 by_cases h0:t=[]
 ·subst h0;rfl
 simp[wH,h0,show ¬ 60<t.length by omega]
def uN (d:Dc):Nat:=zW d.digits / 10 ^ d.scale.toNat
def zR (d:Dc) (far:Bool):Dc × Int:=kQ d.neg (uN d+if far=true then 1 else 0) 0
theorem qKY {d:Dc} {W R:List UInt8} (h:WholeP d W R):zW d.digits=zW W * 10 ^ R.length+zW R/\zW R<10 ^ R.length/\uN d=zW W:=by
 have hn:=h.norm
 rw[qJU d.neg (by rw[List.all_append,h.wd,h.rd];rfl),qBP]at hn
 obtain⟨n1,n2,n3,n4,n5⟩:=zAG hn
 rw[h.rl]at n3 ⊢
 rw[Nat.sub_self,Nat.pow_zero,Nat.mul_one]at n3
 have hr:=xZ h.rd
 rw[h.rl]at hr
 refine⟨n3,hr, ?_⟩
 unfold uN
 rw[n3,Nat.mul_comm,Nat.mul_add_div (Nat.pow_pos (by decide)),Nat.div_eq_of_lt hr,Nat.add_zero]
theorem qYN {d:Dc} (h:zO d=true) {far:Bool} (hf:far=true->0<d.scale) :
  ∃ x,zR d far=(x,0)/\zO x=true/\x.scale=0/\∀ M:Int,0<=M->zV x M=(if d.neg=true then -1 else 1) * (((uN d+if far=true then 1 else 0:Nat):Int) * 10 ^ M.toNat):=by
 obtain⟨W,R,hp⟩:=qIA h
 obtain⟨v1,v2,v3⟩:=qKY hp
 have hlt:(uN d+if far=true then 1 else 0)<10 ^ 60:=by
  have h1:=xZ hp.wd
  rw[v3]
  by_cases hfar:far=true
  ·rw[if_pos hfar]
   have hs:=hf hfar
   have hR:R≠[]:=by intro e;have:=hp.rl;rw[e]at this;simp at this;omega
   have h2:zW W<10 ^ 59:=Nat.lt_of_lt_of_le h1 (Nat.pow_le_pow_right (by decide) (hp.wl.2 hR))
   have:(10:Nat) ^ 59 * 2<=10 ^ 60:=by decide
   omega
  rw[if_neg hfar]
  exact Nat.lt_of_lt_of_le h1 (Nat.pow_le_pow_right (by decide) hp.wl.1)
 have hc:=zKK d.neg hlt
 have hx:zR d far=((zR d far).1,0):=Prod.ext rfl hc
 generalize hN:(uN d+if far=true then 1 else 0)=N at *
 have hx2:kQ d.neg N 0=((zR d far).1,0):=by rw[<-hx];unfold zR;rw[hN]
 obtain⟨n1,n2,n3,n4,n5⟩:=zAG hx2
 have hb:=qAQ n1
 have hs0:(zR d far).1.scale=0:=by omega
 refine⟨_,hx,n1,hs0,fun M hM => ?_⟩
 rw[show 0-(zR d far).1.scale.toNat=0 by omega,Nat.pow_zero,Nat.mul_one]at n3
 unfold zV
 rw[n3,hs0,Int.sub_zero]
 by_cases hz:N=0
 ·rw[hz]at n5 ⊢
  rw[n5 rfl]
  simp
 rw[n4 hz]
 rw[Int.natCast_mul,Int.natCast_pow]
 split
 ·rw[Int.neg_one_mul];rfl
 rw[Int.one_mul];rfl
def qSV (neg:Bool):Dc:=⟨neg,[49],0⟩
theorem qYV (neg:Bool):zO (qSV neg)=true:=by cases neg <;> decide +kernel
theorem zIZ {d:Dc} (h:zO d=true):qHO (zR d false).1 (qSV d.neg)=zR d true:=by
 obtain⟨x,h1,h2,h3,h4⟩:=qYN h (far:=false) (fun h=>by cases h)
 rw[h1,zYI h2 (qYV _)]
 have hm:zY x (qSV d.neg)=0:=by unfold zY;rw[h3];rfl
 rw[hm,h4 0 (by omega)]
 have hu:zV (qSV d.neg) 0=if d.neg=true then -1 else 1:=by cases d.neg <;> rfl
 rw[hu]
 unfold zR zOD
 simp only[Int.toNat_zero,Int.pow_zero,Int.mul_one,if_false,Bool.false_eq_true,Nat.add_zero,if_true]
 cases d.neg with
 | true =>
  simp only[if_true]
  rw[show decide ((-1:Int) * (uN d:Int) + -1<0)=true by simp;omega,show((-1:Int) * (uN d:Int) + -1).natAbs=uN d+1 by omega]
 | false =>
  simp only[if_false,Bool.false_eq_true]
  rw[show decide ((1:Int) * (uN d:Int)+1<0)=false by simp;omega,show((1:Int) * (uN d:Int)+1).natAbs=uN d+1 by omega]
theorem qYM {d:Dc} {W R:List UInt8} (h:WholeP d W R):xE ((if d.neg=true then[45] else[])++W)=zR d false:=by
 have:=zAB d.neg W [] h.wd rfl h.wne h.lead
 simp only[if_true,List.append_nil,List.length_nil]at this
 rw[this]
 rw[qJU _ h.wd]
 unfold zR
 rw[(qKY h).2.2];simp
theorem zDI {d:Dc} {W:List UInt8} (h:WholeP d W []):zR d false=(d,0):=by
 have hn:=h.norm
 rw[List.append_nil,List.length_nil,qJU _ h.wd]at hn
 unfold zR
 rw[(qKY h).2.2];simpa using hn
theorem qYO {d:Dc} {W R:List UInt8} (h:WholeP d W R):Lib.indexByte (xD d) 46=if R=[] then -1 else(((if d.neg=true then[45] else[])++W:List UInt8).length:Int):=by
 have hno:(46:UInt8) ∉ ((if d.neg=true then[45] else[])++W:List UInt8):=by
  intro hm
  rcases List.mem_append.1 hm with hm|hm
  ·split at hm
   ·simp at hm
   simp at hm
  have:=List.all_eq_true.1 h.wd _ hm
  revert this;decide
 rw[h.form]
 by_cases hR:R=[]
 ·rw[if_pos hR,if_pos hR,List.append_nil];exact qUM hno
 rw[if_neg hR,if_neg hR,<-List.append_assoc];exact qLS hno
end Go.Proofs.YtgcbapchinideaaGreatDoor
