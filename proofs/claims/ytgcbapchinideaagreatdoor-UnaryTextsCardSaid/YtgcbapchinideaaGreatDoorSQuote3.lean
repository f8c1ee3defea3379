import Derived.Test.YtgcbapchinideaaGreatDoorK1
import Derived.Test.YtgcbapchinideaaGreatDoorM4
import Derived.Test.YtgcbapchinideaaGreatDoorM3
namespace Go.Proofs.YtgcbapchinideaaGreatDoor
open Sy Go
set_option maxRecDepth 100000
set_option maxHeartbeats 4000000
set_option linter.unusedSimpArgs false
set_option linter.unusedVariables false
variable {G:qJ}
theorem uI (b:UInt8) (n:Nat) (hn:n<256):((b.toNat:Int)=(n:Int))↔b=UInt8.ofNat n:=by
 constructor
 ·intro e; exact UInt8.toNat_inj.1 (by rw [UInt8.toNat_ofNat']; omega)
 rintro rfl; rw [UInt8.toNat_ofNat']; omega
def qXB:List UInt8:=[48,49,50,51,52,53,54,55,56,57,97,98,99,100,101,102]
theorem qHS {k:Nat} (h:k<16):qXB[k]?=some (xD k):=by
 have h':∀ k:Fin 16,qXB[k.val]?=some (xD k.val):=by decide
 exact h' ⟨k,h⟩
theorem qKP {s:List UInt8} {k:Nat} {b:UInt8} (h:s[k]?=some b):wQ (s.take (k+1))=wQ (s.take k)++qb b:=by
 rw [List.take_add_one,h,qBA]; simp [wQ]
theorem qEU (s:List UInt8):(wQ s).length≤6 * s.length:=by
 induction s with
 | nil=>simp [wQ]
 | cons b s ih =>
  have h:(qb b).length≤6:=by unfold qb; (repeat' split) <;> simp
  show (qb b++wQ s).length≤_
  rw [List.length_append,List.length_cons]; omega
theorem qRW (s:List UInt8) (hs:s.length≤1000000000):AFn Tryz.prog G 22 [.str s] (.str (zM s)):=by
 refine AFn.introU tok Tryz.func22 (by kernel_rfl) rfl rfl ?_
 simp only [Tryz.f22,qK,List.map_cons,List.map_nil]
 refine rgn [] [[0]] ?_
 refine op1 tok ?_
 refine qA (rgn [.int .u8 34] [[],[0,3]] ?_)
 iterate 2 refine op1 tok ?_
 refine qA (AW.seq (rgn [] [[]] ?_))
 refine op1 tok ?_
 refine qA (AW.block ?_)
 refine AW.loop (α:=Nat) (fun k=>k≤s.length) (fun k=>⟨zA 69 [(0,.p (.str s)),(3,.ms 6),(4,.p (.int .i64 k))],[],[(6,.row 5 1 (qE (34::wQ (s.take k))))],0⟩) (fun k=>s.length-k) (0) (by omega) ⟨qG (by simp),rfl,by simp [qE,wQ],by simp⟩ ?_
 rintro k hk
 have hq6:=qEU (s.take k)
 have htk:(s.take k).length≤k:=by simp; omega
 refine AW.seq (rgn [] [[],[],[],[0,3,4,10]] ?_)
 iterate 4 refine op1 tok ?_
 refine qA (cnd ?_ ?_)
 ·intro h10
  try simp at h10
  obtain ⟨b,hb⟩:∃ b,s[k]?=some b:=⟨s[k],by simp [h10]⟩
  have hsn:=qKP hb
  have l34:((b.toNat:Int)=34)↔b=34:=uI b 34 (by decide)
  have l92:((b.toNat:Int)=92)↔b=92:=uI b 92 (by decide)
  have l10:((b.toNat:Int)=10)↔b=10:=uI b 10 (by decide)
  have l13:((b.toNat:Int)=13)↔b=13:=uI b 13 (by decide)
  have l9:((b.toNat:Int)=9)↔b=9:=uI b 9 (by decide)
  have l127:((b.toNat:Int)=127)↔b=127:=uI b 127 (by decide)
  have l32:(b.toNat:Int)<32↔b<32:=by rw [UInt8.lt_iff_toNat_lt]; show (b.toNat:Int)<32↔b.toNat<32; omega
  generalize wQ (s.take k)=q at *
  refine AW.skip ?_
  refine AW.join (α:=Unit) (fun _=>True) (fun a=>⟨zA 69 [(0,.p (.str s)),(3,.ms 6),(4,.p (.int .i64 k))],[],[(6,.row 5 1 (qE (34::q++qb b)))],0⟩) ?_ ?_
  ·
   refine AW.block (rgn [.int .u8 b.toNat] [[],[],[],[0,3,4,5]] ?_)
   iterate 4 refine op1 tok ?_ (hv:=by first | with_reducible exact True.intro | ((simp [hb]); done) | omega | simp | (simp +contextual; omega))
   refine qA (AW.block (rgn [] [[],[],[],[],[],[0,3,4,5,26],[0,3,4,5,20]] ?_))
   iterate 3 refine op1 tok ?_
   iterate 2 refine op2 tok ?_
   iterate 2 refine op1 tok ?_
   refine qA (cnd ?_ ?_)
   ·intro h20
    try simp at h20
    have hq:qb b=[92,b]:=by unfold qb; rw [if_pos (by rcases h20 with h | h; exact .inl (l34.1 h); exact .inr (l92.1 h))]
    refine rgz [.int .u8 92,.int .u8 b.toNat] [[],[],[],[0,4,30],[0,3,4]] ?_
    iterate 5 refine op1 tok ?_
    refine qA ?_
    exact ⟨(),trivial,qG (by simp [hq,qE]),rfl,by simp [hq,qE],by simp [hq,qE]⟩
   intro h20
   try simp at h20
   have n1:¬ (b=34∨b=92):=fun h=>h.elim (fun h=>absurd (l34.2 h) (by omega)) (fun h=>absurd (l92.2 h) (by omega))
   refine rgn [] [[],[],[0,3,4,5,31]] ?_
   iterate 3 refine op1 tok ?_
   refine qA (cnd ?_ ?_)
   ·intro h31
    try simp at h31
    have hq:qb b=[92,110]:=by unfold qb; rw [if_neg n1,if_pos (l10.1 h31)]
    refine rgz [.int .u8 92,.int .u8 110] [[],[],[],[0,3,4]] ?_
    iterate 4 refine op1 tok ?_
    refine qA ?_
    exact ⟨(),trivial,qG (by simp [hq,qE]),rfl,by simp [hq,qE],by simp [hq,qE]⟩
   intro h31
   try simp at h31
   have n2:¬ b=10:=fun h=>absurd (l10.2 h) (by omega)
   refine rgn [] [[],[],[0,3,4,5,37]] ?_
   iterate 3 refine op1 tok ?_
   refine qA (cnd ?_ ?_)
   ·intro h37
    try simp at h37
    have hq:qb b=[92,114]:=by unfold qb; rw [if_neg n1,if_neg n2,if_pos (l13.1 h37)]
    refine rgz [.int .u8 92,.int .u8 114] [[],[],[],[0,3,4]] ?_
    iterate 4 refine op1 tok ?_
    refine qA ?_
    exact ⟨(),trivial,qG (by simp [hq,qE]),rfl,by simp [hq,qE],by simp [hq,qE]⟩
   intro h37
   try simp at h37
   have n3:¬ b=13:=fun h=>absurd (l13.2 h) (by omega)
   refine rgn [] [[],[],[0,3,4,5,43]] ?_
   iterate 3 refine op1 tok ?_
   refine qA (cnd ?_ ?_)
   ·intro h43
    try simp at h43
    have hq:qb b=[92,116]:=by unfold qb; rw [if_neg n1,if_neg n2,if_neg n3,if_pos (l9.1 h43)]
    refine rgz [.int .u8 92,.int .u8 116] [[],[],[],[0,3,4]] ?_
    iterate 4 refine op1 tok ?_
    refine qA ?_
    exact ⟨(),trivial,qG (by simp [hq,qE]),rfl,by simp [hq,qE],by simp [hq,qE]⟩
   intro h43
   try simp at h43
   have n4:¬ b=9:=fun h=>absurd (l9.2 h) (by omega)
   refine rgn [] [[],[],[],[],[],[0,3,4,5,55],[0,3,4,5,49]] ?_
   iterate 3 refine op1 tok ?_
   iterate 2 refine op2 tok ?_
   iterate 2 refine op1 tok ?_
   refine qA (cnd ?_ ?_)
   ·intro h49
    try simp at h49
    have hq:qb b=[92,117,48,48,xD (b.toNat / 16),xD (b.toNat % 16)]:=by unfold qb; rw [if_neg n1,if_neg n2,if_neg n3,if_neg n4,if_pos (by rcases h49 with h | h; exact .inl (l32.1 h); exact .inr (l127.1 h))]
    have hb7:b.toNat<128:=by rcases h49 with h | h <;> omega
    have w1:IntKind.u8.wrap ((b.toNat:Int) / 16)=((b.toNat / 16:Nat):Int):=by simp [IntKind.wrap,IntKind.bits,IntKind.signed]; omega
    have w2:(b.toNat:Int) % 16=((b.toNat % 16:Nat):Int):=by omega
    have w3:(b.toNat:Int).tmod 16=((b.toNat % 16:Nat):Int):=by rw [Int.tmod_eq_emod_of_nonneg (by omega)]; omega
    have x1:=qHS (k:=b.toNat / 16) (by omega)
    have x2:=qHS (k:=b.toNat % 16) (by omega)
    refine AW.drawS tok mixed 9 [[3],[5],[57],[58],[5],[60],[61],[59,62],[56,63]] [.int .u8 (xD (b.toNat / 16)).toNat,.int .u8 (xD (b.toNat % 16)).toNat,.int .u8 92,.int .u8 117,.int .u8 48,.int .u8 48,.int .u8 (xD (b.toNat / 16)).toNat,.int .u8 (xD (b.toNat % 16)).toNat] [] (by kernel_rfl) ?_
    iterate 9 refine d1 ?_ (hv:=by first | with_reducible exact True.intro | (first | (rw [w1]; exact ⟨by omega,_,x1,rfl⟩) | (rw [w3]; exact ⟨by omega,_,x2,rfl⟩) | omega; done) | omega | simp | (simp +contextual; omega))
    refine DGo.nil (by kernel_rfl) ⟨by kernel_rfl, ?_⟩
    refine qF.run [[0,3,4]] ?_
    refine op1 tok ?_
    refine zG ?_
    refine qF.take 64 6 (by conv=>lhs; simp) ?_
    refine qF.nil ?_
    exact ⟨(),trivial,qG (by simp [hq,qE]),rfl,by simp [hq,qE],by simp [hq,qE]⟩
   intro h49
   try simp at h49
   have hq:qb b=[b]:=by unfold qb; rw [if_neg n1,if_neg n2,if_neg n3,if_neg n4,if_neg (by rintro (h | h); exact absurd (l32.2 h) (by omega); exact absurd (l127.2 h) (by omega))]
   refine rgz [.int .u8 b.toNat] [[],[],[],[0,4,19],[0,3,4]] ?_
   iterate 5 refine op1 tok ?_
   refine qA ?_
   exact ⟨(),trivial,qG (by simp [hq,qE]),rfl,by simp [hq,qE],by simp [hq,qE]⟩
  ·
   rintro a hI
   refine rgz [] [[],[],[0,3,4]] ?_
   iterate 3 refine op1 tok ?_
   refine qA ?_
   exact ⟨k+1,by omega,by omega,qG (by simp [hsn]),rfl,by simp [hsn],by simp [hsn]⟩
 intro h10
 try simp at h10
 obtain rfl:k=s.length:=by omega
 rw [List.take_of_length_le (Nat.le_refl _)]
 have hq7:=qEU s
 refine AW.exit ?_
 simp
 refine rgn [.int .u8 34,.str (zM s)] [[],[],[],[68],[2]] ?_
 iterate 5 refine op1 tok ?_ (hv:=by first | with_reducible exact True.intro | ((simp [zM,qE]); done) | omega | simp | (simp +contextual; omega))
 exact qA (AW.ret qO)
end Go.Proofs.YtgcbapchinideaaGreatDoor
