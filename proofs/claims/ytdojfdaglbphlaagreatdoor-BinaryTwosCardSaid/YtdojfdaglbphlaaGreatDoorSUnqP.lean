import Derived.Test.YtdojfdaglbphlaaGreatDoorK3
namespace Go.Proofs.YtdojfdaglbphlaaGreatDoor
open Sy Go
set_option maxRecDepth 100000
set_option maxHeartbeats 4000000
set_option linter.unusedSimpArgs false
set_option linter.unusedVariables false
variable {G:qR}
theorem qXQ (s:List UInt8) (hs:s.length≤1000000000) (hp:∀ b∈s,b≠92):AFn Tryz.prog G 213 [.str s] (.tup [.str (zN s).1,.int .i64 (zN s).2.1,.int .i64 (zN s).2.2]):=by
 refine AFn.introU tok Tryz.func213 (by kernel_rfl) rfl rfl ?_
 simp only [Tryz.f213,qI,List.map_cons,List.map_nil]
 have hun:zN s=if s.head?=some 34 then uB s.length (s.drop 1) 1 [] else ([],0,6):=rfl
 have hh:s.head?=s[0]?:=by cases s <;> rfl
 have hg0:s.length≠0→s[0]?=some (s.getD 0 0):=fun h=>by cases s with
  | nil=>exact absurd rfl h
  | cons b r=>rfl
 rw [hh] at hun
 generalize s.getD 0 0=c0 at *
 have l0:((c0.toNat:Int)=34)↔c0=34:=kE c0 34 (by decide)
 refine rgn [] [[],[],[0]] ?_
 iterate 3 refine op1 tok ?_
 refine qA (AW.seq (rgn [.int .u8 c0.toNat] [[],[],[],[],[],[0,14,16],[],[0,18]] ?_))
 iterate 4 refine op1 tok ?_ (hv:=by first | with_reducible exact True.intro | (exact fun h=>⟨h,c0,hg0 (by simpa using h),rfl⟩; done) | omega | simp | (simp +contextual; omega))
 iterate 3 refine op2 tok ?_ (hv:=by first | with_reducible exact True.intro | (exact fun h=>⟨h,c0,hg0 (by simpa using h),rfl⟩; done) | omega | simp | (simp +contextual; omega))
 refine op1 tok ?_ (hv:=by first | with_reducible exact True.intro | (exact fun h=>⟨h,c0,hg0 (by simpa using h),rfl⟩; done) | omega | simp | (simp +contextual; omega))
 refine qA (cnd ?_ ?_)
 ·intro h18
  try simp at h18
  rw [if_neg (fun h=>by
   have hne:s.length≠0:=by rintro h'; rw [List.length_eq_zero_iff.1 h'] at h; cases h
   rw [hg0 hne] at h
   rcases h18 with h' | h'
   ·exact hne (by rw [h']; rfl)
   exact h' (l0.2 (Option.some.inj h)))] at hun
  rw [hun]
  refine rgn [] [[],[],[]] ?_
  iterate 3 refine op1 tok ?_
  exact qA (AW.ret qG)
 intro h18
 try simp at h18
 rw [if_pos (by rw [hg0 (fun h=>h18.1 (List.length_eq_zero_iff.1 h)),l0.1 h18.2])] at hun
 refine AW.skip (rgn [] [[]] ?_)
 refine op1 tok ?_
 refine qA (rgn [] [[]] ?_)
 refine op1 tok ?_
 refine qA (AW.seq (AW.block ?_))
 refine AW.loop (α:=Nat × List UInt8 × Nat) (fun a=>1≤a.1∧zN s=uB a.2.2 (s.drop a.1) a.1 a.2.1∧s.length≤a.1+a.2.2∧a.2.1.length≤4 * a.1∧a.1≤2000000000) (fun a=>⟨qV 76 [(0,.p (.str s)),(5,.p (.str a.2.1)),(6,.p (.int .i64 a.1))],[],[],0⟩) (fun a=>s.length-a.1) ((1,[],s.length)) ⟨Nat.le_refl _,hun,by simp only []; omega,by simp,by simp⟩ ⟨qB (by simp),rfl,by simp,by simp⟩ ?_
 rintro ⟨k,out,f⟩ ⟨hk1,hq,hf,ho,hkb⟩
 simp only at hk1 hq hf ho hkb
 refine AW.seq (rgn [] [[],[],[],[0,5,6,22]] ?_)
 iterate 4 refine op1 tok ?_
 refine qA (cnd ?_ ?_)
 ·intro h22
  try simp at h22
  obtain ⟨c,hc⟩:∃ c,s[k]?=some c:=⟨s[k]'(by omega),List.getElem?_eq_getElem _⟩
  obtain ⟨g,rfl⟩:∃ g,f=g+1:=⟨f-1,by omega⟩
  have hkl:=(List.getElem?_eq_some_iff.1 hc).1
  have hne:s.drop k≠[]:=by intro e; have:=congrArg List.length e; simp at this; omega
  have hcons:s.drop k=c::s.drop (k+1):=by rw [List.drop_eq_getElem_cons hkl,(List.getElem?_eq_some_iff.1 hc).2]
  have l34:((c.toNat:Int)=34)↔c=34:=kE c 34 (by decide)
  have l92:((c.toNat:Int)=92)↔c=92:=kE c 92 (by decide)
  have hst:=qRU hne g k out
  have hru:=fun h1 h2=>zKR hc h1 h2 g out
  refine AW.skip (AW.block (AW.seq (rgn [.int .u8 c.toNat] [[],[],[],[0,5,6,26]] ?_)))
  iterate 4 refine op1 tok ?_ (hv:=by first | with_reducible exact True.intro | (exact ⟨c,hc,rfl⟩; done) | omega | simp | (simp +contextual; omega))
  refine qA (cnd ?_ ?_)
  ·intro h26
   try simp at h26
   have hd:Lib.decodeL (s.drop k)=(34,1):=by rw [hcons,l34.1 h26]; exact qQB (by decide)
   rw [hst,hd,if_pos rfl] at hq
   refine AW.seq (rgn [] [[],[],[5,6,29]] ?_)
   iterate 3 refine op1 tok ?_
   refine qA (cnd ?_ ?_)
   ·intro h29
    try simp at h29
    rw [if_pos (by omega)] at hq
    rw [hq]
    refine rgn [] [[],[],[]] ?_
    iterate 3 refine op1 tok ?_
    exact qA (AW.ret qG)
   intro h29
   try simp at h29
   rw [if_neg (by omega)] at hq
   rw [hq]
   refine AW.skip (rgn [] [[],[],[],[2,32],[],[2,3,4]] ?_)
   iterate 6 refine op1 tok ?_
   exact qA (AW.ret qG)
  intro h26
  try simp at h26
  refine AW.skip (AW.seq (rgn [.int .u8 c.toNat] [[],[],[],[0,5,6,36]] ?_))
  iterate 4 refine op1 tok ?_ (hv:=by first | with_reducible exact True.intro | (exact ⟨c,hc,rfl⟩; done) | omega | simp | (simp +contextual; omega))
  refine qA (cnd ?_ ?_)
  ·intro h36
   try simp at h36
   exact absurd (l92.1 h36) (hp c (List.mem_of_getElem? hc))
  intro h36
  try simp at h36
  have hru:=hru (fun h=>h26 (l34.2 h)) (fun h=>h36 (l92.2 h))
  have hR:=zGJ (G:=G) s k hkl hs
  have hRl:=qGL s k hkl
  rw [hru] at hq
  clear hru hst
  generalize wC s k=R at *
  obtain ⟨x,n⟩:=R
  simp only at hq hRl hR
  refine AW.skip (rgn [.nilp,.tup [.int .i64 x,.int .i64 n]] [[],[],[],[],[],[0,5,6,57,58],[],[0,5,6,9,10]] ?_)
  iterate 8 refine oq1 tok hR ?_
  refine qA (AW.seq (rgn [] [[],[],[],[],[0,5,6,10,61,63],[0,5,6,10,64]] ?_))
  iterate 3 refine op1 tok ?_
  iterate 2 refine op2 tok ?_
  refine op1 tok ?_
  refine qA (cnd ?_ ?_)
  ·intro h64
   try simp at h64
   rw [if_pos (by omega)] at hq
   rw [hq]
   refine rgn [] [[],[],[]] ?_
   iterate 3 refine op1 tok ?_
   exact qA (AW.ret qG)
  intro h64
  try simp at h64
  rw [if_neg (by omega)] at hq
  obtain ⟨m,rfl⟩:∃ m:Nat,n=m:=⟨n.toNat,by omega⟩
  simp only [Int.toNat_natCast] at hq
  have hsl:(s.take (k+m)).drop k=(s.drop k).take m:=by rw [List.drop_take,Nat.add_sub_cancel_left]
  have hsl2:(s.take ((k:Int)+m).toNat).drop k=(s.drop k).take m:=by rw [show ((k:Int)+m).toNat=k+m by omega]; exact hsl
  refine AW.skip (rgn [] [[],[],[],[],[],[],[0,6,10,65,71],[],[0,5,6,10]] ?_)
  iterate 9 refine op1 tok ?_ (h:=by intro C; conv=>lhs; simp [hsl2])
  refine qA (rgz [] [[],[],[0,5,75],[0,5,6]] ?_)
  iterate 4 refine op1 tok ?_
  refine qA ?_
  exact ⟨(k+m,out++(s.drop k).take m,g),⟨by simp only []; omega,hq,by simp only []; omega,by simp only [List.length_append,List.length_take]; omega,by simp only []; omega⟩,by simp only []; omega,qB (by simp),rfl,by simp,by simp⟩
 intro h22
 try simp at h22
 rw [List.drop_of_length_le (by omega),zGR] at hq
 rw [hq]
 refine AW.exit ?_
 simp
 refine rgn [] [[],[],[]] ?_
 iterate 3 refine op1 tok ?_
 exact qA (AW.ret qG)
end Go.Proofs.YtdojfdaglbphlaaGreatDoor
