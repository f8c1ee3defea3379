import Derived.Test.YtlmedakhioiahaaGreatDoorSBackJ
namespace Go.Proofs.YtlmedakhioiahaaGreatDoor
open Sy Go
set_option maxRecDepth 100000
set_option maxHeartbeats 4000000
set_option linter.unusedSimpArgs false
set_option linter.unusedVariables false
variable {G:qO}
theorem qEV (s:List UInt8):(qAA s).length≤4100:=by
 unfold qAA
 split
 ·rw [List.length_take]; omega
 omega
theorem qLD (hG:U8 G) (hE:PE G) (j:Jb) (at0:Int) (hb:qRE j) (h0 : -9223372036854775808≤at0) (h1:at0≤9223372036854775807):AFn Tryz.prog G 4 [j.enc,.int .i64 at0] (.bool true):=by
 refine AFn.introU tok Tryz.func4 (by kernel_rfl) rfl rfl ?_
 simp only [Tryz.f4,qR,List.map_cons,List.map_nil]
 have hsh:=qST (G:=G) hG
 have hfe:=zGL (G:=G) j
 have hb':qRE (qGA j):=fun k hk=>by have:yP (qGA j) k=yP j k:=rfl; rw [this]; exact hb k hk
 have hp:=qVM (G:=G) hG (qGA j) hb' (fun h=>qGO (qHN h) (qNZ _) (by rw [qTM]; decide))
 have hM:qZL (qGA j)=if (zC (qGA j)).all zU=true then (qF (xV (qGA j)),0) else ([],1):=rfl
 rw [hM] at hp
 have hbd:∀ n:Int,AFn Tryz.prog G 15 [.int .i64 n] (.bool (inB n)):=fun n=>zBK n
 have hR:=fun (t:List UInt8) (h:t.length≤1000000)=>qZK (G:=G) hG hE t h
 have w1:(qGA j).p.length≤4100:=qEV _
 have w2:(qGA j).f.length≤4100:=qEV _
 have w3:(qGA j).i.length≤4100:=qEV _
 have w4:(qGA j).n.length≤4100:=qEV _
 generalize qGA j=f at *
 refine rgn [] [[],[1,2]] ?_
 iterate 2 refine op1 tok ?_
 refine qA (rgn [.nilp,.bool true] [[],[1,2,5]] ?_)
 iterate 2 refine oq1 tok hsh ?_
 refine qA (rgn [.nilp,f.enc] [[],[],[1,2,5]] ?_)
 iterate 3 refine oq1 tok hfe ?_
 refine qA ?_
 by_cases hs3:(zC f).all zU=true
 ·
  rw [if_pos hs3] at hp
  obtain ⟨b1,b2,b3,b4⟩:=qUK hs3 hb'
  have b5:=fun (k:Nat) (hk:k<(qF (xV f)).length)=>qZS hs3 hk
  generalize qF (xV f)=s at *
  have c3:=hR (s++[49]) (by simp; omega)
  rw [b3] at c3
  have c1:=hR s (by omega)
  rw [b1] at c1
  have c2:=hR ([32]++s++[10]) (by simp; omega)
  rw [b2] at c2
  have hAB:qKN f=(inB f.a && inB f.b && inB f.c && inB f.d):=rfl
  simp only [List.cons_append,List.nil_append] at c2
  refine rgn [.nilp,.tup [.str s,.int .i64 0]] [[],[],[],[],[],[1,2,5,6,24],[1,2,5,6,7]] ?_
  iterate 7 refine oq1 tok hp ?_
  refine qA (AW.seq (rgn [] [[],[],[],[],[1,2,5,6,27,29],[],[],[],[],[1,2,5,6,27,34],[],[],[],[1,2,5,6,27,38],[],[],[],[1,2,5,6,27,42],[],[1,2,5,6,44]] ?_))
  iterate 3 refine op1 tok ?_
  iterate 16 refine op2 tok ?_
  refine op1 tok ?_
  refine qA (cnd ?_ ?_)
  ·intro h44
   try simp at h44
   refine rgn [] [[],[4]] ?_
   iterate 2 refine op1 tok ?_
   exact qA (AW.ret qZ)
  intro h44
  try simp at h44
  refine AW.skip ?_
  by_cases hs6:qKN f=true
  ·
   rw [if_pos hs6] at c1 c2
   rw [hs6] at hAB
   have hAB:=hAB.symm
   simp only [Bool.and_eq_true] at hAB
   obtain ⟨⟨⟨a1,a2⟩,a3⟩,a4⟩:=hAB
   have d1:=hbd f.a
   have d2:=hbd f.b
   have d3:=hbd f.c
   have d4:=hbd f.d
   rw [a1] at d1
   rw [a2] at d2
   rw [a3] at d3
   rw [a4] at d4
   refine rgn [.nilp,.tup [f.enc,.int .i64 0]] [[],[],[],[],[],[],[1,2,5,6,8,50],[1,2,5,6,8,9]] ?_
   iterate 8 refine oq1 tok c1 ?_
   refine qA (rgn [.nilp,.tup [f.enc,.int .i64 0]] [[],[],[],[],[1,2,5,6,8,9,51],[],[],[],[],[1,2,5,6,8,9,10,11]] ?_)
   iterate 10 refine oq1 tok c2 ?_
   refine qA (rgn [.nilp,.tup [jb0.enc,.int .i64 240]] [[],[],[],[],[],[1,2,5,6,8,9,10,11,62,63],[],[],[1,2,5,6,8,9,10,11,13]] ?_)
   iterate 9 refine oq1 tok c3 ?_
   refine qA (rgn [.nilp,.bool true,.nilp,.bool true,.nilp,.bool true,.nilp,.bool true] [[],[],[],[],[],[1,2,5,6,8,9,10,11,13,67,69],[],[],[1,2,5,6,8,9,10,11,13,72],[],[],[],[1,2,5,6,8,9,10,11,13,76],[],[],[],[],[1,2,5,6,8,9,10,11,13,81],[1,2,5,6,8,9,10,11,13,14]] ?_)
   iterate 19 first | refine op1 tok ?_ (hv:=by first | with_reducible exact True.intro | (first | exact d1 | exact d2 | exact d3 | exact d4 | exact fun _=>d1 | exact fun _=>d2 | exact fun _=>d3 | exact fun _=>d4; done) | omega | simp | (simp +contextual; omega)) | refine op2 tok ?_ (hv:=by first | with_reducible exact True.intro | (first | exact d1 | exact d2 | exact d3 | exact d4 | exact fun _=>d1 | exact fun _=>d2 | exact fun _=>d3 | exact fun _=>d4; done) | omega | simp | (simp +contextual; omega))
   refine qA (AW.seq (rgn [] [[],[1,2,5,6,8,9,10,11,13,83]] ?_))
   iterate 2 refine op1 tok ?_
   refine qA (cnd ?_ ?_)
   ·intro h83
    try simp at h83
   intro h83
   try simp at h83
   refine AW.skip (AW.seq (rgn [] [[],[],[],[],[],[],[1,2,5,6,8,9,10,11,13,95,99],[1,2,5,6,8,9,10,11,13,100]] ?_))
   iterate 3 refine op1 tok ?_
   iterate 4 refine op2 tok ?_
   refine op1 tok ?_
   refine qA (cnd ?_ ?_)
   ·intro h100
    try simp at h100
    have hat:at0.toNat<s.length:=by omega
    have c5:=hR (s.take at0.toNat) (by simp; omega)
    rw [b5 _ hat] at c5
    refine rgn [.nilp,.tup [jb0.enc,.int .i64 240]] [[],[],[2,5,8,9,10,11,13,104],[],[],[],[],[],[2,5,8,9,10,11,13,107],[2,5,8,9,10,11,13,16]] ?_
    iterate 10 refine oq1 tok c5 ?_
    refine qA (rgn [] [[],[2,5,8,9,10,11,13,109]] ?_)
    iterate 2 refine op1 tok ?_
    refine qA (cnd ?_ ?_)
    ·intro h109
     try simp at h109
    intro h109
    try simp at h109
    refine AW.skip (rgn [] [[],[],[],[2,8,10,11,13,111,113],[],[],[2,10,11,13,115,116],[],[],[2,10,11,13,119],[],[],[],[2,10,13,123],[],[],[],[13,124,127],[],[],[129,130],[],[],[4]] ?_)
    iterate 24 first | refine op1 tok ?_ | refine op2 tok ?_
    exact qA (AW.ret qZ)
   intro h100
   try simp at h100
   refine AW.skip (rgn [] [[],[],[],[2,8,10,11,13,111,113],[],[],[2,10,11,13,115,116],[],[],[2,10,11,13,119],[],[],[],[2,10,13,123],[],[],[],[13,124,127],[],[],[129,130],[],[],[4]] ?_)
   iterate 24 first | refine op1 tok ?_ | refine op2 tok ?_
   exact qA (AW.ret qZ)
  ·
   rw [if_neg hs6] at c1 c2
   have d1:=hbd f.a
   have d2:=hbd f.b
   have d3:=hbd f.c
   have d4:=hbd f.d
   have hAB:(inB f.a && inB f.b && inB f.c && inB f.d)=false:=by rw [← hAB]; simpa using hs6
   generalize inB f.a=a1 at *
   generalize inB f.b=a2 at *
   generalize inB f.c=a3 at *
   generalize inB f.d=a4 at *
   refine rgn [.nilp,.tup [jb0.enc,.int .i64 240]] [[],[],[],[],[],[],[1,2,5,6,8,50],[1,2,5,6,8,9]] ?_
   iterate 8 refine oq1 tok c1 ?_
   refine qA (rgn [.nilp,.tup [jb0.enc,.int .i64 240]] [[],[],[],[],[1,2,5,6,8,9,51],[],[],[],[],[1,2,5,6,8,9,10,11]] ?_)
   iterate 10 refine oq1 tok c2 ?_
   refine qA (rgn [.nilp,.tup [jb0.enc,.int .i64 240]] [[],[],[],[],[],[1,2,5,6,8,9,10,11,62,63],[],[],[1,2,5,6,8,9,10,11,13]] ?_)
   iterate 9 refine oq1 tok c3 ?_
   refine qA (rgn [.nilp,.bool a1,.nilp,.bool a2,.nilp,.bool a3,.nilp,.bool a4] [[],[],[],[],[],[1,2,5,6,8,9,10,11,13,67,69],[],[],[1,2,5,6,8,9,10,11,13,72],[],[],[],[1,2,5,6,8,9,10,11,13,76],[],[],[],[],[1,2,5,6,8,9,10,11,13,81],[1,2,5,6,8,9,10,11,13,14]] ?_)
   iterate 19 first | refine op1 tok ?_ (hv:=by first | with_reducible exact True.intro | (first | exact d1 | exact d2 | exact d3 | exact d4 | exact fun _=>d1 | exact fun _=>d2 | exact fun _=>d3 | exact fun _=>d4 | exact fun h=>⟨h,d2⟩ | exact fun h1 h2=>⟨⟨h1,h2⟩,d3⟩ | exact fun h1 h2 h3=>⟨⟨⟨h1,h2⟩,h3⟩,d4⟩; done) | omega | simp | (simp +contextual; omega)) | refine op2 tok ?_ (hv:=by first | with_reducible exact True.intro | (first | exact d1 | exact d2 | exact d3 | exact d4 | exact fun _=>d1 | exact fun _=>d2 | exact fun _=>d3 | exact fun _=>d4 | exact fun h=>⟨h,d2⟩ | exact fun h1 h2=>⟨⟨h1,h2⟩,d3⟩ | exact fun h1 h2 h3=>⟨⟨⟨h1,h2⟩,h3⟩,d4⟩; done) | omega | simp | (simp +contextual; omega))
   refine qA (AW.seq (rgn [] [[],[1,2,5,6,8,9,10,11,13,83]] ?_))
   iterate 2 refine op1 tok ?_
   refine qA (cnd ?_ ?_)
   ·intro h83
    try simp at h83
    refine rgn [] [[],[],[],[11,85,87],[],[],[89,90],[],[],[4]] ?_
    iterate 10 first | refine op1 tok ?_ | refine op2 tok ?_
    exact qA (AW.ret qZ)
   intro h83
   try simp at h83
   simp_all
 ·
  rw [if_neg hs3] at hp
  refine rgn [.nilp,.tup [.str [],.int .i64 1]] [[],[],[],[],[],[1,2,5,6,24],[1,2,5,6,7]] ?_
  iterate 7 refine oq1 tok hp ?_
  refine qA (AW.seq (rgn [] [[],[],[],[],[1,2,5,6,27,29],[],[],[],[],[1,2,5,6,27,34],[],[],[],[1,2,5,6,27,38],[],[],[],[1,2,5,6,27,42],[],[1,2,5,6,44]] ?_))
  iterate 3 refine op1 tok ?_
  iterate 16 refine op2 tok ?_
  refine op1 tok ?_
  refine qA (cnd ?_ ?_)
  ·intro h44
   try simp at h44
   refine rgn [] [[],[4]] ?_
   iterate 2 refine op1 tok ?_
   exact qA (AW.ret qZ)
  intro h44
  try simp at h44
end Go.Proofs.YtlmedakhioiahaaGreatDoor
