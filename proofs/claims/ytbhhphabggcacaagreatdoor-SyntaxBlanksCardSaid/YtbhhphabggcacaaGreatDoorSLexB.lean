import Derived.Test.YtbhhphabggcacaaGreatDoorSLexA
import Derived.Test.YtbhhphabggcacaaGreatDoorSUnqLe
namespace Go.Proofs.YtbhhphabggcacaaGreatDoor
open Sy Go
set_option maxRecDepth 100000
set_option maxHeartbeats 4000000
set_option linter.unusedSimpArgs false
set_option linter.unusedVariables false
variable {G:qS}
theorem qRB {s r : List UInt8} {k : Int} {d : Nat} (h1 : wM s = (k, d)) (h2 : s.drop d = r) : kI s =
  if qY r [34]=true∧k≠2 then
   (if (qO r).2.2≠0 then (uC k [],0) else (uC (if k=0 then 5 else k) (qO r).1,d+(qO r).2.1))
  else if k≠0∨0<spn kD r then
   (if (xS r).2=false then (uC (if k=0 then 1 else k) [],0) else (uC (if k=0 then 1 else k) (xS r).1,d+(xS r).1.length))
  else if 0<spn qF r then
   (if (jL (r.take (qAV r))).2≠0 then (uC 0 [],0) else (⟨4,0,[],(jL (r.take (qAV r))).1⟩,qAV r))
  else (uC 6 (vJ s),(vJ s).length):=by
 unfold kI; rw [h1]; simp only; rw [h2]
theorem zIG (s:List UInt8):(wM s).1=0∨(wM s).1=2∨(wM s).1=3:=by
 unfold wM
 split
 ·exact .inr (.inl rfl)
 split
 ·exact .inr (.inr rfl)
 exact .inl rfl
theorem zHS (hG:U8 G) (s:List UInt8) (hs:s≠[]) (hl:s.length≤100000):AFn Tryz.prog G 15 [.str s] (.tup [(kI s).1.enc,.int .i64 ((kI s).2:Nat)]):=by
 refine AFn.introU tok Tryz.func15 (by kernel_rfl) rfl rfl ?_
 simp only [Tryz.f15,qN,List.map_cons,List.map_nil]
 have hpos:=List.length_pos_iff.2 hs
 have g0:s[0]?=some (s.getD 0 0):=qBN hpos
 have g1:1<s.length→s[1]?=some (s.getD 1 0):=fun h=>qBN h
 have hK:wM s=if s.getD 0 0=36 then (2,1) else if s.getD 0 0=46∧1<s.length∧(s.getD 1 0=34∨kD (s.getD 1 0)=true) then (3,1) else (0,0):=rfl
 have hKl:=qGZ hs
 have hKo:=zIG s
 have hib:AFn Tryz.prog G 31 [.str kN,.int .u8 (s.getD 1 0).toNat] (.int .i64 (Lib.indexByte kN (s.getD 1 0))):=by
  have:=uN (G:=G) kN ((s.getD 1 0).toNat)
  simpa using this
 have hm:(0≤Lib.indexByte kN (s.getD 1 0))↔kD (s.getD 1 0)=true:=by rw [qFA,← qYZ,decide_eq_true_eq]
 generalize Lib.indexByte kN (s.getD 1 0)=ib at *
 generalize hK0:wM s=KD at *
 obtain ⟨k,d⟩:=KD
 simp only at hKl hKo
 have e0:(((s.getD 0 0).toNat:Nat):Int)=36↔s.getD 0 0=36:=qKT (k:=36) (by decide)
 have e1:(((s.getD 0 0).toNat:Nat):Int)=46↔s.getD 0 0=46:=qKT (k:=46) (by decide)
 have e2:(((s.getD 1 0).toNat:Nat):Int)=34↔s.getD 1 0=34:=qKT (k:=34) (by decide)
 have e3:(1:Int)<s.length↔1<s.length:=by omega
 generalize s.getD 0 0=x0 at *
 generalize s.getD 1 0=x1 at *
 have hO:=fun r h2=>qRB (s:=s) (r:=r) hK0 h2
 have hr:=hO _ rfl
 have hrl:(s.drop d).length≤100000:=by rw [List.length_drop]; omega
 have hrd:(s.drop d).length=s.length-d:=List.length_drop
 have h7:=qHI (G:=G) (s.drop d) [34]
 have h8:=qXS (G:=G) hG (s.drop d) (by omega)
 have h15:=qTH (G:=G) (s.drop d)
 have h18:=zCK (G:=G) (s.drop d)
 have h23:=qGO (G:=G) (s.drop d)
 have h24:=zHV (G:=G) (s.drop d)
 have hnl:=qKJ (s.drop d)
 have h25:=qVY (G:=G) ((s.drop d).take (qAV (s.drop d))) (by simp; omega)
 have h29:=zDL (G:=G) s
 have hwl:=qSM (s.drop d)
 have hul:=qDC (s.drop d)
 clear hO
 generalize hrr:s.drop d=r at *
 generalize qY r [34]=b at *
 generalize qO r=u at *
 obtain ⟨u1,u2,u3⟩:=u
 generalize spn kD r=n1 at *
 generalize xS r=w at *
 obtain ⟨w1,w2⟩:=w
 generalize spn qF r=n2 at *
 generalize qAV r=n3 at *
 generalize jL (r.take n3)=p at *
 obtain ⟨p1,p2⟩:=p
 generalize vJ s=sg at *
 simp only [uC] at hr h8 h18 hwl h25 hul
 rw [hr]
 refine rgn [] [[],[0,2]] ?_
 iterate 2 refine op1 tok ?_
 refine qA (rgn [] [[]] ?_)
 refine op1 tok ?_
 refine qA ?_
 refine AW.join (α:=Unit) (fun _=>True) (fun _=>⟨wL 124 [(0,.p (.str s)),(2,.ptr 2 0),(4,.p (.int .i64 d))],[],[(2,.vars 47 [.p (.int .i64 k),.p (.int .i64 0),.p (.str []),.p (.bool false),.p (.str []),.p (.int .i64 0)])],0⟩) ?_ ?_
 ·
  refine AW.block (rgn [.int .u8 x0.toNat] [[],[],[],[0,2,4,14]] ?_)
  iterate 4 refine op1 tok ?_ (hv:=by first | with_reducible exact True.intro | (exact ⟨_,g0,rfl⟩; done) | omega | simp | (simp +contextual; omega))
  refine qA (cnd ?_ ?_)
  ·intro h14
   try simp at h14
   rw [e0] at h14
   rw [if_pos h14] at hK
   obtain ⟨rfl,rfl⟩:k=2∧d=1:=by simpa using hK
   refine rgz [] [[],[],[0,2,4]] ?_
   iterate 3 refine op1 tok ?_
   refine qA ?_
   exact ⟨(),trivial,qH (by simp),rfl,by simp,by simp⟩
  intro h14
  try simp at h14
  rw [e0] at h14
  rw [if_neg h14] at hK
  refine rgn [.int .u8 x0.toNat,.int .u8 x1.toNat,.int .u8 x1.toNat,.nilp,.int .i64 ib] [[],[],[],[],[],[0,2,4,23,25],[],[],[0,2,4,28],[],[],[],[],[],[0,2,4,28,32,34],[],[],[0,2,4,28,37],[],[0,2,4,19]] ?_
  iterate 20 first | refine op1 tok ?_ (hv:=by first | with_reducible exact True.intro | (first | exact ⟨_,g0,rfl⟩ | (intro a1 a2; exact ⟨⟨a1,a2⟩,_,g1 (by omega),rfl⟩) | (intro a1 a2 a3; exact ⟨⟨⟨a1,a2⟩,a3⟩,_,g1 (by omega),rfl⟩) | (intro a1 a2 a3; exact ⟨⟨⟨a1,a2⟩,a3⟩,hib⟩) | (intro a1 a2; exact ⟨⟨a1,a2⟩,fun a3=>⟨⟨a1,a2⟩,a3⟩⟩); done) | omega | simp | (simp +contextual; omega)) | refine op2 tok ?_ (hv:=by first | with_reducible exact True.intro | (first | exact ⟨_,g0,rfl⟩ | (intro a1 a2; exact ⟨⟨a1,a2⟩,_,g1 (by omega),rfl⟩) | (intro a1 a2 a3; exact ⟨⟨⟨a1,a2⟩,a3⟩,_,g1 (by omega),rfl⟩) | (intro a1 a2 a3; exact ⟨⟨⟨a1,a2⟩,a3⟩,hib⟩) | (intro a1 a2; exact ⟨⟨a1,a2⟩,fun a3=>⟨⟨a1,a2⟩,a3⟩⟩); done) | omega | simp | (simp +contextual; omega))
  refine qA (cnd ?_ ?_)
  ·intro h19
   try simp at h19
   rw [e1,e2,e3,hm] at h19
   rw [if_pos (by simpa [and_assoc] using h19)] at hK
   obtain ⟨rfl,rfl⟩:k=3∧d=1:=by simpa using hK
   refine rgz [] [[],[],[0,2,4]] ?_
   iterate 3 refine op1 tok ?_
   refine qA ?_
   exact ⟨(),trivial,qH (by simp),rfl,by simp,by simp⟩
  intro h19
  try simp at h19
  rw [e1,e2,e3] at h19
  rw [if_neg (fun h=>by
   have:=h19 h.1 h.2.1
   rcases h.2.2 with h3 | h3
   ·exact this.1 h3
   have:=hm.2 h3; omega)] at hK
  obtain ⟨rfl,rfl⟩:k=0∧d=0:=by simpa using hK
  refine AW.skip ?_
  exact ⟨(),trivial,qH (by simp),rfl,by simp,by simp⟩
 ·
  rintro _ _
  refine rgn [] [[],[],[],[0,2,4,5]] ?_
  iterate 4 refine op1 tok ?_ (h:=by intro C; conv=>lhs; simp [hrr])
  refine qA (AW.seq (AW.block (rgn [.nilp,.bool b] [[],[],[],[],[],[0,2,4,5,46,49],[],[0,2,4,5,43]] ?_)))
  iterate 3 refine op1 tok ?_ (hv:=by first | with_reducible exact True.intro | (first | exact h7 | omega | (simp; exact h7); done) | omega | simp | (simp +contextual; omega))
  iterate 3 refine op2 tok ?_ (hv:=by first | with_reducible exact True.intro | (first | exact h7 | omega | (simp; exact h7); done) | omega | simp | (simp +contextual; omega))
  iterate 2 refine op1 tok ?_ (hv:=by first | with_reducible exact True.intro | (first | exact h7 | omega | (simp; exact h7); done) | omega | simp | (simp +contextual; omega))
  refine qA (cnd ?_ ?_)
  ·intro h43
   try simp at h43
   rw [if_pos (by simpa using h43)]
   refine rgn [.nilp,.tup [.str u1,.int .i64 u2,.int .i64 u3]] [[],[],[],[],[],[2,4,54,55,56],[],[],[2,4,6,7,8]] ?_
   iterate 9 refine oq1 tok h8 ?_
   refine qA (AW.seq (rgn [] [[],[2,4,6,7,58]] ?_))
   iterate 2 refine op1 tok ?_
   refine qA (cnd ?_ ?_)
   ·intro h58
    try simp at h58
    rw [if_pos h58]
    refine rgn [] [[],[],[2,3]] ?_
    iterate 3 refine op1 tok ?_
    exact qA (AW.ret qX)
   intro h58
   try simp at h58
   rw [if_neg (fun h=>h h58)]
   refine AW.skip (AW.seq (rgn [] [[],[],[2,4,6,7,62]] ?_))
   iterate 3 refine op1 tok ?_
   refine qA (cnd ?_ ?_)
   ·intro h62
    try simp at h62
    rw [if_pos h62]
    refine rgz [] [[],[2,4,6,7]] ?_
    iterate 2 refine op1 tok ?_
    refine qA (rgn [] [[],[],[2,4,7]] ?_)
    iterate 3 refine op1 tok ?_
    refine qA (rgn [] [[],[],[],[2,66,69],[],[2,3]] ?_)
    iterate 6 refine op1 tok ?_
    exact qA (AW.ret qX)
   intro h62
   try simp at h62
   rw [if_neg h62]
   refine AW.skip (rgn [] [[],[],[2,4,7]] ?_)
   iterate 3 refine op1 tok ?_
   refine qA (rgn [] [[],[],[],[2,66,69],[],[2,3]] ?_)
   iterate 6 refine op1 tok ?_
   exact qA (AW.ret qX)
  intro h43
  try simp at h43
  rw [if_neg (by simpa using h43)]
  refine rgn [.nilp,.int .i64 n1] [[],[],[],[],[],[0,2,4,5,74,76],[],[],[0,2,4,5,70]] ?_
  iterate 4 refine op1 tok ?_ (hv:=by first | with_reducible exact True.intro | (first | exact h15 | (exact fun h=>⟨h,h15⟩); done) | omega | simp | (simp +contextual; omega))
  iterate 3 refine op2 tok ?_ (hv:=by first | with_reducible exact True.intro | (first | exact h15 | (exact fun h=>⟨h,h15⟩); done) | omega | simp | (simp +contextual; omega))
  iterate 2 refine op1 tok ?_ (hv:=by first | with_reducible exact True.intro | (first | exact h15 | (exact fun h=>⟨h,h15⟩); done) | omega | simp | (simp +contextual; omega))
  refine qA (cnd ?_ ?_)
  ·intro h70
   try simp at h70
   rw [if_pos (by simpa using h70)]
   refine AW.seq (rgn [] [[],[],[2,4,5,81]] ?_)
   iterate 3 refine op1 tok ?_
   refine qA (cnd ?_ ?_)
   ·intro h81
    try simp at h81
    rw [if_pos h81]
    refine rgz [] [[],[2,4,5]] ?_
    iterate 2 refine op1 tok ?_
    refine qA (rgn [.nilp,.tup [.str w1,.bool w2]] [[],[],[],[],[2,4,86,87],[],[2,4,9,10]] ?_)
    iterate 7 refine oq1 tok h18 ?_
    refine qA (AW.seq (rgn [] [[],[2,4,9,89]] ?_))
    iterate 2 refine op1 tok ?_
    refine qA (cnd ?_ ?_)
    ·intro h89
     try simp at h89
     rw [if_pos (by simpa using h89)]
     refine rgn [] [[],[],[2,3]] ?_
     iterate 3 refine op1 tok ?_
     exact qA (AW.ret qX)
    intro h89
    try simp at h89
    rw [if_neg (by simpa using h89)]
    refine AW.skip (rgn [] [[],[],[2,4,9]] ?_)
    iterate 3 refine op1 tok ?_
    refine qA (rgn [] [[],[],[],[],[2,93,97],[],[2,3]] ?_)
    iterate 7 refine op1 tok ?_
    exact qA (AW.ret qX)
   intro h81
   try simp at h81
   rw [if_neg h81]
   refine AW.skip (rgn [.nilp,.tup [.str w1,.bool w2]] [[],[],[],[],[2,4,86,87],[],[2,4,9,10]] ?_)
   iterate 7 refine oq1 tok h18 ?_
   refine qA (AW.seq (rgn [] [[],[2,4,9,89]] ?_))
   iterate 2 refine op1 tok ?_
   refine qA (cnd ?_ ?_)
   ·intro h89
    try simp at h89
    rw [if_pos (by simpa using h89)]
    refine rgn [] [[],[],[2,3]] ?_
    iterate 3 refine op1 tok ?_
    exact qA (AW.ret qX)
   intro h89
   try simp at h89
   rw [if_neg (by simpa using h89)]
   refine AW.skip (rgn [] [[],[],[2,4,9]] ?_)
   iterate 3 refine op1 tok ?_
   refine qA (rgn [] [[],[],[],[],[2,93,97],[],[2,3]] ?_)
   iterate 7 refine op1 tok ?_
   exact qA (AW.ret qX)
  intro h70
  try simp at h70
  rw [if_neg (by simpa using h70)]
  obtain ⟨rfl, -⟩:k=0∧True:=⟨h70.1,trivial⟩
  refine rgn [.nilp,.int .i64 n2] [[],[],[],[0,2,5,98]] ?_
  iterate 4 refine oq1 tok h23 ?_
  refine qA (cnd ?_ ?_)
  ·intro h98
   try simp at h98
   rw [if_pos (by simpa using h98)]
   refine rgn [.nilp,.int .i64 n3] [[],[],[2,5,11]] ?_
   iterate 3 refine oq1 tok h24 ?_
   refine qA (rgn [.nilp,.tup [p1.enc,.int .i64 p2]] [[],[],[],[2,11,108],[],[],[],[],[],[2,11,12,13]] ?_)
   iterate 10 refine op1 tok ?_ (hv:=by first | with_reducible exact True.intro | (first | exact h25 | omega | (simp; omega) | (simp; exact h25); done) | omega | simp | (simp +contextual; omega))
   refine qA (AW.seq (rgn [] [[],[2,11,12,112]] ?_))
   iterate 2 refine op1 tok ?_
   refine qA (cnd ?_ ?_)
   ·intro h112
    try simp at h112
    rw [if_pos h112]
    refine rgn [] [[],[],[2,3]] ?_
    iterate 3 refine op1 tok ?_
    exact qA (AW.ret qX)
   intro h112
   try simp at h112
   rw [if_neg (fun h=>h h112)]
   refine AW.skip (rgn [] [[],[],[],[2,116],[2,3]] ?_)
   iterate 5 refine op1 tok ?_
   exact qA (AW.ret qX)
  intro h98
  try simp at h98
  rw [if_neg (by simpa using h98)]
  refine AW.skip (rgn [.nilp,.str sg] [[],[],[],[2]] ?_)
  iterate 4 refine oq1 tok h29 ?_
  refine qA (rgn [] [[],[],[],[],[],[2,3]] ?_)
  iterate 6 refine op1 tok ?_
  exact qA (AW.ret qX)
end Go.Proofs.YtbhhphabggcacaaGreatDoor
