import Derived.Test.YtlmedakhioiahaaGreatDoorSBackJ
import Derived.Test.YtlmedakhioiahaaGreatDoorM3
namespace Go.Proofs.YtlmedakhioiahaaGreatDoor
open Sy Go
set_option maxRecDepth 100000
set_option maxHeartbeats 4000000
set_option linter.unusedSimpArgs false
set_option linter.unusedVariables false
variable {G:qR}
theorem qVU {m:Nat} (h:m<256):IntKind.i64.wrap ((m % 2 ^ IntKind.i64.bits &&& 7 % 2 ^ IntKind.i64.bits:Nat):Int)=((m % 8:Nat):Int):=by
 have e1:m % 2 ^ IntKind.i64.bits=m:=by
  show m % 18446744073709551616=m
  omega
 have e2:7 % 2 ^ IntKind.i64.bits=2 ^ 3-1:=by decide
 rw [e1,e2,Nat.and_two_pow_sub_one_eq_mod]
 have h8:m % 2 ^ 3<8:=Nat.mod_lt _ (by decide)
 show IntKind.i64.wrap ((m % 2 ^ 3:Nat):Int)=((m % 2 ^ 3:Nat):Int)
 generalize m % 2 ^ 3=x at *
 simp [IntKind.wrap,IntKind.bits,IntKind.signed]
 split <;> omega
theorem zHA (j:Jb) (k:Nat):(jT j k).enc = .agg [.int .i64 (wV j).kind,.int .u64 (wV j).mask,.bool (wV j).num.neg,.str (wV j).num.digits,.int .i64 (wV j).num.scale,.str (wV j).text,.sl 1 (List.drop k (List.map PD.str (wV j).keys)++List.take k (List.map PD.str (wV j).keys)),.sl 9 (List.drop k (List.map Val.enc (wV j).kids)++List.take k (List.map Val.enc (wV j).kids)),.int .i64 (wV j).code]:=by
 rw [Val.enc_def,← List.map_drop,← List.map_drop,← List.map_take,← List.map_take,← List.map_append,← List.map_append]
 rfl
theorem zDR (j:Jb) (k:Nat):(vG j k).enc = .agg [.int .i64 (wV j).kind,.int .u64 (wV j).mask,.bool (wV j).num.neg,.str (wV j).num.digits,.int .i64 (wV j).num.scale,.str (wV j).text,.sl 1 ((List.drop k (List.map PD.str (wV j).keys)++List.take k (List.map PD.str (wV j).keys)).drop 1),.sl 9 ((List.drop k (List.map Val.enc (wV j).kids)++List.take k (List.map Val.enc (wV j).kids)).drop 1),.int .i64 (wV j).code]:=by
 rw [Val.enc_def,← List.map_drop,← List.map_drop,← List.map_take,← List.map_take,← List.map_append,← List.map_append,← List.map_drop,← List.map_drop]
 rfl
theorem qTP {j : Jb} (hm : (zD j).all wC = true) (hb : qTV j) (ha : qVE j = true) {k : Nat} (hk : k < 8) :
  qCG (qI (jT j k))=(j,0)∧qCG (qI (vG j k))=(jb0,240)∧(qI (jT j k)).length≤450000∧(qI (vG j k)).length≤450000:=by
 obtain ⟨⟨m1,m2,m3,m4,m5⟩,⟨q1,q2,q3,q4,q5⟩⟩:=qAO hm hk
 have h1:=zCY hm hb hk (ws:=[]) (rest:=[]) rfl
 rw [if_pos ⟨rfl,ha⟩] at h1
 simp only [List.nil_append,List.append_nil] at h1
 have l1:=qHI (jT j k) m1
 have l2:=qHI (vG j k) q1
 exact ⟨h1,zAA hm hk,by omega,by omega⟩
theorem qTO {j : Jb} (hm : (zD j).all wC = true) {k : Nat} (hk : k < 8) :
  AFn Tryz.prog G 17 [(jT j k).enc] (.str (qI (jT j k)))∧AFn Tryz.prog G 17 [(vG j k).enc] (.str (qI (vG j k))):=by
 obtain ⟨⟨m1,m2,m3,m4,m5⟩,⟨q1,q2,q3,q4,q5⟩⟩:=qAO hm hk
 exact ⟨qLJ _ m1 (by omega) (qFG _ _ m2) (fun h=>by rw [m2] at h; cases h),qLJ _ q1 (by omega) (qFG _ _ q2) (fun h=>by rw [q2] at h; cases h)⟩
theorem zAK {j:Jb} (hm:(zD j).all wC=true):kF (qI (wV j))=(wV j,(((qI (wV j)).length:Nat):Int),(0:Int)):=by
 obtain ⟨⟨m1,m2,m3,m4,m5⟩, -⟩:=qAO hm (k:=0) (by omega)
 have:=qYM m1 m2 rfl (by rw [qTA]; exact List.cons_ne_nil _ _) (by omega) (by omega) (ws:=[]) (rest:=[]) rfl
 rw [m3,qTA] at this
 simpa using this
theorem qMU (hG:U8 G) (hE:PE G) (j:Jb) (m:Nat) (hb:qTV j) (hm8:m<256):AFn Tryz.prog G 5 [j.enc,.int .u8 (m:Int)] (.bool true):=by
 refine AFn.introU tok Tryz.func5 (by kernel_rfl) rfl rfl ?_
 simp only [Tryz.f5,qO,List.map_cons,List.map_nil]
 have hsh:=qVT (G:=G) hG
 have hfe:=zKI (G:=G) j
 have hb':qTV (qQX j):=fun k hk=>by have:kG (qQX j) k=kG j k:=rfl; rw [this]; exact hb k hk
 have hp:=qYK (G:=G) hG (qQX j) hb' (fun h=>qIN (qYQ h) (qYO _) (by rw [zDN]; decide))
 have hM:zCU (qQX j)=if (zD (qQX j)).all wC=true then (qI (wV (qQX j)),0) else ([],1):=rfl
 rw [hM] at hp
 have hbd:∀ n:Int,AFn Tryz.prog G 15 [.int .i64 n] (.bool (inB n)):=fun n=>zFC n
 have hR:=fun (t:List UInt8) (h:t.length≤1000000)=>zCT (G:=G) hG hE t h
 generalize qQX j=f at *
 have e1:=hbd f.a
 have e2:=hbd f.b
 have e3:=hbd f.c
 have e4:=hbd f.d
 have hAB:qVE f=(inB f.a && inB f.b && inB f.c && inB f.d):=rfl
 generalize inB f.a=a1 at *
 generalize inB f.b=a2 at *
 generalize inB f.c=a3 at *
 generalize inB f.d=a4 at *
 obtain ⟨k,hk8,hsw⟩:∃ k:Nat,k<8∧IntKind.i64.wrap ((m % 2 ^ IntKind.i64.bits &&& 7 % 2 ^ IntKind.i64.bits:Nat):Int)=(k:Int):=⟨m % 8,Nat.mod_lt _ (by decide),qVU hm8⟩
 refine rgn [] [[],[1,2]] ?_
 iterate 2 refine op1 tok ?_
 refine qA (rgn [.nilp,.bool true] [[],[1,2,5]] ?_)
 iterate 2 refine oq1 tok hsh ?_
 refine qA (rgn [.nilp,f.enc] [[],[],[1,2,5]] ?_)
 iterate 3 refine oq1 tok hfe ?_
 refine qA ?_
 by_cases hs3:(zD f).all wC=true
 ·
  rw [if_pos hs3] at hp
  have h16:=fun h=>zHF (G:=G) (qI (wV f)) h
  rw [zAK hs3] at h16
  generalize qI (wV f)=s at *
  refine rgn [.nilp,.tup [.str s,.int .i64 0]] [[],[],[],[],[],[1,2,5,6,25],[1,2,5,6,7]] ?_
  iterate 7 refine oq1 tok hp ?_
  refine qA (AW.seq (rgn [.nilp,.bool a1,.nilp,.bool a2,.nilp,.bool a3,.nilp,.bool a4] [[],[],[],[],[1,2,5,6,28,30],[],[],[1,2,5,6,33],[],[],[],[],[1,2,5,6,38],[],[],[],[],[1,2,5,6,39,43],[],[],[],[1,2,5,6,45,47],[],[],[1,2,5,6,50],[],[],[],[],[1,2,5,6,51,55],[1,2,5,6,56]] ?_))
  iterate 31 first | refine op1 tok ?_ (hv:=by first | with_reducible exact True.intro | (first | (simp; done) | (simp; exact e1) | (simp; intro x1; exact ⟨x1,e1⟩) | (simp; intro x1 x2; exact ⟨⟨x1,x2⟩,e2⟩) | (simp; intro x1 x2 x3; exact ⟨⟨⟨x1,x2⟩,x3⟩,e3⟩) | (simp; intro x1 x2 x3 x4; exact ⟨⟨⟨⟨x1,x2⟩,x3⟩,x4⟩,e4⟩); done) | omega | simp | (simp +contextual; omega)) | refine op2 tok ?_ (hv:=by first | with_reducible exact True.intro | (first | (simp; done) | (simp; exact e1) | (simp; intro x1; exact ⟨x1,e1⟩) | (simp; intro x1 x2; exact ⟨⟨x1,x2⟩,e2⟩) | (simp; intro x1 x2 x3; exact ⟨⟨⟨x1,x2⟩,x3⟩,e3⟩) | (simp; intro x1 x2 x3 x4; exact ⟨⟨⟨⟨x1,x2⟩,x3⟩,x4⟩,e4⟩); done) | omega | simp | (simp +contextual; omega))
  refine qA (cnd ?_ ?_)
  ·intro h56
   try simp at h56
   refine rgn [] [[],[4]] ?_
   iterate 2 refine op1 tok ?_
   exact qA (AW.ret qP)
  intro h56
  try simp at h56
  have hall:qVE f=true:=by rw [hAB]; simp_all
  have h16:=h16 (by simp_all; omega)
  have hkl:(wV f).keys.length=8:=rfl
  have hvl:(wV f).kids.length=8:=rfl
  obtain ⟨o1,o2,o3,o4⟩:=qTP hs3 hb' hall hk8
  obtain ⟨p1,p2⟩:=qTO (G:=G) hs3 hk8
  rw [zHA] at p1
  rw [zDR] at p2
  have ht1:List.take 8 (List.map PD.str (wV f).keys)=List.map PD.str (wV f).keys:=List.take_of_length_le (by simp [hkl])
  have ht2:List.take 8 (List.map Val.enc (wV f).kids)=List.map Val.enc (wV f).kids:=List.take_of_length_le (by simp [hvl])
  obtain ⟨W1,hr1,hw1⟩:∃ W1,List.drop k (List.map PD.str (wV f).keys)++List.take k (List.map PD.str (wV f).keys)=W1∧W1.length=8:=⟨_,rfl,by simp [hkl]; omega⟩
  obtain ⟨W2,hr2,hw2⟩:∃ W2,List.drop k (List.map Val.enc (wV f).kids)++List.take k (List.map Val.enc (wV f).kids)=W2∧W2.length=8:=⟨_,rfl,by simp [hvl]; omega⟩
  rw [hr1,hr2] at p1 p2
  rw [List.drop_one,List.drop_one] at p2
  have hz1:List.take 8 W1=W1:=List.take_of_length_le (by omega)
  have hz2:List.take 8 W2=W2:=List.take_of_length_le (by omega)
  have q1:=hR _ (Nat.le_trans o3 (by decide))
  have q2:=hR _ (Nat.le_trans o4 (by decide))
  rw [o1] at q1
  rw [o2] at q2
  refine AW.skip (rgn [.nilp,.tup [(wV f).enc,.int .i64 s.length,.int .i64 0]] [[],[],[],[],[],[1,2,5,61,62,63],[],[],[],[1,2,5,8,10]] ?_)
  iterate 10 refine oq1 tok h16 ?_
  refine qA (AW.seq (rgn [] [[],[],[],[],[1,2,5,8,66,68],[],[],[1,2,5,8,71]] ?_))
  iterate 3 refine op1 tok ?_
  iterate 4 refine op2 tok ?_
  refine op1 tok ?_
  refine qA (cnd ?_ ?_)
  ·intro h71
   try simp at h71
   exact (h71 rfl).elim
  intro h71
  try simp at h71
  refine AW.skip (rgn [] [[],[],[],[2,5,8,11]] ?_)
  iterate 4 refine op1 tok ?_ (h:=by intro C; conv=>lhs; simp [hsw])
  refine qA (rgn [] [[],[],[2,5,8,11,12]] ?_)
  iterate 3 refine op1 tok ?_
  refine qA ?_
  refine AW.seqDrawS tok mixed 11 [[],[8],[77],[11],[78,79],[76,80],[8],[82],[11],[83,84],[81,85]] [] [] (by kernel_rfl) ?_
  iterate 11 refine d1 ?_ (h:=by intro C; conv=>lhs; simp [ht1,hr1,hw1,hkl]) (hv:=by first | with_reducible exact True.intro | ((simp [hkl]; omega); done) | omega | simp | (simp +contextual; omega))
  refine DGo.nil (by kernel_rfl) ⟨by kernel_rfl, ?_⟩
  refine qB.run [[],[2,5,8,11,12]] ?_
  iterate 2 refine op1 tok ?_ (h:=by intro C; conv=>lhs; simp [ht1,hr1,hw1,hkl])
  refine qA ?_
  refine AW.freezeE 86 (by conv=>lhs; simp) ?_
  refine AW.seqDrawS tok mixed 11 [[],[8],[89],[11],[90,91],[88,92],[8],[94],[11],[95,96],[93,97]] [] [] (by kernel_rfl) ?_
  iterate 11 refine d1 ?_ (h:=by intro C; conv=>lhs; simp [ht2,hr2,hw2,hvl]) (hv:=by first | with_reducible exact True.intro | ((simp [hvl]; omega); done) | omega | simp | (simp +contextual; omega))
  refine DGo.nil (by kernel_rfl) ⟨by kernel_rfl, ?_⟩
  refine qB.run [[],[2,5,12]] ?_
  iterate 2 refine op1 tok ?_ (h:=by intro C; conv=>lhs; simp [ht2,hr2,hw2,hvl])
  refine qA ?_
  refine AW.freezeE 98 (by conv=>lhs; simp) ?_
  refine rgn [] [[],[],[2,5,12,13]] ?_
  iterate 3 refine op1 tok ?_
  refine qA (rgn [] [[],[],[],[],[2,5,12,13]] ?_)
  iterate 5 refine op1 tok ?_ (h:=by intro C; conv=>lhs; simp [hw1,hz1])
  refine qA (rgn [] [[],[],[],[],[2,5,12,13]] ?_)
  iterate 5 refine op1 tok ?_ (h:=by intro C; conv=>lhs; simp [hw2,hz2])
  refine qA (rgn [.nilp,.str (qI (jT f k)),.nilp,.tup [f.enc,.int .i64 0]] [[],[],[],[2,5,13,109],[],[],[],[],[2,5,13,14,15]] ?_)
  iterate 9 refine oq1 tok (ai p1 q1) ?_
  refine qA (rgn [.nilp,.str (qI (vG f k)),.nilp,.tup [jb0.enc,.int .i64 240]] [[],[],[],[2,5,14,15,115],[],[],[],[],[2,5,14,15,17]] ?_)
  iterate 9 refine oq1 tok (ai p2 q2) ?_
  refine qA (rgn [] [[],[],[],[2,14,17,122,124],[],[],[2,17,126,127],[],[],[17,130],[],[],[],[134],[4]] ?_)
  iterate 15 first | refine op1 tok ?_ | refine op2 tok ?_
  exact qA (AW.ret qP)
 ·
  rw [if_neg hs3] at hp
  refine rgn [.nilp,.tup [.str [],.int .i64 1]] [[],[],[],[],[],[1,2,5,6,25],[1,2,5,6,7]] ?_
  iterate 7 refine oq1 tok hp ?_
  refine qA (AW.seq (rgn [.nilp,.bool a1,.nilp,.bool a2,.nilp,.bool a3,.nilp,.bool a4] [[],[],[],[],[1,2,5,6,28,30],[],[],[1,2,5,6,33],[],[],[],[],[1,2,5,6,38],[],[],[],[],[1,2,5,6,39,43],[],[],[],[1,2,5,6,45,47],[],[],[1,2,5,6,50],[],[],[],[],[1,2,5,6,51,55],[1,2,5,6,56]] ?_))
  iterate 31 first | refine op1 tok ?_ (hv:=by first | with_reducible exact True.intro | (first | (simp; done) | (simp; exact e1) | (simp; intro x1; exact ⟨x1,e1⟩) | (simp; intro x1 x2; exact ⟨⟨x1,x2⟩,e2⟩) | (simp; intro x1 x2 x3; exact ⟨⟨⟨x1,x2⟩,x3⟩,e3⟩) | (simp; intro x1 x2 x3 x4; exact ⟨⟨⟨⟨x1,x2⟩,x3⟩,x4⟩,e4⟩); done) | omega | simp | (simp +contextual; omega)) | refine op2 tok ?_ (hv:=by first | with_reducible exact True.intro | (first | (simp; done) | (simp; exact e1) | (simp; intro x1; exact ⟨x1,e1⟩) | (simp; intro x1 x2; exact ⟨⟨x1,x2⟩,e2⟩) | (simp; intro x1 x2 x3; exact ⟨⟨⟨x1,x2⟩,x3⟩,e3⟩) | (simp; intro x1 x2 x3 x4; exact ⟨⟨⟨⟨x1,x2⟩,x3⟩,x4⟩,e4⟩); done) | omega | simp | (simp +contextual; omega))
  refine qA (cnd ?_ ?_)
  ·intro h56
   try simp at h56
   refine rgn [] [[],[4]] ?_
   iterate 2 refine op1 tok ?_
   exact qA (AW.ret qP)
  intro h56
  try simp at h56
end Go.Proofs.YtlmedakhioiahaaGreatDoor
