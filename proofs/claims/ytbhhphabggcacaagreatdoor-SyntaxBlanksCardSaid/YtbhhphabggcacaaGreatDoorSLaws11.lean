import Derived.Test.YtbhhphabggcacaaGreatDoorSPrtT
import Derived.Test.YtbhhphabggcacaaGreatDoorSRows11
import Derived.Test.YtbhhphabggcacaaGreatDoorSSame11
namespace Go.Proofs.YtbhhphabggcacaaGreatDoor
open Sy Go
set_option maxRecDepth 100000
set_option maxHeartbeats 4000000
set_option linter.unusedSimpArgs false
set_option linter.unusedVariables false
variable {G:qS}
def kM (n:Nat) (s:List UInt8):List UInt8:=if n<s.length then s.take n else s
theorem qVL (n:Nat) (s:List UInt8):(kM n s).length≤n:=by unfold kM; split <;> first | (simp; omega) | omega | simp
theorem qZN {n:Nat} {s:List UInt8} (h:n<s.length):s.take n=kM n s:=by unfold kM; rw [if_pos h]
theorem qZO {n:Nat} {s:List UInt8} (h:¬ n<s.length):s=kM n s:=by unfold kM; rw [if_neg h]
theorem qTQ (s:List UInt8) (m:List Nd):AFn Tryz.prog G 9 [.sl 8 ((yG s).1.map Nd.enc),.sl 8 (m.map Nd.enc)] (.bool (decide ((yG s).1=m))):=by
 by_cases h:(yG s).2=0
 ·obtain ⟨h1,h2,h3, -⟩:=qLN h
  refine qOW _ _ (fun x hx => ?_) (by omega)
  obtain ⟨i,hi⟩:=List.mem_iff_getElem?.1 hx
  have:=(List.getElem?_eq_some_iff.1 hi).1
  exact zED (h3 i x hi) (by omega)
 rw [qLF s h]
 exact qOW _ _ (fun x hx=>by cases hx) (by simp)
theorem qKE (hG:U8 G) (hE:PE G) (s:List UInt8) (hIt:∀ n:Int,AFn Tryz.prog G 29 [.int .i64 n] (.str (Lib.itoa n))):AFn Tryz.prog G 5 [.str s] (.bool true):=by
 refine AFn.introU tok Tryz.func5 (by kernel_rfl) rfl rfl ?_
 simp only [Tryz.f5,qN,List.map_cons,List.map_nil]
 have hsh:=qLL (G:=G) hG hE hIt
 have hcl:=qVL 500 s
 have hcT:=fun h=>qZN (n:=500) (s:=s) h
 have hcF:=fun h=>qZO (n:=500) (s:=s) h
 have p1:=qAJ (G:=G) hG hE (kM 500 s)
 have p2:=qAJ (G:=G) hG hE ([32,10]++kM 500 s++[9,32])
 have p3:=qAJ (G:=G) hG hE (kM 500 s++[32,41])
 have p4:=qAJ (G:=G) hG hE ([40,32]++kM 500 s)
 have p5:=qTQ (G:=G) (kM 500 s) (yG (kM 500 s)).1
 rw [decide_eq_true rfl] at p5
 rw [qWG (by omega)] at p2
 have q1:=qLF (kM 500 s)
 have q2:=zAE (s:=kM 500 s) (by omega)
 have q3:=zDH (s:=kM 500 s) (by omega)
 have q4:=fun h=>(qLN (s:=kM 500 s) h).1
 generalize (yG (kM 500 s++[32,41]))=R3 at *
 generalize (yG ([40,32]++kM 500 s))=R4 at *
 generalize yG (kM 500 s)=R at *
 obtain ⟨l,e⟩:=R
 obtain ⟨l3,e3⟩:=R3
 obtain ⟨l4,e4⟩:=R4
 simp only at p1 p2 p3 p4 p5 q1 q2 q3 q4
 have hle:(l.map Nd.enc).length=l.length:=by simp
 generalize l.map Nd.enc=LE at *
 generalize l3.map Nd.enc=LE3 at *
 generalize l4.map Nd.enc=LE4 at *
 generalize kM 500 s=s1 at *
 refine rgn [] [[0]] ?_
 refine op1 tok ?_
 refine qA (rgn [.nilp,.bool true] [[],[0,3]] ?_)
 iterate 2 refine oq1 tok hsh ?_
 refine qA ?_
 refine AW.join (α:=Unit) (fun _=>True) (fun a=>⟨wL 75 [(0,.p (.str s1)),(3,.p (.bool true))],[],[],0⟩) ?_ ?_
 ·
  refine rgn [] [[],[],[0,3,16]] ?_
  iterate 3 refine op1 tok ?_
  refine qA (cnd ?_ ?_)
  ·intro h16
   try simp at h16
   have hc:=hcT (by omega)
   refine rgz [] [[],[],[0,3]] ?_
   iterate 3 refine op1 tok ?_
   refine qA ?_
   exact ⟨(),trivial,qH (by simp [hc]),rfl,by simp [hc],by simp [hc]⟩
  intro h16
  try simp at h16
  have hc:=hcF (by omega)
  refine AW.skip ?_
  exact ⟨(),trivial,qH (by simp [hc]),rfl,by simp [hc],by simp [hc]⟩
 ·
  rintro a hI
  refine rgn [.nilp,.tup [.sl 8 LE,.int .i64 e]] [[],[],[],[],[],[0,3,4,23],[0,3,4,5]] ?_
  iterate 7 refine oq1 tok p1 ?_
  refine qA (rgn [.nilp,.tup [.sl 8 LE,.int .i64 e]] [[],[],[],[],[0,3,4,5,24],[],[],[],[0,3,4,5,6,7]] ?_)
  iterate 9 refine op1 tok ?_ (hv:=by first | with_reducible exact True.intro | (first | exact p2 | (simp at p2 ⊢; exact p2) | omega | (simp; omega); done) | omega | simp | (simp +contextual; omega))
  refine qA (rgn [.nilp,.bool true] [[],[],[],[0,3,4,5,7,8]] ?_)
  iterate 4 refine oq1 tok p5 ?_
  refine qA (AW.seq (rgn [] [[],[],[],[0,3,4,5,8,37],[],[],[0,3,4,5,40]] ?_))
  iterate 4 refine op1 tok ?_
  iterate 2 refine op2 tok ?_
  refine op1 tok ?_
  refine qA (cnd ?_ ?_)
  ·intro h40
   try simp at h40
  intro h40
  try simp at h40
  refine AW.skip (AW.seq (rgn [] [[],[0,3,4,42]] ?_))
  iterate 2 refine op1 tok ?_
  refine qA (cnd ?_ ?_)
  ·intro h42
   try simp at h42
   have q1:=q1 h42
   subst q1
   refine rgn [] [[],[],[],[44,46],[],[],[2]] ?_
   iterate 2 refine op1 tok ?_ (h:=by intro C; conv=>lhs; simp [hle])
   iterate 3 refine op2 tok ?_ (h:=by intro C; conv=>lhs; simp [hle])
   iterate 2 refine op1 tok ?_ (h:=by intro C; conv=>lhs; simp [hle])
   exact qA (AW.ret qX)
  intro h42
  try simp at h42
  have q2:=q2 h42
  have q3:=q3 h42
  have q4:=q4 h42
  subst q2
  subst q3
  refine AW.skip (rgn [.nilp,.tup [.sl 8 LE3,.int .i64 31]] [[],[],[],[],[],[0,3,4,53,54],[],[0,3,4,10]] ?_)
  iterate 8 refine op1 tok ?_ (hv:=by first | with_reducible exact True.intro | (first | exact p3 | (simp at p3 ⊢; exact p3) | omega | (simp; omega); done) | omega | simp | (simp +contextual; omega))
  refine qA (rgn [.nilp,.tup [.sl 8 LE4,.int .i64 31]] [[],[],[],[3,4,10,55],[],[],[],[3,4,10,12]] ?_)
  iterate 8 refine op1 tok ?_ (hv:=by first | with_reducible exact True.intro | (first | exact p4 | (simp at p4 ⊢; exact p4) | omega | (simp; omega); done) | omega | simp | (simp +contextual; omega))
  refine qA (rgn [] [[],[],[],[4,12,62,64],[],[],[4,66,67],[],[],[4,70],[],[],[],[74],[2]] ?_)
  iterate 15 first | refine op1 tok ?_ (h:=by intro C; conv=>lhs; simp [hle]) | refine op2 tok ?_ (h:=by intro C; conv=>lhs; simp [hle])
  refine qA ?_
  exact AW.ret (qX (k:=by (simp; omega)))
theorem qOK (hG:U8 G) (hE:PE G) (s:List UInt8) (hIt:∀ n:Int,AFn Tryz.prog G 29 [.int .i64 n] (.str (Lib.itoa n))):AFn Tryz.prog G 3 [.str s] (.bool true):=by
 refine AFn.introU tok Tryz.func3 (by kernel_rfl) rfl rfl ?_
 simp only [Tryz.f3,qN,List.map_cons,List.map_nil]
 have hsh:=qLL (G:=G) hG hE hIt
 have hcl:=qVL 600 s
 have hcT:=fun h=>qZN (n:=600) (s:=s) h
 have hcF:=fun h=>qZO (n:=600) (s:=s) h
 have p1:=qAJ (G:=G) hG hE (kM 600 s)
 have p3:=qAJ (G:=G) hG hE ([40]++kM 600 s++[41])
 have q1:=qLF (kM 600 s)
 have p5:=fun m=>qTQ (G:=G) (kM 600 s) m
 have q2:=fun h=>zKC (s:=kM 600 s) h
 have q3:=fun h=>qXM (s:=kM 600 s) h
 generalize (yG ([40]++kM 600 s++[41]))=R3 at *
 generalize yG (kM 600 s)=R at *
 obtain ⟨l,e⟩:=R
 obtain ⟨l3,e3⟩:=R3
 simp only at p1 p3 p5 q1 q2 q3
 have hle:(l.map Nd.enc).length=l.length:=by simp
 generalize kM 600 s=s1 at *
 refine rgn [] [[0]] ?_
 refine op1 tok ?_
 refine qA (rgn [.nilp,.bool true] [[],[0,3]] ?_)
 iterate 2 refine oq1 tok hsh ?_
 refine qA ?_
 refine AW.join (α:=Unit) (fun _=>True) (fun a=>⟨wL 81 [(0,.p (.str s1)),(3,.p (.bool true))],[],[],0⟩) ?_ ?_
 ·
  refine rgn [] [[],[],[0,3,16]] ?_
  iterate 3 refine op1 tok ?_
  refine qA (cnd ?_ ?_)
  ·intro h16
   try simp at h16
   have hc:=hcT (by omega)
   refine rgz [] [[],[],[0,3]] ?_
   iterate 3 refine op1 tok ?_
   refine qA ?_
   exact ⟨(),trivial,qH (by simp [hc]),rfl,by simp [hc],by simp [hc]⟩
  intro h16
  try simp at h16
  have hc:=hcF (by omega)
  refine AW.skip ?_
  exact ⟨(),trivial,qH (by simp [hc]),rfl,by simp [hc],by simp [hc]⟩
 ·
  rintro a hI
  refine rgn [.nilp,.tup [.sl 8 (l.map Nd.enc),.int .i64 e]] [[],[],[],[],[],[0,3,4,23],[0,3,4,5]] ?_
  iterate 7 refine oq1 tok p1 ?_
  refine qA (AW.seq (rgn [] [[],[0,3,4,25]] ?_))
  iterate 2 refine op1 tok ?_
  refine qA (cnd ?_ ?_)
  ·intro h25
   try simp at h25
   have q1:=q1 h25
   subst q1
   refine rgn [] [[],[],[],[27,29],[],[],[2]] ?_
   iterate 2 refine op1 tok ?_
   iterate 3 refine op2 tok ?_
   iterate 2 refine op1 tok ?_
   exact qA (AW.ret qX)
  intro h25
  try simp at h25
  have q3:=q3 h25
  obtain ⟨t,k1,k2,k3⟩:=q2 h25
  have pp:=qXU (G:=G) hIt k2 k3
  have p2:=qAJ (G:=G) hG hE t.text
  have a1:=zBY k2
  have a2:=zFW k2
  have a3:=Tr.flat_len t 0
  have a4:=qSW t k2
  rw [← k1] at pp a1 a3
  have p6:=p5 (yG t.text).1
  have p7:=p5 l3
  generalize yG t.text=R2 at *
  obtain ⟨l2,e2⟩:=R2
  simp only at p2 a1 a2 p6
  have b1:e2=0→decide (l=l2)=true:=fun h=>decide_eq_true (a1 h).symm
  have b2:e3=0→decide (l=l3)=true:=fun h=>decide_eq_true (q3 h).symm
  have b3:e2=0∨25<l.length∨2000<t.text.length:=by
   by_cases c1:25<l.length
   ·exact .inr (.inl c1)
   by_cases c2:2000<t.text.length
   ·exact .inr (.inr c2)
   exact .inl (a2 (by omega) (by omega))
  generalize decide (l=l2)=B2 at *
  generalize decide (l=l3)=B3 at *
  generalize l.map Nd.enc=LE at *
  generalize l2.map Nd.enc=LE2 at *
  generalize l3.map Nd.enc=LE3 at *
  generalize t.text=T at *
  refine AW.skip (rgn [.nilp,.str T] [[],[],[0,3,4,6]] ?_)
  iterate 3 refine oq1 tok pp ?_
  refine qA (rgn [.nilp,.tup [.sl 8 LE2,.int .i64 e2]] [[],[],[],[],[],[0,3,4,6,7,38],[0,3,4,6,7,8]] ?_)
  iterate 7 refine oq1 tok p2 ?_
  refine qA (rgn [.nilp,.tup [.sl 8 LE3,.int .i64 e3]] [[],[],[],[3,4,6,7,8,43],[],[],[],[],[3,4,6,7,8,9,10]] ?_)
  iterate 9 refine op1 tok ?_ (hv:=by first | with_reducible exact True.intro | (first | exact p3 | (simp at p3 ⊢; exact p3) | omega | (simp; omega); done) | omega | simp | (simp +contextual; omega))
  refine qA (rgn [.nilp,.bool B2] [[],[],[],[3,4,6,8,9,10,11]] ?_)
  iterate 4 refine oq1 tok p6 ?_
  refine qA (rgn [.nilp,.bool B3] [[],[],[],[3,4,6,8,10,11,12]] ?_)
  iterate 4 refine oq1 tok p7 ?_
  refine qA (AW.seq (rgn [] [[],[],[],[],[3,4,6,8,10,12,54,56],[],[],[3,4,6,8,12,58,59],[],[],[],[3,4,6,8,58,61,63],[],[3,4,6,8,65]] ?_))
  iterate 14 first | refine op1 tok ?_ (hv:=by first | with_reducible exact True.intro | ((intros; grind); done) | omega | simp | (simp +contextual; omega)) | refine op2 tok ?_ (hv:=by first | with_reducible exact True.intro | ((intros; grind); done) | omega | simp | (simp +contextual; omega))
  refine qA (cnd ?_ ?_)
  ·intro h65
   try simp at h65
   exfalso; rcases h65 with ⟨h1,h2⟩ | ⟨h1,h2⟩ <;> first | (rw [b1 h1] at h2; cases h2) | (rw [b2 h1] at h2; cases h2)
  intro h65
  try simp at h65
  refine AW.skip (rgn [] [[],[],[],[4,6,67,69],[],[],[],[6,67,70,73],[],[],[67,75,76],[],[],[67,79],[],[2]] ?_)
  iterate 2 refine op1 tok ?_ (h:=by intro C; conv=>lhs; simp [hle])
  iterate 12 refine op2 tok ?_ (h:=by intro C; conv=>lhs; simp [hle])
  iterate 2 refine op1 tok ?_ (h:=by intro C; conv=>lhs; simp [hle])
  refine qA ?_
  exact AW.ret (qX (k:=by (simp; omega)))
end Go.Proofs.YtbhhphabggcacaaGreatDoor
