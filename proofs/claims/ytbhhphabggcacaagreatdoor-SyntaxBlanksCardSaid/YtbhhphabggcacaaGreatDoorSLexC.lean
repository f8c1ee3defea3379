import Derived.Test.YtbhhphabggcacaaGreatDoorSLexB
import Derived.Test.YtbhhphabggcacaaGreatDoorSCore35
namespace Go.Proofs.YtbhhphabggcacaaGreatDoor
open Sy Go
set_option maxRecDepth 100000
set_option maxHeartbeats 4000000
set_option linter.unusedSimpArgs false
set_option linter.unusedVariables false
variable {G:qS}
theorem qGW {s:List UInt8} (hs:s≠[]):(kI s).2≤s.length:=by
 have hKl:=qGZ hs
 rw [qRB (s:=s) (k:=(wM s).1) (d:=(wM s).2) rfl rfl]
 generalize (wM s).1=k
 generalize (wM s).2=d at *
 have hrd:(s.drop d).length=s.length-d:=List.length_drop
 have hul:=qDC (s.drop d)
 have hwl:=qSM (s.drop d)
 have hnl:=qKJ (s.drop d)
 have hsl:=zDK s
 generalize s.drop d=r at *
 split
 ·split <;> simp only <;> omega
 split
 ·split <;> simp only <;> omega
 split
 ·split <;> simp only <;> omega
 exact hsl
theorem zBD (hG:U8 G) (s:List UInt8):AFn Tryz.prog G 11 [.str s] (.tup [.sl 6 ((qBJ s).1.map Tok.enc),.int .i64 (qBJ s).2]):=by
 refine AFn.introU tok Tryz.func11 (by kernel_rfl) rfl rfl ?_
 simp only [Tryz.f11,qN,List.map_cons,List.map_nil]
 have hP:qBJ s=if 2000<s.length then (([],3):List Tok × Int) else match wS (s.length+1) 0 s with | none=>([],30) | some l=>if 600<l.length then ([],3) else (l,0):=by
  unfold qBJ; split
  ·rfl
  cases wS (s.length+1) 0 s <;> rfl
 rw [hP]
 refine rgn [] [[],[0]] ?_
 iterate 2 refine op1 tok ?_
 refine qA ?_
 refine AW.scope ?_
 refine AW.seq (rgn [] [[],[],[0,10]] ?_)
 iterate 3 refine op1 tok ?_
 refine qA (cnd ?_ ?_)
 ·intro h10
  try simp at h10
  rw [if_pos (by omega)]
  refine rgn [] [[],[]] ?_
  iterate 2 refine op1 tok ?_
  exact qA (AW.ret qX)
 intro h10
 try simp at h10
 rw [if_neg (by omega)]
 obtain ⟨X,hX⟩:∃ X,X=wS (s.length+1) 0 s:=⟨_,rfl⟩
 rw [← hX]
 have hX0:X=(wS (s.length+1) 0 (s.drop 0)).map fun l=>[]++l:=by rw [hX]; simp
 refine AW.skip (rgn [] [[]] ?_)
 refine op1 tok ?_
 refine qA (rgn [] [[]] ?_)
 refine op1 tok ?_
 refine qA (AW.seq ?_)
 refine AW.label ?_
 refine AW.seq (AW.block ?_)
 refine AW.beginE 4 50 47 6 (by simp) (by simp) (by conv=>lhs; simp) ?_
 refine AW.loop (α:=Nat × List Tok × Nat) (fun a=>a.1≤s.length∧s.length+1≤a.2.2+a.1∧a.2.1.length≤a.1∧X=(wS a.2.2 a.1 (s.drop a.1)).map fun l=>a.2.1++l) (fun a=>⟨wL 43 [(0,.p (.str s)),(4,.ms 50),(5,.p (.int .i64 a.1))],[],[(50,.row 47 6 (a.2.1.map Tok.enc))],0⟩) (fun a=>a.2.2) ((0,[],s.length+1)) ⟨by simp only []; omega,by simp only []; omega,by simp,hX0⟩ ⟨qH (by simp),rfl,by simp,by simp⟩ ?_
 rintro ⟨p,done,m⟩ ⟨h1,h2,h3,hX2⟩
 simp only at h1 h2 h3 hX2
 obtain ⟨m,rfl⟩:∃ m',m=m'+1:=⟨m-1,by omega⟩
 have hsp:=zHB (G:=G) (s.drop p)
 have hspl:=jY yR (s.drop p)
 rw [List.length_drop] at hspl
 simp only [wS] at hX2
 generalize spn yR (s.drop p)=b at *
 have hdd:(s.drop p).drop b=s.drop (p+b):=List.drop_drop
 rw [hdd] at hX2
 have hql:(s.drop (p+b)).length=s.length-(p+b):=List.length_drop
 have hqn:s.drop (p+b)=[]↔p+b=s.length:=by rw [List.drop_eq_nil_iff]; omega
 have ho:=fun hs hl=>zHS (G:=G) hG (s.drop (p+b)) hs hl
 have hol:=fun hs=>qGW (s:=s.drop (p+b)) hs
 generalize hO:kI (s.drop (p+b))=O at *
 obtain ⟨t,n⟩:=O
 simp only at ho hol hX2
 have hd2:(s.drop (p+b)).drop n=s.drop (p+b+n):=List.drop_drop
 rw [hd2] at hX2
 generalize hq:s.drop (p+b)=q at *
 have hq2:s.drop ((p:Int)+(b:Int)).toNat=q:=by rw [show ((p:Int)+(b:Int)).toNat=p+b by omega,hq]
 refine AW.block (rgn [.nilp,.int .i64 b] [[],[],[],[],[0,4,11,15],[],[0,4,5]] ?_)
 iterate 7 refine op1 tok ?_ (hv:=by first | with_reducible exact True.intro | (first | exact hsp | omega | (simp; omega) | (simp; exact hsp); done) | omega | simp | (simp +contextual; omega))
 refine qA (AW.seq (rgn [] [[],[],[],[0,4,5,20]] ?_))
 iterate 4 refine op1 tok ?_
 refine qA (cnd ?_ ?_)
 ·intro h20
  try simp at h20
  rw [if_pos (hqn.2 (by omega))] at hX2
  simp only [Option.map_some,List.append_nil] at hX2
  subst hX2
  simp only
  refine AW.exit ?_
  simp
  refine AW.seq (rgn [] [[],[],[4,41]] ?_)
  iterate 3 refine op1 tok ?_
  refine qA (cnd ?_ ?_)
  ·intro h41
   try simp at h41
   rw [if_pos (by omega)]
   refine rgn [] [[],[]] ?_
   iterate 2 refine op1 tok ?_
   exact qA (AW.ret qX)
  intro h41
  try simp at h41
  rw [if_neg (by omega)]
  refine AW.skip (rgn [] [[],[],[2,3]] ?_)
  iterate 3 refine op1 tok ?_
  exact qA (AW.ret qX)
 intro h20
 try simp at h20
 have hne:q≠[]:=fun h=>h20 (by have:=hqn.1 h; omega)
 rw [if_neg hne] at hX2
 have ho:=ho hne (by omega)
 have hol:=hol hne
 refine AW.skip (rgn [.nilp,.tup [t.enc,.int .i64 n]] [[],[],[],[],[0,4,5,21],[],[],[],[],[0,4,5,6,7]] ?_)
 iterate 10 refine op1 tok ?_ (h:=by intro C; conv=>lhs; simp [hq2]) (hv:=by first | with_reducible exact True.intro | (first | exact ho | omega | (simp; omega) | (simp; exact ho); done) | omega | simp | (simp +contextual; omega))
 refine qA (AW.seq (rgn [] [[],[0,4,5,6,7,29]] ?_))
 iterate 2 refine op1 tok ?_
 refine qA (cnd ?_ ?_)
 ·intro h29
  try simp at h29
  rw [if_pos (by omega)] at hX2
  simp only [Option.map_none] at hX2
  subst hX2
  simp only
  refine rgn [] [[],[]] ?_
  iterate 2 refine op1 tok ?_
  exact qA (AW.ret qX)
 intro h29
 try simp at h29
 rw [if_neg (by omega)] at hX2
 have hX3:X=(wS m (p+b+n) (s.drop (p+b+n))).map fun l=>done++[{ t with pos:=((p+b:Nat):Int) }]++l:=by
  rw [hX2]
  cases wS m (p+b+n) (s.drop (p+b+n)) with
  | none=>rfl
  | some l=>simp
 refine AW.skip (rgn [] [[],[],[0,4,5,6,7]] ?_)
 iterate 3 refine op1 tok ?_
 refine qA (rgz [(Tok.enc { t with pos:=((p+b:Nat):Int) })] [[],[],[],[0,5,7,35],[],[],[0,35,38],[],[0,4,5]] ?_)
 iterate 9 refine op1 tok ?_ (hv:=by first | with_reducible exact True.intro | (first | (simp; done) | omega | (simp; omega); done) | omega | simp | (simp +contextual; omega))
 refine qA ?_
 exact ⟨(p+b+n,done++[{ t with pos:=((p+b:Nat):Int) }],m),⟨by simp only []; omega,by simp only []; omega,by simp only [List.length_append,List.length_singleton]; omega,hX3⟩,by simp only []; omega,qH (by simp),rfl,by simp,by simp⟩
end Go.Proofs.YtbhhphabggcacaaGreatDoor
