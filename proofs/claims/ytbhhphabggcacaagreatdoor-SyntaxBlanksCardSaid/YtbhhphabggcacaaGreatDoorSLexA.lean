import Derived.Test.YtbhhphabggcacaaGreatDoorK2
import Derived.Test.YtbhhphabggcacaaGreatDoorK1
import Derived.Test.YtbhhphabggcacaaGreatDoorK3
import Derived.Test.YtbhhphabggcacaaGreatDoorSDecP
namespace Go.Proofs.YtbhhphabggcacaaGreatDoor
open Sy Go
set_option maxRecDepth 100000
set_option maxHeartbeats 4000000
set_option linter.unusedSimpArgs false
set_option linter.unusedVariables false
variable {G:qS}
theorem qGN (s cs:List UInt8) (p:UInt8→Bool) (h2:2≤cs.length) (hcs:∀ b∈cs,b.toNat<128) (hp:∀ k:Fin 256,asF cs k.val=p (UInt8.ofNat k.val)):AFn Tryz.prog G 14 [.str s,.str cs] (.int .i64 (spn p s:Nat)):=by
 refine AFn.introU tok Tryz.func14 (by kernel_rfl) rfl rfl ?_
 simp only [Tryz.f14,qN,List.map_cons,List.map_nil]
 refine AW.strFactU (i:=0) rfl (by decide) ?_
 intro hlen
 have ht:=qVU (G:=G) s cs h2 hcs
 have hs:=zCZ hp s
 generalize uT (asF cs) s=r at *
 have hb:=jY p s
 generalize spn p s=n at *
 refine rgn [] [[0,1]] ?_
 refine op1 tok ?_
 refine qA (rgn [.nilp,.str r] [[],[],[],[],[6,9],[],[],[4]] ?_)
 iterate 8 refine oq1 tok ht ?_
 refine qA ?_
 exact AW.ret (qX (k:=by simp [hs]))
theorem qTH (s:List UInt8):AFn Tryz.prog G 14 [.str s,.str kN] (.int .i64 (spn kD s:Nat)):=qGN s kN kD (by decide) (by decide) zID
theorem zGZ (s:List UInt8):AFn Tryz.prog G 14 [.str s,.str xV] (.int .i64 (spn qIJ s:Nat)):=qGN s xV qIJ (by decide) (by decide) zCO
theorem qGO (s:List UInt8):AFn Tryz.prog G 14 [.str s,.str [48,49,50,51,52,53,54,55,56,57]] (.int .i64 (spn qF s:Nat)):=qGN s _ qF (by decide) (by decide) zIT
theorem zHB (s:List UInt8):AFn Tryz.prog G 14 [.str s,.str [32,9,10,13]] (.int .i64 (spn yR s:Nat)):=qGN s _ yR (by decide) (by decide) zLE
theorem zHA (s:List UInt8):AFn Tryz.prog G 14 [.str s,.str qQS] (.int .i64 (spn qFX s:Nat)):=qGN s _ qFX (by decide) (by decide) zKE
theorem zCK (s:List UInt8):AFn Tryz.prog G 34 [.str s] (.tup [.str (xS s).1,.bool (xS s).2]):=by
 refine AFn.introU tok Tryz.func34 (by kernel_rfl) rfl rfl ?_
 simp only [Tryz.f34,qN,List.map_cons,List.map_nil]
 have h1:=qTH (G:=G) s
 have h2:=zGZ (G:=G) s
 have h3:=qXW (G:=G) (s.take (spn qIJ s))
 have hb:=jY qIJ s
 have hW:xS s=if spn kD s=0 then ([],false) else (s.take (spn qIJ s),wJ (s.take (spn qIJ s))):=rfl
 rw [hW]
 generalize spn kD s=n at *
 generalize spn qIJ s=m at *
 generalize wJ (s.take m)=b at *
 refine rgn [] [[],[0]] ?_
 iterate 2 refine op1 tok ?_
 refine qA (AW.seq (rgn [.nilp,.int .i64 n] [[],[],[0,7]] ?_))
 iterate 3 refine oq1 tok h1 ?_
 refine qA (cnd ?_ ?_)
 ·intro h7
  try simp at h7
  rw [if_pos (by omega)]
  refine rgn [] [[],[]] ?_
  iterate 2 refine op1 tok ?_
  exact qA (AW.ret qX)
 intro h7
 try simp at h7
 rw [if_neg (by omega)]
 refine AW.skip (rgn [.nilp,.int .i64 m] [[],[],[],[11],[4]] ?_)
 iterate 5 refine oq1 tok h2 ?_
 refine qA (rgn [.nilp,.bool b] [[],[],[],[],[2,3]] ?_)
 iterate 5 refine op1 tok ?_ (hv:=by first | with_reducible exact True.intro | (first | exact h3 | (simp; exact h3); done) | omega | simp | (simp +contextual; omega))
 exact qA (AW.ret qX)
theorem zIO {α:Type} {p:α→Bool} {l:List α} {k:Nat} {w:α} (hw:l[k]?=some w) (hno:∀ x∈l.take k,p x=false) (hp:p w=true):l.find? p=some w:=by
 obtain ⟨h1,h2⟩:=List.getElem?_eq_some_iff.1 hw
 rw [← List.take_append_drop k l,List.find?_append,List.find?_eq_none.2 (fun x hx=>by simp [hno x hx]),List.drop_eq_getElem_cons h1,h2,List.find?_cons_of_pos hp]
 rfl
theorem zDL (s:List UInt8):AFn Tryz.prog G 37 [.str s] (.str (vJ s)):=by
 refine AFn.introU tok Tryz.func37 (by kernel_rfl) rfl rfl ?_
 simp only [Tryz.f37,qN,List.map_cons,List.map_nil]
 have h1:=zHA (G:=G) s
 have hp:=fun w=>qHI (G:=G) s w
 have hb:=jY qFX s
 have hS:vJ s=match xA.find? (fun w=>qY s w) with | some w=>w | none=>s.take (min 1 (spn qFX s)):=rfl
 generalize spn qFX s=n at *
 have hl:xA.length=4:=rfl
 have hlp:(xA.map PD.str).length=4:=rfl
 have he:[PD.str [61,61],.str [33,61],.str [60,61],.str [62,61]]=xA.map PD.str:=rfl
 refine rgn [] [[0]] ?_
 refine op1 tok ?_
 refine qA (AW.seq (rgn [.str [61,61],.str [33,61],.str [60,61],.str [62,61]] [[],[],[]] ?_))
 iterate 3 refine op1 tok ?_ (h:=by intro C; conv=>lhs; simp [he])
 refine qA (AW.block ?_)
 refine AW.loop (α:=Nat) (fun k=>k≤4∧∀ w∈xA.take k,qY s w=false) (fun k=>⟨wL 21 [(0,.p (.str s)),(5,.ms 5),(6,.p (.int .i64 4)),(7,.p (.int .i64 k))],[],[(5,.row 9 1 (xA.map PD.str))],0⟩) (fun k=>4-k) (0) ⟨by omega,by simp⟩ ⟨qH (by simp [hl]),rfl,by simp,by simp⟩ ?_
 rintro k ⟨hk,hno⟩
 refine rgn [] [[]] ?_
 refine op1 tok ?_
 refine qA (AW.seq (cnd ?_ ?_))
 ·intro h8
  try simp at h8
  obtain ⟨w,hw⟩:∃ w,xA[k]?=some w:=⟨xA[k]'(by omega),by simp [show k<xA.length by omega]⟩
  have hpw:=hp w
  have hfa:qY s w=true→xA.find? (fun w=>qY s w)=some w:=fun h=>zIO hw hno h
  generalize hbw:qY s w=b at *
  refine AW.skip (AW.seq (AW.block (rgn [.str w] [[],[],[0,4,5,6,7]] ?_)))
  iterate 3 refine op1 tok ?_ (hv:=by first | with_reducible exact True.intro | ((simp [hw]); done) | omega | simp | (simp +contextual; omega))
  refine qA (rgn [.nilp,.bool b] [[],[],[0,4,5,6,7,13]] ?_)
  iterate 3 refine oq1 tok hpw ?_
  refine qA (cnd ?_ ?_)
  ·intro h13
   try simp at h13
   have hR:vJ s=w:=by rw [hS,hfa h13]
   rw [hR]
   refine rgn [] [[],[2]] ?_
   iterate 2 refine op1 tok ?_
   exact qA (AW.ret qX)
  intro h13
  try simp at h13
  have hno2:∀ x∈xA.take (k+1),qY s x=false:=fun x hx=>by
   rw [List.take_add_one,hw] at hx
   rcases List.mem_append.1 hx with h | h
   ·exact hno x h
   simp at h; subst h; rw [hbw]; simpa using h13
  refine AW.skip (rgz [] [[],[0,5,6,7]] ?_)
  iterate 2 refine op1 tok ?_
  refine qA ?_
  exact ⟨k+1,⟨by omega,hno2⟩,by omega,qH (by simp),rfl,by simp,by simp⟩
 intro h8
 try simp at h8
 have hR:vJ s=s.take (min 1 n):=by
  rw [hS,List.find?_eq_none.2 (fun x hx=>by
   have:=hno x (by rw [List.take_of_length_le (by omega)]; exact hx)
   simp [this])]
 rw [hR]
 refine AW.exit ?_
 simp
 refine rgn [.nilp,.int .i64 n] [[],[],[],[],[20],[2]] ?_
 iterate 6 refine oq1 tok h1 ?_
 refine qA ?_
 exact AW.ret (qX (k:=by (simp; split <;> omega)))
theorem qKT {x:UInt8} {k:Nat} (h:k<256):((x.toNat:Nat):Int)=(k:Int)↔x=UInt8.ofNat k:=by
 constructor
 ·intro e; apply UInt8.toNat_inj.1; simp; omega
 rintro rfl; simp; omega
theorem zHV (s:List UInt8):AFn Tryz.prog G 35 [.str s] (.int .i64 (qAV s:Nat)):=by
 refine AFn.introU tok Tryz.func35 (by kernel_rfl) rfl rfl ?_
 simp only [Tryz.f35,qN,List.map_cons,List.map_nil]
 refine AW.strFactU (i:=0) rfl (by decide) ?_
 intro hlen
 have h1:=qGO (G:=G) s
 have hb:=jY qF s
 have hN:qAV s=if vL s (spn qF s)=s.length∨(s.getD (vL s (spn qF s)) 0≠101∧s.getD (vL s (spn qF s)) 0≠69) then vL s (spn qF s) else qJR s (vL s (spn qF s)):=rfl
 have hfl:=qMX s hb
 have hF:vL s (spn qF s)=if qY (s.drop (spn qF s)) [46]=true∧0<spn qF (s.drop (spn qF s+1)) then spn qF s+(1+spn qF (s.drop (spn qF s+1))) else spn qF s:=rfl
 generalize spn qF s=n at *
 have h2:=qCR (G:=G) (s.drop n) [46]
 have hcp:qY (s.drop n) [46]=true→vC (s.drop n) [46]=s.drop (n+1):=fun h=>by unfold vC; rw [if_pos h,List.drop_drop]; rfl
 have h3:=qGO (G:=G) (vC (s.drop n) [46])
 have hdl:=jY qF (s.drop (n+1))
 rw [List.length_drop] at hdl
 generalize vC (s.drop n) [46]=c at *
 generalize qY (s.drop n) [46]=b at *
 generalize vL s n=F at *
 have hE:qJR s F=if 0<spn qF (s.drop (if F+1<s.length∧(s.getD (F+1) 0=43∨s.getD (F+1) 0=45) then F+1+1 else F+1)) then (if F+1<s.length∧(s.getD (F+1) 0=43∨s.getD (F+1) 0=45) then F+1+1 else F+1)+spn qF (s.drop (if F+1<s.length∧(s.getD (F+1) 0=43∨s.getD (F+1) 0=45) then F+1+1 else F+1)) else F:=rfl
 have g0:F<s.length→s[F]?=some (s.getD F 0):=fun h=>qBN h
 have g1:F+1<s.length→s[F+1]?=some (s.getD (F+1) 0):=fun h=>qBN h
 have h10:=fun t=>qGO (G:=G) t
 have hsl:=fun t=>jY qF t
 have hM0:∃ M,(if F+1<s.length∧(s.getD (F+1) 0=43∨s.getD (F+1) 0=45) then F+1+1 else F+1)=M:=⟨_,rfl⟩
 obtain ⟨M,hM⟩:=hM0
 rw [hM] at hE
 generalize s.getD F 0=x0 at *
 generalize s.getD (F+1) 0=x1 at *
 refine rgn [] [[0]] ?_
 refine op1 tok ?_
 refine qA (rgn [.nilp,.int .i64 n] [[],[],[0,3]] ?_)
 iterate 3 refine oq1 tok h1 ?_
 refine qA ?_
 refine AW.join (α:=Unit) (fun _=>True) (fun _=>⟨wL 75 [(0,.p (.str s)),(3,.p (.int .i64 F))],[],[],0⟩) ?_ ?_
 ·
  refine rgn [.nilp,.tup [.str c,.bool b]] [[],[],[],[],[0,3,10],[],[],[],[0,3,4,5]] ?_
  iterate 9 refine op1 tok ?_ (hv:=by first | with_reducible exact True.intro | (first | exact h2 | omega | (simp; omega) | (simp; exact h2); done) | omega | simp | (simp +contextual; omega))
  refine qA (rgn [.nilp,.int .i64 (spn qF c:Nat)] [[],[],[],[],[0,3,4,18,21],[0,3,4,22]] ?_)
  iterate 2 refine op1 tok ?_ (hv:=by first | with_reducible exact True.intro | (first | exact h3 | (simp; exact fun h=>⟨h,h3⟩); done) | omega | simp | (simp +contextual; omega))
  iterate 3 refine op2 tok ?_ (hv:=by first | with_reducible exact True.intro | (first | exact h3 | (simp; exact fun h=>⟨h,h3⟩); done) | omega | simp | (simp +contextual; omega))
  refine op1 tok ?_ (hv:=by first | with_reducible exact True.intro | (first | exact h3 | (simp; exact fun h=>⟨h,h3⟩); done) | omega | simp | (simp +contextual; omega))
  refine qA (cnd ?_ ?_)
  ·intro h22
   try simp at h22
   obtain ⟨hbt,hpos⟩:b=true∧0<spn qF c:=by simpa using h22
   rw [hcp hbt] at hpos h3
   rw [hcp hbt]
   rw [if_pos ⟨hbt,hpos⟩] at hF
   generalize spn qF (s.drop (n+1))=k at *
   refine rgz [.nilp,.int .i64 k] [[],[],[],[0,23,26],[],[0,3]] ?_
   iterate 6 refine oq1 tok h3 ?_
   refine qA ?_
   exact ⟨(),trivial,qH (by simp [hF]),rfl,by simp [hF],by simp [hF]⟩
  intro h22
  try simp at h22
  have hF2:F=n:=by rw [hF,if_neg (fun h=>by rw [hcp h.1] at h22; simp [h.1] at h22; omega)]
  refine AW.skip ?_
  exact ⟨(),trivial,qH (by simp [hF2]),rfl,by simp [hF2],by simp [hF2]⟩
 ·
  rintro _ _
  refine AW.seq ?_
  have e1:((x0.toNat:Nat):Int)=101↔x0=101:=qKT (k:=101) (by decide)
  have e2:((x0.toNat:Nat):Int)=69↔x0=69:=qKT (k:=69) (by decide)
  have e3:((x1.toNat:Nat):Int)=43↔x1=43:=qKT (k:=43) (by decide)
  have e4:((x1.toNat:Nat):Int)=45↔x1=45:=qKT (k:=45) (by decide)
  have e5:((F:Nat):Int)=s.length↔F=s.length:=by omega
  have hlt:((F:Nat):Int)+1<s.length↔F+1<s.length:=by omega
  refine rgn [.int .u8 x0.toNat,.int .u8 x0.toNat] [[],[],[],[],[0,3,32],[],[],[],[],[0,3,32,37],[],[],[],[],[0,3,32,42],[0,3,43]] ?_
  iterate 5 refine op1 tok ?_ (hv:=by first | with_reducible exact True.intro | (first | (intro a1; exact ⟨a1,x0,g0 (by omega),rfl⟩) | (intro a1 a2; exact ⟨⟨a1,a2⟩,x0,g0 (by omega),rfl⟩); done) | omega | simp | (simp +contextual; omega))
  iterate 10 refine op2 tok ?_ (hv:=by first | with_reducible exact True.intro | (first | (intro a1; exact ⟨a1,x0,g0 (by omega),rfl⟩) | (intro a1 a2; exact ⟨⟨a1,a2⟩,x0,g0 (by omega),rfl⟩); done) | omega | simp | (simp +contextual; omega))
  refine op1 tok ?_ (hv:=by first | with_reducible exact True.intro | (first | (intro a1; exact ⟨a1,x0,g0 (by omega),rfl⟩) | (intro a1 a2; exact ⟨⟨a1,a2⟩,x0,g0 (by omega),rfl⟩); done) | omega | simp | (simp +contextual; omega))
  refine qA (cnd ?_ ?_)
  ·intro h43
   try simp at h43
   rw [if_pos (by rw [e1,e2,e5] at h43; exact h43)] at hN
   rw [hN]
   refine rgn [] [[],[2]] ?_
   iterate 2 refine op1 tok ?_
   exact qA (AW.ret qX)
  intro h43
  try simp at h43
  rw [e1,e2,e5] at h43
  have hFl:F<s.length:=by
   by_cases h:F=s.length
   ·simp [h] at h43
   omega
  rw [if_neg (by simpa using h43)] at hN
  rw [hN,hE]
  have hML:M≤s.length:=by rw [← hM]; split <;> omega
  have h10:=h10 (s.drop M)
  have hsl:=hsl (s.drop M)
  rw [List.length_drop] at hsl
  generalize spn qF (s.drop M)=k at *
  refine AW.skip (rgn [] [[],[],[0,3,6]] ?_)
  iterate 3 refine op1 tok ?_
  refine qA ?_
  refine AW.join (α:=Unit) (fun _=>True) (fun _=>⟨wL 75 [(0,.p (.str s)),(3,.p (.int .i64 F)),(6,.p (.int .i64 M))],[],[],0⟩) ?_ ?_
  ·
   refine rgn [.int .u8 x1.toNat,.int .u8 x1.toNat] [[],[],[],[],[0,3,6,51],[],[],[],[],[0,3,6,51,56],[],[],[],[],[0,3,6,51,61],[0,3,6,62]] ?_
   iterate 5 refine op1 tok ?_ (hv:=by first | with_reducible exact True.intro | (first | (intro a1; exact ⟨a1,by omega,x1,g1 (by omega),rfl⟩) | (intro a1 a2; exact ⟨⟨a1,a2⟩,by omega,x1,g1 (by omega),rfl⟩); done) | omega | simp | (simp +contextual; omega))
   iterate 10 refine op2 tok ?_ (hv:=by first | with_reducible exact True.intro | (first | (intro a1; exact ⟨a1,by omega,x1,g1 (by omega),rfl⟩) | (intro a1 a2; exact ⟨⟨a1,a2⟩,by omega,x1,g1 (by omega),rfl⟩); done) | omega | simp | (simp +contextual; omega))
   refine op1 tok ?_ (hv:=by first | with_reducible exact True.intro | (first | (intro a1; exact ⟨a1,by omega,x1,g1 (by omega),rfl⟩) | (intro a1 a2; exact ⟨⟨a1,a2⟩,by omega,x1,g1 (by omega),rfl⟩); done) | omega | simp | (simp +contextual; omega))
   refine qA (cnd ?_ ?_)
   ·intro h62
    try simp at h62
    have hM2:M=F+1+1:=by rw [← hM,if_pos (by rw [e3,e4,hlt] at h62; exact h62)]
    refine rgz [] [[],[],[0,3,6]] ?_
    iterate 3 refine op1 tok ?_
    refine qA ?_
    exact ⟨(),trivial,qH (by simp [hM2]),rfl,by simp [hM2],by simp [hM2]⟩
   intro h62
   try simp at h62
   have hM2:M=F+1:=by rw [← hM,if_neg (by rw [e3,e4,hlt] at h62; simpa using h62)]
   refine AW.skip ?_
   exact ⟨(),trivial,qH (by simp [hM2]),rfl,by simp [hM2],by simp [hM2]⟩
  ·
   rintro _ _
   refine AW.seq (rgn [.nilp,.int .i64 k] [[],[],[],[3,6,68],[3,6,7]] ?_)
   iterate 5 refine oq1 tok h10 ?_
   refine qA (rgn [] [[],[3,6,7,70]] ?_)
   iterate 2 refine op1 tok ?_
   refine qA (cnd ?_ ?_)
   ·intro h70
    try simp at h70
    rw [if_pos (by omega)]
    refine rgn [] [[],[],[73],[2]] ?_
    iterate 4 refine op1 tok ?_
    exact qA (AW.ret qX)
   intro h70
   try simp at h70
   rw [if_neg (by omega)]
   refine AW.skip (rgn [] [[],[2]] ?_)
   iterate 2 refine op1 tok ?_
   exact qA (AW.ret qX)
end Go.Proofs.YtbhhphabggcacaaGreatDoor
