import Derived.Test.YtbhhphabggcacaaGreatDoorK1
import Derived.Test.YtbhhphabggcacaaGreatDoorSShown11
import Derived.Test.YtbhhphabggcacaaGreatDoorM3
namespace Go.Proofs.YtbhhphabggcacaaGreatDoor
open Sy Go
set_option maxRecDepth 100000
set_option maxHeartbeats 4000000
set_option linter.unusedSimpArgs false
set_option linter.unusedVariables false
variable {G:qM}
def uT (n:Nat) (ks:List Int):List PD:=(List.range n).map fun j:Nat=>PD.int .i64 ((ks.count (j:Int):Nat):Int)
theorem jX (n:Nat) (ks:List Int):(uT n ks).length=n:=by simp [uT]
theorem vD {n:Nat} (ks:List Int) {j:Nat} (h:j<n):(uT n ks)[j]?=some (PD.int .i64 ((ks.count (j:Int):Nat):Int)):=by simp [uT,h]
theorem qQQ (n:Nat):List.replicate n (PD.int .i64 0)=uT n []:=by
 apply List.ext_getElem?
 intro j
 by_cases h:j<n
 ·rw [vD [] h]; simp [h]
 rw [List.getElem?_eq_none (by rw [List.length_replicate]; omega),List.getElem?_eq_none (by rw [jX]; omega)]
theorem qQP {n:Nat} (ks:List Int) {c:Nat} (h:c<n):(uT n ks).set c (PD.int .i64 (((ks.count (c:Int):Nat):Int)+1))=uT n (ks++[(c:Int)]):=by
 apply List.ext_getElem?
 intro j
 by_cases hj:j<n
 ·rw [List.getElem?_set,vD (ks++[(c:Int)]) hj,jX]
  by_cases e:c=j
  ·subst e; rw [if_pos rfl,if_pos h]; simp [List.count_append]
  rw [if_neg e,vD ks hj]
  have:¬ ((c:Int)=(j:Int)):=by omega
  simp [List.count_append,List.count_cons,this]
 rw [List.getElem?_eq_none (by rw [List.length_set,jX]; omega),List.getElem?_eq_none (by rw [jX]; omega)]
def qB (x:Nd) (n:Nat):Nat :=
 if x.op=4∨x.op=5∨x.op=6∨x.op=13∨x.op=14∨x.op=17∨x.op=20 then 1
 else if x.op=7∨x.op=8∨x.op=11∨x.op=16 then 2
 else if x.op=12∨x.op=15 then 3
 else if x.op=10 then x.keys.length
 else if x.op=9 then n % 2
 else 0
theorem qWP {x:Nd} {k:Nat} (h:wN x k=true):k=qB x k∧1≤x.op∧x.op≤20:=by
 unfold wN at h
 unfold qB
 simp only [Bool.and_eq_true,decide_eq_true_eq] at h
 refine ⟨?_,h.1.1⟩
 obtain ⟨-, h⟩:=h
 split at h
 ·rw [if_pos ‹_›]; simpa using h
 rw [if_neg ‹_›]
 split at h
 ·rw [if_pos ‹_›]; simpa using h
 rw [if_neg ‹_›]
 split at h
 ·rw [if_pos ‹_›]; simpa using h
 rw [if_neg ‹_›]
 split at h
 ·rw [if_pos ‹_›]; simpa using h
 rw [if_neg ‹_›]
 split at h
 ·rw [if_pos ‹_›]; simp only [decide_eq_true_eq] at h; omega
 rw [if_neg ‹_›]; simpa using h
theorem qXN (n:Nat) (h:n≤100000):IntKind.i64.wrap ((n % 2 ^ IntKind.i64.bits &&& 1 % 2 ^ IntKind.i64.bits:Nat):Int)=((n % 2:Nat):Int):=by
 have e1:n % 2 ^ IntKind.i64.bits=n:=by
  show n % 18446744073709551616=n
  omega
 have e2:1 % 2 ^ IntKind.i64.bits=2 ^ 1-1:=by decide
 rw [e1,e2,Nat.and_two_pow_sub_one_eq_mod]
 have h8:n % 2 ^ 1<2:=Nat.mod_lt _ (by decide)
 show IntKind.i64.wrap ((n % 2 ^ 1:Nat):Int)=((n % 2 ^ 1:Nat):Int)
 generalize n % 2 ^ 1=x at *
 simp [IntKind.wrap,IntKind.bits,IntKind.signed]
 split <;> omega
theorem qQK:∀ (l:List Int) (a b:Int),l.Pairwise (· < ·)→(∀ k∈l,a≤k∧k<b)→l.length≤(b-a).toNat
 | [],a,b,_,_=>by simp
 | c::l,a,b,h,hm=>by
  have hc:=hm c (by simp)
  have:=qQK l (c+1) b (List.pairwise_cons.1 h).2 (fun k hk=>⟨by have:=(List.pairwise_cons.1 h).1 k hk; omega,(hm k (by simp [hk])).2⟩)
  simp only [List.length_cons]; omega
theorem qNT {s:List UInt8} (h:(qEO s).2=0):1≤(qEO s).1.length∧(qEO s).1.length≤400∧(∀ (i:Nat) x,(qEO s).1[i]?=some x→qOA i x)∧∀ j:Int,(wO (qEO s).1).count j=if 0≤j∧j+1<((qEO s).1.length:Nat) then 1 else 0:=by
 unfold qEO at h ⊢
 by_cases c:(qBR s).2=0
 ·rw [if_pos c] at h ⊢
  obtain ⟨t,h1,h2,h3⟩:=qSY h
  have hl:(qLE (qBR s).1).1.length=t.size:=by rw [h1,Tr.flat_len]
  have hp:=Tr.size_pos t
  refine ⟨by omega,by omega,fun i x hx => ?_,fun j => ?_⟩
  ·rw [h1] at hx
   have:=Tr.nodes t 0 h2 i x hx
   rwa [Nat.zero_add] at this
  rw [hl,h1,Tr.count]
  have e:((0:Nat):Int)≤j∧j+1<((0:Nat):Int)+t.size↔0≤j∧j+1<((t.size:Nat):Int):=by omega
  by_cases d:0≤j∧j+1<((t.size:Nat):Int)
  ·rw [if_pos d,if_pos (e.2 d)]
  rw [if_neg d,if_neg fun x=>d (e.1 x)]
 rw [if_neg c] at h; exact absurd h c
theorem qHU (hG:U8 G) (hE:PE G) (s:List UInt8) (hI:∀ n:Int,AFn Tryz.prog G 29 [.int .i64 n] (.str (Lib.itoa n))):AFn Tryz.prog G 4 [.str s] (.bool true):=by
 refine AFn.introU tok Tryz.func4 (by kernel_rfl) rfl rfl ?_
 simp only [Tryz.f4,qN,List.map_cons,List.map_nil]
 have hsh:=qNR (G:=G) hG hE hI
 have hf:=qUC (G:=G) s
 have hp:=qPJ (G:=G) hG hE (qIV s)
 have hR:=qNT (s:=qIV s)
 generalize qEO (qIV s)=R at *
 obtain ⟨l,e⟩:=R
 simp only at hp hR
 have hle:(l.map Nd.enc).length=l.length:=by simp
 have hge:∀ (i:Nat) x,l[i]?=some x→(l.map Nd.enc)[i]?=some x.enc:=fun i x h=>by rw [List.getElem?_map,h]; rfl
 generalize l.map Nd.enc=LE at *
 generalize qIV s=s1 at *
 refine rgn [] [[0]] ?_
 refine op1 tok ?_
 refine qA (rgn [.nilp,.bool true] [[],[0,3]] ?_)
 iterate 2 refine oq1 tok hsh ?_
 refine qA (rgn [.nilp,.str s1,.nilp,.tup [.sl 8 LE,.int .i64 e]] [[],[],[],[3,13],[],[],[],[3,4,5]] ?_)
 iterate 8 refine oq1 tok (ai hf hp) ?_
 refine qA (AW.seq (rgn [] [[],[3,4,20]] ?_))
 iterate 2 refine op1 tok ?_
 refine qA (cnd ?_ ?_)
 ·intro h20
  try simp at h20
  refine rgn [] [[],[2]] ?_
  iterate 2 refine op1 tok ?_
  exact qA (AW.ret qR)
 intro h20
 try simp at h20
 obtain ⟨hl1,hl4,hno,hct⟩:=hR h20
 have hz:=qQQ l.length
 refine AW.skip (rgn [.int .i64 0] [[],[],[],[3,4,6]] ?_)
 iterate 4 refine op1 tok ?_ (h:=by intro C; conv=>lhs; simp [hle,hz])
 refine qA (AW.seq (rgn [] [[]] ?_))
 refine op1 tok ?_
 refine qA (AW.block ?_)
 refine AW.loop (α:=Nat) (fun i=>i≤l.length) (fun i=>⟨zO 172 [(3,.p (.bool true)),(4,.p (.sl 8 LE)),(6,.ms 24),(7,.p (.int .i64 i))],[],[(24,.row 3 1 (uT l.length (wO (l.take i))))],0⟩) (fun i=>l.length-i) (0) (by omega) ⟨qD (by simp),rfl,by simp [wO],by simp⟩ ?_
 rintro i hi
 refine AW.seq (rgn [] [[],[],[],[3,4,6,7,28]] ?_)
 iterate 4 refine op1 tok ?_
 refine qA (cnd ?_ ?_)
 ·intro h28
  try simp at h28
  obtain ⟨x,hx⟩:∃ x,l[i]?=some x:=⟨l[i]'(by omega),by simp [show i<l.length by omega]⟩
  have hxe:=hge i x hx
  obtain ⟨hn1,hn2,hn3⟩:=hno i x hx
  obtain ⟨hm1,hm2,hm3⟩:=qWP hn3
  have hK:wO (l.take (i+1))=wO (l.take i)++x.kids:=by rw [List.take_add_one,hx,qAX]; simp [wO]
  have hkl:x.kids.length≤100000:=by have:=qQK x.kids 0 i hn2 hn1; omega
  refine AW.skip (AW.seq (AW.block (rgn [x.enc] [[],[],[],[],[],[3,4,6,7,8]] ?_)))
  iterate 6 refine op1 tok ?_ (hv:=by first | with_reducible exact True.intro | (first | exact hxe | (simp [hxe]; done) | (simp; omega); done) | omega | simp | (simp +contextual; omega))
  refine qA (AW.seq (rgn [] [[]] ?_))
  refine op1 tok ?_
  refine qA (AW.block ?_)
  refine AW.loop (α:=Nat) (fun k=>k≤x.kids.length) (fun k=>⟨zO 172 [(3,.p (.bool true)),(4,.p (.sl 8 LE)),(6,.ms 24),(7,.p (.int .i64 i)),(8,.ptr 8 0),(9,.p (.int .i64 k))],[],[(24,.row 3 1 (uT l.length (wO (l.take i)++x.kids.take k))),(8,.vars 36 x.cells)],0⟩) (fun k=>x.kids.length-k) (0) (by omega) ⟨qD (by simp),rfl,by simp,by simp⟩ ?_
  rintro k hk
  refine AW.seq (rgn [] [[],[],[],[],[3,4,6,7,8,9,39]] ?_)
  iterate 5 refine op1 tok ?_
  refine qA (cnd ?_ ?_)
  ·intro h39
   try simp at h39
   obtain ⟨c,hc⟩:∃ c,x.kids[k]?=some c:=⟨x.kids[k]'(by omega),by simp [show k<x.kids.length by omega]⟩
   have hcm:=hn1 c (List.mem_of_getElem? hc)
   obtain ⟨cn,rfl⟩:∃ cn:Nat,c=(cn:Int):=⟨c.toNat,by omega⟩
   have hprev:0<k→∃ d,x.kids[k-1]?=some d∧d<(cn:Int):=fun h0=>by
    refine ⟨x.kids[k-1]'(by omega),by simp [show k-1<x.kids.length by omega], ?_⟩
    have:=List.pairwise_iff_getElem.1 hn2 (k-1) k (by omega) (by omega) (by omega)
    rw [(List.getElem?_eq_some_iff.1 hc).2] at this
    exact this
   obtain ⟨d,hd⟩:∃ d,0<k→x.kids[k-1]?=some d∧d<(cn:Int):=by
    by_cases h0:0<k
    ·obtain ⟨d,hd⟩:=hprev h0; exact ⟨d,fun _=>hd⟩
    exact ⟨0,fun h=>absurd h h0⟩
   have hug:=vD (n:=l.length) (wO (l.take i)++x.kids.take k) (j:=cn) (by omega)
   have hus:=qQP (n:=l.length) (wO (l.take i)++x.kids.take k) (c:=cn) (by omega)
   have htk:x.kids.take (k+1)=x.kids.take k++[(cn:Int)]:=by rw [List.take_add_one,hc]; rfl
   have hul:=jX l.length (wO (l.take i)++x.kids.take k)
   have hcb:(wO (l.take i)++x.kids.take k).count (cn:Int)≤1000000:=by
    rw [List.count_append]
    have h1:(x.kids.take k).count (cn:Int)≤(x.kids.take k).length:=List.count_le_length
    have h2:(wO l).count (cn:Int)=(wO (l.take i)).count (cn:Int)+(wO (l.drop i)).count (cn:Int):=by
     rw [← List.count_append,← qAX,List.take_append_drop]
    have h3:=hct (cn:Int)
    have h4:(x.kids.take k).length≤x.kids.length:=(List.take_sublist _ _).length_le
    split at h3 <;> omega
   rw [List.append_assoc,← htk] at hus
   generalize (wO (l.take i)++x.kids.take k).count (cn:Int)=q at *
   refine AW.skip (AW.seq (AW.block (AW.seq ?_)))
   refine AW.seqDrawS tok mixed 33 [[8],[42],[9],[43,44],[45],[46],[47],[8,48],[49,48],[9,48],[50,51,48],[52,48],[7,48],[53,54,48],[48,55],[56],[9,57],[58,57],[59,57],[8,60],[61,60],[9,60],[62,63,60],[64,60],[8,60],[66,60],[9,60],[68,60],[67,69,60],[70,60],[65,71,60],[60,72,57],[57,73]] [.int .i64 cn,.int .i64 cn,.int .i64 cn,.int .i64 d] [] (by kernel_rfl) ?_
   iterate 7 refine d1 ?_ (hv:=by first | with_reducible exact True.intro | (first | exact hc | (intro a1 a2; exact ⟨⟨a1,a2⟩,hc⟩) | (intro a1 a2; exact ⟨⟨a1,a2⟩,by omega,by omega⟩) | (intro a1 a2; exact ⟨⟨a1,a2⟩,by omega,(hd a2).1⟩) | (intro a1; exact ⟨a1,fun a2=>⟨a1,a2⟩⟩); done) | omega | simp | (simp +contextual; omega))
   iterate 7 refine d2 48 rfl rfl ?_ (hv:=by first | with_reducible exact True.intro | (first | exact hc | (intro a1 a2; exact ⟨⟨a1,a2⟩,hc⟩) | (intro a1 a2; exact ⟨⟨a1,a2⟩,by omega,by omega⟩) | (intro a1 a2; exact ⟨⟨a1,a2⟩,by omega,(hd a2).1⟩) | (intro a1; exact ⟨a1,fun a2=>⟨a1,a2⟩⟩); done) | omega | simp | (simp +contextual; omega))
   iterate 2 refine d1 ?_ (hv:=by first | with_reducible exact True.intro | (first | exact hc | (intro a1 a2; exact ⟨⟨a1,a2⟩,hc⟩) | (intro a1 a2; exact ⟨⟨a1,a2⟩,by omega,by omega⟩) | (intro a1 a2; exact ⟨⟨a1,a2⟩,by omega,(hd a2).1⟩) | (intro a1; exact ⟨a1,fun a2=>⟨a1,a2⟩⟩); done) | omega | simp | (simp +contextual; omega))
   iterate 3 refine d2 57 rfl rfl ?_ (hv:=by first | with_reducible exact True.intro | (first | exact hc | (intro a1 a2; exact ⟨⟨a1,a2⟩,hc⟩) | (intro a1 a2; exact ⟨⟨a1,a2⟩,by omega,by omega⟩) | (intro a1 a2; exact ⟨⟨a1,a2⟩,by omega,(hd a2).1⟩) | (intro a1; exact ⟨a1,fun a2=>⟨a1,a2⟩⟩); done) | omega | simp | (simp +contextual; omega))
   iterate 12 refine d2 60 rfl rfl ?_ (hv:=by first | with_reducible exact True.intro | (first | exact hc | (intro a1 a2; exact ⟨⟨a1,a2⟩,hc⟩) | (intro a1 a2; exact ⟨⟨a1,a2⟩,by omega,by omega⟩) | (intro a1 a2; exact ⟨⟨a1,a2⟩,by omega,(hd a2).1⟩) | (intro a1; exact ⟨a1,fun a2=>⟨a1,a2⟩⟩); done) | omega | simp | (simp +contextual; omega))
   refine d2 57 rfl rfl ?_ (hv:=by first | with_reducible exact True.intro | (first | exact hc | (intro a1 a2; exact ⟨⟨a1,a2⟩,hc⟩) | (intro a1 a2; exact ⟨⟨a1,a2⟩,by omega,by omega⟩) | (intro a1 a2; exact ⟨⟨a1,a2⟩,by omega,(hd a2).1⟩) | (intro a1; exact ⟨a1,fun a2=>⟨a1,a2⟩⟩); done) | omega | simp | (simp +contextual; omega))
   refine d1 ?_ (hv:=by first | with_reducible exact True.intro | (first | exact hc | (intro a1 a2; exact ⟨⟨a1,a2⟩,hc⟩) | (intro a1 a2; exact ⟨⟨a1,a2⟩,by omega,by omega⟩) | (intro a1 a2; exact ⟨⟨a1,a2⟩,by omega,(hd a2).1⟩) | (intro a1; exact ⟨a1,fun a2=>⟨a1,a2⟩⟩); done) | omega | simp | (simp +contextual; omega))
   refine DGo.nil (by kernel_rfl) ⟨by kernel_rfl, ?_⟩
   refine qE.nil ?_
   refine cnd ?_ ?_
   ·intro h74
    try simp at h74
    exfalso; (rcases h74 with h | ⟨h1,h2⟩ <;> first | omega | (have:=(hd h1).2; omega))
   intro h74
   try simp at h74
   refine AW.skip (rgz [.int .i64 cn,.int .i64 q,.int .i64 q,.int .i64 ((q:Int)+1)] [[],[],[],[],[],[3,4,6,7,8,9,75,80],[],[],[],[3,4,6,7,8,9,83,84],[3,4,6,7,8,9]] ?_)
   iterate 11 refine op1 tok ?_ (hv:=by first | with_reducible exact True.intro | (first | exact hc | exact hug | (simp [hc]; done) | (simp [hug]; done) | omega | (simp [hul]; omega); done) | omega | simp | (simp +contextual; omega))
   refine qA (rgz [] [[],[],[3,4,6,7,8,9]] ?_)
   iterate 3 refine op1 tok ?_
   refine qA ?_
   exact ⟨k+1,by omega,by omega,qD (by simp [hus]),rfl,by simp [hus],by simp [hus]⟩
  intro h39
  try simp at h39
  obtain rfl:k=x.kids.length:=by omega
  have hand:=qXN x.kids.length hkl
  rw [List.take_length,← hK]
  refine AW.exit ?_
  simp
  refine rgn [] [[]] ?_
  refine op1 tok ?_
  refine qA ?_
  refine AW.join (α:=Unit) (fun _=>True) (fun _=>⟨zO 172 [(3,.p (.bool true)),(4,.p (.sl 8 LE)),(6,.ms 24),(7,.p (.int .i64 i)),(8,.ptr 8 0),(10,.p (.int .i64 (qB x x.kids.length:Nat)))],[],[(24,.row 3 1 (uT l.length (wO (l.take (i+1))))),(8,.vars 36 x.cells)],0⟩) ?_ ?_
  ·
   refine rgn [] [[],[3,4,6,7,8,10,86]] ?_
   iterate 2 refine op1 tok ?_
   refine qA (AW.block (AW.seq (rgn [] [[],[3,4,6,7,8,10,86,87]] ?_)))
   iterate 2 refine op1 tok ?_
   refine qA (cnd ?_ ?_)
   ·intro h87
    try simp at h87
    refine AW.skip (cnd ?_ ?_)
    ·intro h87
     try simp at h87
     refine rgz [] [[]] ?_
     refine op1 tok ?_
     refine qA ?_
     exact ⟨(),trivial,qD (by first | (exfalso; omega) | (clear hm1 hand hK hn3; simp [qB, *])),rfl,by first | (exfalso; omega) | (clear hm1 hand hK hn3; simp [qB, *]),by first | (exfalso; omega) | (clear hm1 hand hK hn3; simp [qB, *])⟩
    intro h87
    try simp at h87
    refine AW.seq (rgn [] [[],[3,4,6,7,8,10,86,95]] ?_)
    iterate 2 refine op1 tok ?_
    refine qA (cnd ?_ ?_)
    ·intro h95
     try simp at h95
     refine AW.skip (cnd ?_ ?_)
     ·intro h95
      try simp at h95
      refine rgz [] [[]] ?_
      refine op1 tok ?_
      refine qA ?_
      exact ⟨(),trivial,qD (by first | (exfalso; omega) | (clear hm1 hand hK hn3; simp [qB, *])),rfl,by first | (exfalso; omega) | (clear hm1 hand hK hn3; simp [qB, *]),by first | (exfalso; omega) | (clear hm1 hand hK hn3; simp [qB, *])⟩
     intro h95
     try simp at h95
     refine AW.seq (rgn [] [[],[3,4,6,7,8,10,86,100]] ?_)
     iterate 2 refine op1 tok ?_
     refine qA (cnd ?_ ?_)
     ·intro h100
      try simp at h100
      refine AW.skip (cnd ?_ ?_)
      ·intro h100
       try simp at h100
       refine rgz [] [[]] ?_
       refine op1 tok ?_
       refine qA ?_
       exact ⟨(),trivial,qD (by first | (exfalso; omega) | (clear hm1 hand hK hn3; simp [qB, *])),rfl,by first | (exfalso; omega) | (clear hm1 hand hK hn3; simp [qB, *]),by first | (exfalso; omega) | (clear hm1 hand hK hn3; simp [qB, *])⟩
      intro h100
      try simp at h100
      refine rgn [] [[],[3,4,6,7,8,10,86,103]] ?_
      iterate 2 refine op1 tok ?_
      refine qA (cnd ?_ ?_)
      ·intro h103
       try simp at h103
       refine rgz [] [[],[],[],[3,4,6,7,8,10]] ?_
       iterate 4 refine op1 tok ?_
       refine qA ?_
       exact ⟨(),trivial,qD (by first | (exfalso; omega) | (clear hm1 hand hK hn3; simp [qB, *])),rfl,by first | (exfalso; omega) | (clear hm1 hand hK hn3; simp [qB, *]),by first | (exfalso; omega) | (clear hm1 hand hK hn3; simp [qB, *])⟩
      intro h103
      try simp at h103
      refine rgn [] [[],[3,4,6,7,8,10,108]] ?_
      iterate 2 refine op1 tok ?_
      refine qA (cnd ?_ ?_)
      ·intro h108
       try simp at h108
       refine rgz [] [[],[],[],[],[3,4,6,7,8,10]] ?_
       iterate 5 refine op1 tok ?_ (h:=by intro C; conv=>lhs; simp [hand])
       refine qA ?_
       exact ⟨(),trivial,qD (by first | (exfalso; omega) | (clear hm1 hand hK hn3; simp [qB, *])),rfl,by first | (exfalso; omega) | (clear hm1 hand hK hn3; simp [qB, *]),by first | (exfalso; omega) | (clear hm1 hand hK hn3; simp [qB, *])⟩
      intro h108
      try simp at h108
      refine AW.skip ?_
      exact ⟨(),trivial,qD (by first | (exfalso; omega) | (clear hm1 hand hK hn3; simp [qB, *])),rfl,by first | (exfalso; omega) | (clear hm1 hand hK hn3; simp [qB, *]),by first | (exfalso; omega) | (clear hm1 hand hK hn3; simp [qB, *])⟩
     intro h100
     try simp at h100
     refine rgz [] [[],[3,4,6,7,8,10,86,100]] ?_
     iterate 2 refine op1 tok ?_
     refine qA (cnd ?_ ?_)
     ·intro h100
      try simp at h100
      refine rgz [] [[]] ?_
      refine op1 tok ?_
      refine qA ?_
      exact ⟨(),trivial,qD (by first | (exfalso; omega) | (clear hm1 hand hK hn3; simp [qB, *])),rfl,by first | (exfalso; omega) | (clear hm1 hand hK hn3; simp [qB, *]),by first | (exfalso; omega) | (clear hm1 hand hK hn3; simp [qB, *])⟩
     intro h100
     try simp at h100
     refine rgn [] [[],[3,4,6,7,8,10,86,103]] ?_
     iterate 2 refine op1 tok ?_
     refine qA (cnd ?_ ?_)
     ·intro h103
      try simp at h103
      refine rgz [] [[],[],[],[3,4,6,7,8,10]] ?_
      iterate 4 refine op1 tok ?_
      refine qA ?_
      exact ⟨(),trivial,qD (by first | (exfalso; omega) | (clear hm1 hand hK hn3; simp [qB, *])),rfl,by first | (exfalso; omega) | (clear hm1 hand hK hn3; simp [qB, *]),by first | (exfalso; omega) | (clear hm1 hand hK hn3; simp [qB, *])⟩
     intro h103
     try simp at h103
     refine rgn [] [[],[3,4,6,7,8,10,108]] ?_
     iterate 2 refine op1 tok ?_
     refine qA (cnd ?_ ?_)
     ·intro h108
      try simp at h108
      refine rgz [] [[],[],[],[],[3,4,6,7,8,10]] ?_
      iterate 5 refine op1 tok ?_ (h:=by intro C; conv=>lhs; simp [hand])
      refine qA ?_
      exact ⟨(),trivial,qD (by first | (exfalso; omega) | (clear hm1 hand hK hn3; simp [qB, *])),rfl,by first | (exfalso; omega) | (clear hm1 hand hK hn3; simp [qB, *]),by first | (exfalso; omega) | (clear hm1 hand hK hn3; simp [qB, *])⟩
     intro h108
     try simp at h108
     refine AW.skip ?_
     exact ⟨(),trivial,qD (by first | (exfalso; omega) | (clear hm1 hand hK hn3; simp [qB, *])),rfl,by first | (exfalso; omega) | (clear hm1 hand hK hn3; simp [qB, *]),by first | (exfalso; omega) | (clear hm1 hand hK hn3; simp [qB, *])⟩
    intro h95
    try simp at h95
    refine rgn [] [[],[3,4,6,7,8,10,86,95]] ?_
    iterate 2 refine op1 tok ?_
    refine qA (cnd ?_ ?_)
    ·intro h95
     try simp at h95
     refine AW.skip (cnd ?_ ?_)
     ·intro h95
      try simp at h95
      refine rgz [] [[]] ?_
      refine op1 tok ?_
      refine qA ?_
      exact ⟨(),trivial,qD (by first | (exfalso; omega) | (clear hm1 hand hK hn3; simp [qB, *])),rfl,by first | (exfalso; omega) | (clear hm1 hand hK hn3; simp [qB, *]),by first | (exfalso; omega) | (clear hm1 hand hK hn3; simp [qB, *])⟩
     intro h95
     try simp at h95
     refine AW.seq (rgn [] [[],[3,4,6,7,8,10,86,100]] ?_)
     iterate 2 refine op1 tok ?_
     refine qA (cnd ?_ ?_)
     ·intro h100
      try simp at h100
      refine AW.skip (cnd ?_ ?_)
      ·intro h100
       try simp at h100
       refine rgz [] [[]] ?_
       refine op1 tok ?_
       refine qA ?_
       exact ⟨(),trivial,qD (by first | (exfalso; omega) | (clear hm1 hand hK hn3; simp [qB, *])),rfl,by first | (exfalso; omega) | (clear hm1 hand hK hn3; simp [qB, *]),by first | (exfalso; omega) | (clear hm1 hand hK hn3; simp [qB, *])⟩
      intro h100
      try simp at h100
      refine rgn [] [[],[3,4,6,7,8,10,86,103]] ?_
      iterate 2 refine op1 tok ?_
      refine qA (cnd ?_ ?_)
      ·intro h103
       try simp at h103
       refine rgz [] [[],[],[],[3,4,6,7,8,10]] ?_
       iterate 4 refine op1 tok ?_
       refine qA ?_
       exact ⟨(),trivial,qD (by first | (exfalso; omega) | (clear hm1 hand hK hn3; simp [qB, *])),rfl,by first | (exfalso; omega) | (clear hm1 hand hK hn3; simp [qB, *]),by first | (exfalso; omega) | (clear hm1 hand hK hn3; simp [qB, *])⟩
      intro h103
      try simp at h103
      refine rgn [] [[],[3,4,6,7,8,10,108]] ?_
      iterate 2 refine op1 tok ?_
      refine qA (cnd ?_ ?_)
      ·intro h108
       try simp at h108
       refine rgz [] [[],[],[],[],[3,4,6,7,8,10]] ?_
       iterate 5 refine op1 tok ?_ (h:=by intro C; conv=>lhs; simp [hand])
       refine qA ?_
       exact ⟨(),trivial,qD (by first | (exfalso; omega) | (clear hm1 hand hK hn3; simp [qB, *])),rfl,by first | (exfalso; omega) | (clear hm1 hand hK hn3; simp [qB, *]),by first | (exfalso; omega) | (clear hm1 hand hK hn3; simp [qB, *])⟩
      intro h108
      try simp at h108
      refine AW.skip ?_
      exact ⟨(),trivial,qD (by first | (exfalso; omega) | (clear hm1 hand hK hn3; simp [qB, *])),rfl,by first | (exfalso; omega) | (clear hm1 hand hK hn3; simp [qB, *]),by first | (exfalso; omega) | (clear hm1 hand hK hn3; simp [qB, *])⟩
     intro h100
     try simp at h100
     refine rgz [] [[],[3,4,6,7,8,10,86,100]] ?_
     iterate 2 refine op1 tok ?_
     refine qA (cnd ?_ ?_)
     ·intro h100
      try simp at h100
      refine rgz [] [[]] ?_
      refine op1 tok ?_
      refine qA ?_
      exact ⟨(),trivial,qD (by first | (exfalso; omega) | (clear hm1 hand hK hn3; simp [qB, *])),rfl,by first | (exfalso; omega) | (clear hm1 hand hK hn3; simp [qB, *]),by first | (exfalso; omega) | (clear hm1 hand hK hn3; simp [qB, *])⟩
     intro h100
     try simp at h100
     refine rgn [] [[],[3,4,6,7,8,10,86,103]] ?_
     iterate 2 refine op1 tok ?_
     refine qA (cnd ?_ ?_)
     ·intro h103
      try simp at h103
      refine rgz [] [[],[],[],[3,4,6,7,8,10]] ?_
      iterate 4 refine op1 tok ?_
      refine qA ?_
      exact ⟨(),trivial,qD (by first | (exfalso; omega) | (clear hm1 hand hK hn3; simp [qB, *])),rfl,by first | (exfalso; omega) | (clear hm1 hand hK hn3; simp [qB, *]),by first | (exfalso; omega) | (clear hm1 hand hK hn3; simp [qB, *])⟩
     intro h103
     try simp at h103
     refine rgn [] [[],[3,4,6,7,8,10,108]] ?_
     iterate 2 refine op1 tok ?_
     refine qA (cnd ?_ ?_)
     ·intro h108
      try simp at h108
      refine rgz [] [[],[],[],[],[3,4,6,7,8,10]] ?_
      iterate 5 refine op1 tok ?_ (h:=by intro C; conv=>lhs; simp [hand])
      refine qA ?_
      exact ⟨(),trivial,qD (by first | (exfalso; omega) | (clear hm1 hand hK hn3; simp [qB, *])),rfl,by first | (exfalso; omega) | (clear hm1 hand hK hn3; simp [qB, *]),by first | (exfalso; omega) | (clear hm1 hand hK hn3; simp [qB, *])⟩
     intro h108
     try simp at h108
     refine AW.skip ?_
     exact ⟨(),trivial,qD (by first | (exfalso; omega) | (clear hm1 hand hK hn3; simp [qB, *])),rfl,by first | (exfalso; omega) | (clear hm1 hand hK hn3; simp [qB, *]),by first | (exfalso; omega) | (clear hm1 hand hK hn3; simp [qB, *])⟩
    intro h95
    try simp at h95
    refine rgn [] [[],[3,4,6,7,8,10,86,95]] ?_
    iterate 2 refine op1 tok ?_
    refine qA (cnd ?_ ?_)
    ·intro h95
     try simp at h95
     refine AW.skip (cnd ?_ ?_)
     ·intro h95
      try simp at h95
      refine rgz [] [[]] ?_
      refine op1 tok ?_
      refine qA ?_
      exact ⟨(),trivial,qD (by first | (exfalso; omega) | (clear hm1 hand hK hn3; simp [qB, *])),rfl,by first | (exfalso; omega) | (clear hm1 hand hK hn3; simp [qB, *]),by first | (exfalso; omega) | (clear hm1 hand hK hn3; simp [qB, *])⟩
     intro h95
     try simp at h95
     refine AW.seq (rgn [] [[],[3,4,6,7,8,10,86,100]] ?_)
     iterate 2 refine op1 tok ?_
     refine qA (cnd ?_ ?_)
     ·intro h100
      try simp at h100
      refine AW.skip (cnd ?_ ?_)
      ·intro h100
       try simp at h100
       refine rgz [] [[]] ?_
       refine op1 tok ?_
       refine qA ?_
       exact ⟨(),trivial,qD (by first | (exfalso; omega) | (clear hm1 hand hK hn3; simp [qB, *])),rfl,by first | (exfalso; omega) | (clear hm1 hand hK hn3; simp [qB, *]),by first | (exfalso; omega) | (clear hm1 hand hK hn3; simp [qB, *])⟩
      intro h100
      try simp at h100
      refine rgn [] [[],[3,4,6,7,8,10,86,103]] ?_
      iterate 2 refine op1 tok ?_
      refine qA (cnd ?_ ?_)
      ·intro h103
       try simp at h103
       refine rgz [] [[],[],[],[3,4,6,7,8,10]] ?_
       iterate 4 refine op1 tok ?_
       refine qA ?_
       exact ⟨(),trivial,qD (by first | (exfalso; omega) | (clear hm1 hand hK hn3; simp [qB, *])),rfl,by first | (exfalso; omega) | (clear hm1 hand hK hn3; simp [qB, *]),by first | (exfalso; omega) | (clear hm1 hand hK hn3; simp [qB, *])⟩
      intro h103
      try simp at h103
      refine rgn [] [[],[3,4,6,7,8,10,108]] ?_
      iterate 2 refine op1 tok ?_
      refine qA (cnd ?_ ?_)
      ·intro h108
       try simp at h108
       refine rgz [] [[],[],[],[],[3,4,6,7,8,10]] ?_
       iterate 5 refine op1 tok ?_ (h:=by intro C; conv=>lhs; simp [hand])
       refine qA ?_
       exact ⟨(),trivial,qD (by first | (exfalso; omega) | (clear hm1 hand hK hn3; simp [qB, *])),rfl,by first | (exfalso; omega) | (clear hm1 hand hK hn3; simp [qB, *]),by first | (exfalso; omega) | (clear hm1 hand hK hn3; simp [qB, *])⟩
      intro h108
      try simp at h108
      refine AW.skip ?_
      exact ⟨(),trivial,qD (by first | (exfalso; omega) | (clear hm1 hand hK hn3; simp [qB, *])),rfl,by first | (exfalso; omega) | (clear hm1 hand hK hn3; simp [qB, *]),by first | (exfalso; omega) | (clear hm1 hand hK hn3; simp [qB, *])⟩
     intro h100
     try simp at h100
     refine rgz [] [[],[3,4,6,7,8,10,86,100]] ?_
     iterate 2 refine op1 tok ?_
     refine qA (cnd ?_ ?_)
     ·intro h100
      try simp at h100
      refine rgz [] [[]] ?_
      refine op1 tok ?_
      refine qA ?_
      exact ⟨(),trivial,qD (by first | (exfalso; omega) | (clear hm1 hand hK hn3; simp [qB, *])),rfl,by first | (exfalso; omega) | (clear hm1 hand hK hn3; simp [qB, *]),by first | (exfalso; omega) | (clear hm1 hand hK hn3; simp [qB, *])⟩
     intro h100
     try simp at h100
     refine rgn [] [[],[3,4,6,7,8,10,86,103]] ?_
     iterate 2 refine op1 tok ?_
     refine qA (cnd ?_ ?_)
     ·intro h103
      try simp at h103
      refine rgz [] [[],[],[],[3,4,6,7,8,10]] ?_
      iterate 4 refine op1 tok ?_
      refine qA ?_
      exact ⟨(),trivial,qD (by first | (exfalso; omega) | (clear hm1 hand hK hn3; simp [qB, *])),rfl,by first | (exfalso; omega) | (clear hm1 hand hK hn3; simp [qB, *]),by first | (exfalso; omega) | (clear hm1 hand hK hn3; simp [qB, *])⟩
     intro h103
     try simp at h103
     refine rgn [] [[],[3,4,6,7,8,10,108]] ?_
     iterate 2 refine op1 tok ?_
     refine qA (cnd ?_ ?_)
     ·intro h108
      try simp at h108
      refine rgz [] [[],[],[],[],[3,4,6,7,8,10]] ?_
      iterate 5 refine op1 tok ?_ (h:=by intro C; conv=>lhs; simp [hand])
      refine qA ?_
      exact ⟨(),trivial,qD (by first | (exfalso; omega) | (clear hm1 hand hK hn3; simp [qB, *])),rfl,by first | (exfalso; omega) | (clear hm1 hand hK hn3; simp [qB, *]),by first | (exfalso; omega) | (clear hm1 hand hK hn3; simp [qB, *])⟩
     intro h108
     try simp at h108
     refine AW.skip ?_
     exact ⟨(),trivial,qD (by first | (exfalso; omega) | (clear hm1 hand hK hn3; simp [qB, *])),rfl,by first | (exfalso; omega) | (clear hm1 hand hK hn3; simp [qB, *]),by first | (exfalso; omega) | (clear hm1 hand hK hn3; simp [qB, *])⟩
    intro h95
    try simp at h95
    refine rgz [] [[],[3,4,6,7,8,10,86,95]] ?_
    iterate 2 refine op1 tok ?_
    refine qA (cnd ?_ ?_)
    ·intro h95
     try simp at h95
     refine rgz [] [[]] ?_
     refine op1 tok ?_
     refine qA ?_
     exact ⟨(),trivial,qD (by first | (exfalso; omega) | (clear hm1 hand hK hn3; simp [qB, *])),rfl,by first | (exfalso; omega) | (clear hm1 hand hK hn3; simp [qB, *]),by first | (exfalso; omega) | (clear hm1 hand hK hn3; simp [qB, *])⟩
    intro h95
    try simp at h95
    refine AW.seq (rgn [] [[],[3,4,6,7,8,10,86,100]] ?_)
    iterate 2 refine op1 tok ?_
    refine qA (cnd ?_ ?_)
    ·intro h100
     try simp at h100
     refine AW.skip (cnd ?_ ?_)
     ·intro h100
      try simp at h100
      refine rgz [] [[]] ?_
      refine op1 tok ?_
      refine qA ?_
      exact ⟨(),trivial,qD (by first | (exfalso; omega) | (clear hm1 hand hK hn3; simp [qB, *])),rfl,by first | (exfalso; omega) | (clear hm1 hand hK hn3; simp [qB, *]),by first | (exfalso; omega) | (clear hm1 hand hK hn3; simp [qB, *])⟩
     intro h100
     try simp at h100
     refine rgn [] [[],[3,4,6,7,8,10,86,103]] ?_
     iterate 2 refine op1 tok ?_
     refine qA (cnd ?_ ?_)
     ·intro h103
      try simp at h103
      refine rgz [] [[],[],[],[3,4,6,7,8,10]] ?_
      iterate 4 refine op1 tok ?_
      refine qA ?_
      exact ⟨(),trivial,qD (by first | (exfalso; omega) | (clear hm1 hand hK hn3; simp [qB, *])),rfl,by first | (exfalso; omega) | (clear hm1 hand hK hn3; simp [qB, *]),by first | (exfalso; omega) | (clear hm1 hand hK hn3; simp [qB, *])⟩
     intro h103
     try simp at h103
     refine rgn [] [[],[3,4,6,7,8,10,108]] ?_
     iterate 2 refine op1 tok ?_
     refine qA (cnd ?_ ?_)
     ·intro h108
      try simp at h108
      refine rgz [] [[],[],[],[],[3,4,6,7,8,10]] ?_
      iterate 5 refine op1 tok ?_ (h:=by intro C; conv=>lhs; simp [hand])
      refine qA ?_
      exact ⟨(),trivial,qD (by first | (exfalso; omega) | (clear hm1 hand hK hn3; simp [qB, *])),rfl,by first | (exfalso; omega) | (clear hm1 hand hK hn3; simp [qB, *]),by first | (exfalso; omega) | (clear hm1 hand hK hn3; simp [qB, *])⟩
     intro h108
     try simp at h108
     refine AW.skip ?_
     exact ⟨(),trivial,qD (by first | (exfalso; omega) | (clear hm1 hand hK hn3; simp [qB, *])),rfl,by first | (exfalso; omega) | (clear hm1 hand hK hn3; simp [qB, *]),by first | (exfalso; omega) | (clear hm1 hand hK hn3; simp [qB, *])⟩
    intro h100
    try simp at h100
    refine rgz [] [[],[3,4,6,7,8,10,86,100]] ?_
    iterate 2 refine op1 tok ?_
    refine qA (cnd ?_ ?_)
    ·intro h100
     try simp at h100
     refine rgz [] [[]] ?_
     refine op1 tok ?_
     refine qA ?_
     exact ⟨(),trivial,qD (by first | (exfalso; omega) | (clear hm1 hand hK hn3; simp [qB, *])),rfl,by first | (exfalso; omega) | (clear hm1 hand hK hn3; simp [qB, *]),by first | (exfalso; omega) | (clear hm1 hand hK hn3; simp [qB, *])⟩
    intro h100
    try simp at h100
    refine rgn [] [[],[3,4,6,7,8,10,86,103]] ?_
    iterate 2 refine op1 tok ?_
    refine qA (cnd ?_ ?_)
    ·intro h103
     try simp at h103
     refine rgz [] [[],[],[],[3,4,6,7,8,10]] ?_
     iterate 4 refine op1 tok ?_
     refine qA ?_
     exact ⟨(),trivial,qD (by first | (exfalso; omega) | (clear hm1 hand hK hn3; simp [qB, *])),rfl,by first | (exfalso; omega) | (clear hm1 hand hK hn3; simp [qB, *]),by first | (exfalso; omega) | (clear hm1 hand hK hn3; simp [qB, *])⟩
    intro h103
    try simp at h103
    refine rgn [] [[],[3,4,6,7,8,10,108]] ?_
    iterate 2 refine op1 tok ?_
    refine qA (cnd ?_ ?_)
    ·intro h108
     try simp at h108
     refine rgz [] [[],[],[],[],[3,4,6,7,8,10]] ?_
     iterate 5 refine op1 tok ?_ (h:=by intro C; conv=>lhs; simp [hand])
     refine qA ?_
     exact ⟨(),trivial,qD (by first | (exfalso; omega) | (clear hm1 hand hK hn3; simp [qB, *])),rfl,by first | (exfalso; omega) | (clear hm1 hand hK hn3; simp [qB, *]),by first | (exfalso; omega) | (clear hm1 hand hK hn3; simp [qB, *])⟩
    intro h108
    try simp at h108
    refine AW.skip ?_
    exact ⟨(),trivial,qD (by first | (exfalso; omega) | (clear hm1 hand hK hn3; simp [qB, *])),rfl,by first | (exfalso; omega) | (clear hm1 hand hK hn3; simp [qB, *]),by first | (exfalso; omega) | (clear hm1 hand hK hn3; simp [qB, *])⟩
   intro h87
   try simp at h87
   refine rgn [] [[],[3,4,6,7,8,10,86,87]] ?_
   iterate 2 refine op1 tok ?_
   refine qA (cnd ?_ ?_)
   ·intro h87
    try simp at h87
    refine AW.skip (cnd ?_ ?_)
    ·intro h87
     try simp at h87
     refine rgz [] [[]] ?_
     refine op1 tok ?_
     refine qA ?_
     exact ⟨(),trivial,qD (by first | (exfalso; omega) | (clear hm1 hand hK hn3; simp [qB, *])),rfl,by first | (exfalso; omega) | (clear hm1 hand hK hn3; simp [qB, *]),by first | (exfalso; omega) | (clear hm1 hand hK hn3; simp [qB, *])⟩
    intro h87
    try simp at h87
    refine AW.seq (rgn [] [[],[3,4,6,7,8,10,86,95]] ?_)
    iterate 2 refine op1 tok ?_
    refine qA (cnd ?_ ?_)
    ·intro h95
     try simp at h95
     refine AW.skip (cnd ?_ ?_)
     ·intro h95
      try simp at h95
      refine rgz [] [[]] ?_
      refine op1 tok ?_
      refine qA ?_
      exact ⟨(),trivial,qD (by first | (exfalso; omega) | (clear hm1 hand hK hn3; simp [qB, *])),rfl,by first | (exfalso; omega) | (clear hm1 hand hK hn3; simp [qB, *]),by first | (exfalso; omega) | (clear hm1 hand hK hn3; simp [qB, *])⟩
     intro h95
     try simp at h95
     refine AW.seq (rgn [] [[],[3,4,6,7,8,10,86,100]] ?_)
     iterate 2 refine op1 tok ?_
     refine qA (cnd ?_ ?_)
     ·intro h100
      try simp at h100
      refine AW.skip (cnd ?_ ?_)
      ·intro h100
       try simp at h100
       refine rgz [] [[]] ?_
       refine op1 tok ?_
       refine qA ?_
       exact ⟨(),trivial,qD (by first | (exfalso; omega) | (clear hm1 hand hK hn3; simp [qB, *])),rfl,by first | (exfalso; omega) | (clear hm1 hand hK hn3; simp [qB, *]),by first | (exfalso; omega) | (clear hm1 hand hK hn3; simp [qB, *])⟩
      intro h100
      try simp at h100
      refine rgn [] [[],[3,4,6,7,8,10,86,103]] ?_
      iterate 2 refine op1 tok ?_
      refine qA (cnd ?_ ?_)
      ·intro h103
       try simp at h103
       refine rgz [] [[],[],[],[3,4,6,7,8,10]] ?_
       iterate 4 refine op1 tok ?_
       refine qA ?_
       exact ⟨(),trivial,qD (by first | (exfalso; omega) | (clear hm1 hand hK hn3; simp [qB, *])),rfl,by first | (exfalso; omega) | (clear hm1 hand hK hn3; simp [qB, *]),by first | (exfalso; omega) | (clear hm1 hand hK hn3; simp [qB, *])⟩
      intro h103
      try simp at h103
      refine rgn [] [[],[3,4,6,7,8,10,108]] ?_
      iterate 2 refine op1 tok ?_
      refine qA (cnd ?_ ?_)
      ·intro h108
       try simp at h108
       refine rgz [] [[],[],[],[],[3,4,6,7,8,10]] ?_
       iterate 5 refine op1 tok ?_ (h:=by intro C; conv=>lhs; simp [hand])
       refine qA ?_
       exact ⟨(),trivial,qD (by first | (exfalso; omega) | (clear hm1 hand hK hn3; simp [qB, *])),rfl,by first | (exfalso; omega) | (clear hm1 hand hK hn3; simp [qB, *]),by first | (exfalso; omega) | (clear hm1 hand hK hn3; simp [qB, *])⟩
      intro h108
      try simp at h108
      refine AW.skip ?_
      exact ⟨(),trivial,qD (by first | (exfalso; omega) | (clear hm1 hand hK hn3; simp [qB, *])),rfl,by first | (exfalso; omega) | (clear hm1 hand hK hn3; simp [qB, *]),by first | (exfalso; omega) | (clear hm1 hand hK hn3; simp [qB, *])⟩
     intro h100
     try simp at h100
     refine rgz [] [[],[3,4,6,7,8,10,86,100]] ?_
     iterate 2 refine op1 tok ?_
     refine qA (cnd ?_ ?_)
     ·intro h100
      try simp at h100
      refine rgz [] [[]] ?_
      refine op1 tok ?_
      refine qA ?_
      exact ⟨(),trivial,qD (by first | (exfalso; omega) | (clear hm1 hand hK hn3; simp [qB, *])),rfl,by first | (exfalso; omega) | (clear hm1 hand hK hn3; simp [qB, *]),by first | (exfalso; omega) | (clear hm1 hand hK hn3; simp [qB, *])⟩
     intro h100
     try simp at h100
     refine rgn [] [[],[3,4,6,7,8,10,86,103]] ?_
     iterate 2 refine op1 tok ?_
     refine qA (cnd ?_ ?_)
     ·intro h103
      try simp at h103
      refine rgz [] [[],[],[],[3,4,6,7,8,10]] ?_
      iterate 4 refine op1 tok ?_
      refine qA ?_
      exact ⟨(),trivial,qD (by first | (exfalso; omega) | (clear hm1 hand hK hn3; simp [qB, *])),rfl,by first | (exfalso; omega) | (clear hm1 hand hK hn3; simp [qB, *]),by first | (exfalso; omega) | (clear hm1 hand hK hn3; simp [qB, *])⟩
     intro h103
     try simp at h103
     refine rgn [] [[],[3,4,6,7,8,10,108]] ?_
     iterate 2 refine op1 tok ?_
     refine qA (cnd ?_ ?_)
     ·intro h108
      try simp at h108
      refine rgz [] [[],[],[],[],[3,4,6,7,8,10]] ?_
      iterate 5 refine op1 tok ?_ (h:=by intro C; conv=>lhs; simp [hand])
      refine qA ?_
      exact ⟨(),trivial,qD (by first | (exfalso; omega) | (clear hm1 hand hK hn3; simp [qB, *])),rfl,by first | (exfalso; omega) | (clear hm1 hand hK hn3; simp [qB, *]),by first | (exfalso; omega) | (clear hm1 hand hK hn3; simp [qB, *])⟩
     intro h108
     try simp at h108
     refine AW.skip ?_
     exact ⟨(),trivial,qD (by first | (exfalso; omega) | (clear hm1 hand hK hn3; simp [qB, *])),rfl,by first | (exfalso; omega) | (clear hm1 hand hK hn3; simp [qB, *]),by first | (exfalso; omega) | (clear hm1 hand hK hn3; simp [qB, *])⟩
    intro h95
    try simp at h95
    refine rgn [] [[],[3,4,6,7,8,10,86,95]] ?_
    iterate 2 refine op1 tok ?_
    refine qA (cnd ?_ ?_)
    ·intro h95
     try simp at h95
     refine AW.skip (cnd ?_ ?_)
     ·intro h95
      try simp at h95
      refine rgz [] [[]] ?_
      refine op1 tok ?_
      refine qA ?_
      exact ⟨(),trivial,qD (by first | (exfalso; omega) | (clear hm1 hand hK hn3; simp [qB, *])),rfl,by first | (exfalso; omega) | (clear hm1 hand hK hn3; simp [qB, *]),by first | (exfalso; omega) | (clear hm1 hand hK hn3; simp [qB, *])⟩
     intro h95
     try simp at h95
     refine AW.seq (rgn [] [[],[3,4,6,7,8,10,86,100]] ?_)
     iterate 2 refine op1 tok ?_
     refine qA (cnd ?_ ?_)
     ·intro h100
      try simp at h100
      refine AW.skip (cnd ?_ ?_)
      ·intro h100
       try simp at h100
       refine rgz [] [[]] ?_
       refine op1 tok ?_
       refine qA ?_
       exact ⟨(),trivial,qD (by first | (exfalso; omega) | (clear hm1 hand hK hn3; simp [qB, *])),rfl,by first | (exfalso; omega) | (clear hm1 hand hK hn3; simp [qB, *]),by first | (exfalso; omega) | (clear hm1 hand hK hn3; simp [qB, *])⟩
      intro h100
      try simp at h100
      refine rgn [] [[],[3,4,6,7,8,10,86,103]] ?_
      iterate 2 refine op1 tok ?_
      refine qA (cnd ?_ ?_)
      ·intro h103
       try simp at h103
       refine rgz [] [[],[],[],[3,4,6,7,8,10]] ?_
       iterate 4 refine op1 tok ?_
       refine qA ?_
       exact ⟨(),trivial,qD (by first | (exfalso; omega) | (clear hm1 hand hK hn3; simp [qB, *])),rfl,by first | (exfalso; omega) | (clear hm1 hand hK hn3; simp [qB, *]),by first | (exfalso; omega) | (clear hm1 hand hK hn3; simp [qB, *])⟩
      intro h103
      try simp at h103
      refine rgn [] [[],[3,4,6,7,8,10,108]] ?_
      iterate 2 refine op1 tok ?_
      refine qA (cnd ?_ ?_)
      ·intro h108
       try simp at h108
       refine rgz [] [[],[],[],[],[3,4,6,7,8,10]] ?_
       iterate 5 refine op1 tok ?_ (h:=by intro C; conv=>lhs; simp [hand])
       refine qA ?_
       exact ⟨(),trivial,qD (by first | (exfalso; omega) | (clear hm1 hand hK hn3; simp [qB, *])),rfl,by first | (exfalso; omega) | (clear hm1 hand hK hn3; simp [qB, *]),by first | (exfalso; omega) | (clear hm1 hand hK hn3; simp [qB, *])⟩
      intro h108
      try simp at h108
      refine AW.skip ?_
      exact ⟨(),trivial,qD (by first | (exfalso; omega) | (clear hm1 hand hK hn3; simp [qB, *])),rfl,by first | (exfalso; omega) | (clear hm1 hand hK hn3; simp [qB, *]),by first | (exfalso; omega) | (clear hm1 hand hK hn3; simp [qB, *])⟩
     intro h100
     try simp at h100
     refine rgz [] [[],[3,4,6,7,8,10,86,100]] ?_
     iterate 2 refine op1 tok ?_
     refine qA (cnd ?_ ?_)
     ·intro h100
      try simp at h100
      refine rgz [] [[]] ?_
      refine op1 tok ?_
      refine qA ?_
      exact ⟨(),trivial,qD (by first | (exfalso; omega) | (clear hm1 hand hK hn3; simp [qB, *])),rfl,by first | (exfalso; omega) | (clear hm1 hand hK hn3; simp [qB, *]),by first | (exfalso; omega) | (clear hm1 hand hK hn3; simp [qB, *])⟩
     intro h100
     try simp at h100
     refine rgn [] [[],[3,4,6,7,8,10,86,103]] ?_
     iterate 2 refine op1 tok ?_
     refine qA (cnd ?_ ?_)
     ·intro h103
      try simp at h103
      refine rgz [] [[],[],[],[3,4,6,7,8,10]] ?_
      iterate 4 refine op1 tok ?_
      refine qA ?_
      exact ⟨(),trivial,qD (by first | (exfalso; omega) | (clear hm1 hand hK hn3; simp [qB, *])),rfl,by first | (exfalso; omega) | (clear hm1 hand hK hn3; simp [qB, *]),by first | (exfalso; omega) | (clear hm1 hand hK hn3; simp [qB, *])⟩
     intro h103
     try simp at h103
     refine rgn [] [[],[3,4,6,7,8,10,108]] ?_
     iterate 2 refine op1 tok ?_
     refine qA (cnd ?_ ?_)
     ·intro h108
      try simp at h108
      refine rgz [] [[],[],[],[],[3,4,6,7,8,10]] ?_
      iterate 5 refine op1 tok ?_ (h:=by intro C; conv=>lhs; simp [hand])
      refine qA ?_
      exact ⟨(),trivial,qD (by first | (exfalso; omega) | (clear hm1 hand hK hn3; simp [qB, *])),rfl,by first | (exfalso; omega) | (clear hm1 hand hK hn3; simp [qB, *]),by first | (exfalso; omega) | (clear hm1 hand hK hn3; simp [qB, *])⟩
     intro h108
     try simp at h108
     refine AW.skip ?_
     exact ⟨(),trivial,qD (by first | (exfalso; omega) | (clear hm1 hand hK hn3; simp [qB, *])),rfl,by first | (exfalso; omega) | (clear hm1 hand hK hn3; simp [qB, *]),by first | (exfalso; omega) | (clear hm1 hand hK hn3; simp [qB, *])⟩
    intro h95
    try simp at h95
    refine rgn [] [[],[3,4,6,7,8,10,86,95]] ?_
    iterate 2 refine op1 tok ?_
    refine qA (cnd ?_ ?_)
    ·intro h95
     try simp at h95
     refine AW.skip (cnd ?_ ?_)
     ·intro h95
      try simp at h95
      refine rgz [] [[]] ?_
      refine op1 tok ?_
      refine qA ?_
      exact ⟨(),trivial,qD (by first | (exfalso; omega) | (clear hm1 hand hK hn3; simp [qB, *])),rfl,by first | (exfalso; omega) | (clear hm1 hand hK hn3; simp [qB, *]),by first | (exfalso; omega) | (clear hm1 hand hK hn3; simp [qB, *])⟩
     intro h95
     try simp at h95
     refine AW.seq (rgn [] [[],[3,4,6,7,8,10,86,100]] ?_)
     iterate 2 refine op1 tok ?_
     refine qA (cnd ?_ ?_)
     ·intro h100
      try simp at h100
      refine AW.skip (cnd ?_ ?_)
      ·intro h100
       try simp at h100
       refine rgz [] [[]] ?_
       refine op1 tok ?_
       refine qA ?_
       exact ⟨(),trivial,qD (by first | (exfalso; omega) | (clear hm1 hand hK hn3; simp [qB, *])),rfl,by first | (exfalso; omega) | (clear hm1 hand hK hn3; simp [qB, *]),by first | (exfalso; omega) | (clear hm1 hand hK hn3; simp [qB, *])⟩
      intro h100
      try simp at h100
      refine rgn [] [[],[3,4,6,7,8,10,86,103]] ?_
      iterate 2 refine op1 tok ?_
      refine qA (cnd ?_ ?_)
      ·intro h103
       try simp at h103
       refine rgz [] [[],[],[],[3,4,6,7,8,10]] ?_
       iterate 4 refine op1 tok ?_
       refine qA ?_
       exact ⟨(),trivial,qD (by first | (exfalso; omega) | (clear hm1 hand hK hn3; simp [qB, *])),rfl,by first | (exfalso; omega) | (clear hm1 hand hK hn3; simp [qB, *]),by first | (exfalso; omega) | (clear hm1 hand hK hn3; simp [qB, *])⟩
      intro h103
      try simp at h103
      refine rgn [] [[],[3,4,6,7,8,10,108]] ?_
      iterate 2 refine op1 tok ?_
      refine qA (cnd ?_ ?_)
      ·intro h108
       try simp at h108
       refine rgz [] [[],[],[],[],[3,4,6,7,8,10]] ?_
       iterate 5 refine op1 tok ?_ (h:=by intro C; conv=>lhs; simp [hand])
       refine qA ?_
       exact ⟨(),trivial,qD (by first | (exfalso; omega) | (clear hm1 hand hK hn3; simp [qB, *])),rfl,by first | (exfalso; omega) | (clear hm1 hand hK hn3; simp [qB, *]),by first | (exfalso; omega) | (clear hm1 hand hK hn3; simp [qB, *])⟩
      intro h108
      try simp at h108
      refine AW.skip ?_
      exact ⟨(),trivial,qD (by first | (exfalso; omega) | (clear hm1 hand hK hn3; simp [qB, *])),rfl,by first | (exfalso; omega) | (clear hm1 hand hK hn3; simp [qB, *]),by first | (exfalso; omega) | (clear hm1 hand hK hn3; simp [qB, *])⟩
     intro h100
     try simp at h100
     refine rgz [] [[],[3,4,6,7,8,10,86,100]] ?_
     iterate 2 refine op1 tok ?_
     refine qA (cnd ?_ ?_)
     ·intro h100
      try simp at h100
      refine rgz [] [[]] ?_
      refine op1 tok ?_
      refine qA ?_
      exact ⟨(),trivial,qD (by first | (exfalso; omega) | (clear hm1 hand hK hn3; simp [qB, *])),rfl,by first | (exfalso; omega) | (clear hm1 hand hK hn3; simp [qB, *]),by first | (exfalso; omega) | (clear hm1 hand hK hn3; simp [qB, *])⟩
     intro h100
     try simp at h100
     refine rgn [] [[],[3,4,6,7,8,10,86,103]] ?_
     iterate 2 refine op1 tok ?_
     refine qA (cnd ?_ ?_)
     ·intro h103
      try simp at h103
      refine rgz [] [[],[],[],[3,4,6,7,8,10]] ?_
      iterate 4 refine op1 tok ?_
      refine qA ?_
      exact ⟨(),trivial,qD (by first | (exfalso; omega) | (clear hm1 hand hK hn3; simp [qB, *])),rfl,by first | (exfalso; omega) | (clear hm1 hand hK hn3; simp [qB, *]),by first | (exfalso; omega) | (clear hm1 hand hK hn3; simp [qB, *])⟩
     intro h103
     try simp at h103
     refine rgn [] [[],[3,4,6,7,8,10,108]] ?_
     iterate 2 refine op1 tok ?_
     refine qA (cnd ?_ ?_)
     ·intro h108
      try simp at h108
      refine rgz [] [[],[],[],[],[3,4,6,7,8,10]] ?_
      iterate 5 refine op1 tok ?_ (h:=by intro C; conv=>lhs; simp [hand])
      refine qA ?_
      exact ⟨(),trivial,qD (by first | (exfalso; omega) | (clear hm1 hand hK hn3; simp [qB, *])),rfl,by first | (exfalso; omega) | (clear hm1 hand hK hn3; simp [qB, *]),by first | (exfalso; omega) | (clear hm1 hand hK hn3; simp [qB, *])⟩
     intro h108
     try simp at h108
     refine AW.skip ?_
     exact ⟨(),trivial,qD (by first | (exfalso; omega) | (clear hm1 hand hK hn3; simp [qB, *])),rfl,by first | (exfalso; omega) | (clear hm1 hand hK hn3; simp [qB, *]),by first | (exfalso; omega) | (clear hm1 hand hK hn3; simp [qB, *])⟩
    intro h95
    try simp at h95
    refine rgz [] [[],[3,4,6,7,8,10,86,95]] ?_
    iterate 2 refine op1 tok ?_
    refine qA (cnd ?_ ?_)
    ·intro h95
     try simp at h95
     refine rgz [] [[]] ?_
     refine op1 tok ?_
     refine qA ?_
     exact ⟨(),trivial,qD (by first | (exfalso; omega) | (clear hm1 hand hK hn3; simp [qB, *])),rfl,by first | (exfalso; omega) | (clear hm1 hand hK hn3; simp [qB, *]),by first | (exfalso; omega) | (clear hm1 hand hK hn3; simp [qB, *])⟩
    intro h95
    try simp at h95
    refine AW.seq (rgn [] [[],[3,4,6,7,8,10,86,100]] ?_)
    iterate 2 refine op1 tok ?_
    refine qA (cnd ?_ ?_)
    ·intro h100
     try simp at h100
     refine AW.skip (cnd ?_ ?_)
     ·intro h100
      try simp at h100
      refine rgz [] [[]] ?_
      refine op1 tok ?_
      refine qA ?_
      exact ⟨(),trivial,qD (by first | (exfalso; omega) | (clear hm1 hand hK hn3; simp [qB, *])),rfl,by first | (exfalso; omega) | (clear hm1 hand hK hn3; simp [qB, *]),by first | (exfalso; omega) | (clear hm1 hand hK hn3; simp [qB, *])⟩
     intro h100
     try simp at h100
     refine rgn [] [[],[3,4,6,7,8,10,86,103]] ?_
     iterate 2 refine op1 tok ?_
     refine qA (cnd ?_ ?_)
     ·intro h103
      try simp at h103
      refine rgz [] [[],[],[],[3,4,6,7,8,10]] ?_
      iterate 4 refine op1 tok ?_
      refine qA ?_
      exact ⟨(),trivial,qD (by first | (exfalso; omega) | (clear hm1 hand hK hn3; simp [qB, *])),rfl,by first | (exfalso; omega) | (clear hm1 hand hK hn3; simp [qB, *]),by first | (exfalso; omega) | (clear hm1 hand hK hn3; simp [qB, *])⟩
     intro h103
     try simp at h103
     refine rgn [] [[],[3,4,6,7,8,10,108]] ?_
     iterate 2 refine op1 tok ?_
     refine qA (cnd ?_ ?_)
     ·intro h108
      try simp at h108
      refine rgz [] [[],[],[],[],[3,4,6,7,8,10]] ?_
      iterate 5 refine op1 tok ?_ (h:=by intro C; conv=>lhs; simp [hand])
      refine qA ?_
      exact ⟨(),trivial,qD (by first | (exfalso; omega) | (clear hm1 hand hK hn3; simp [qB, *])),rfl,by first | (exfalso; omega) | (clear hm1 hand hK hn3; simp [qB, *]),by first | (exfalso; omega) | (clear hm1 hand hK hn3; simp [qB, *])⟩
     intro h108
     try simp at h108
     refine AW.skip ?_
     exact ⟨(),trivial,qD (by first | (exfalso; omega) | (clear hm1 hand hK hn3; simp [qB, *])),rfl,by first | (exfalso; omega) | (clear hm1 hand hK hn3; simp [qB, *]),by first | (exfalso; omega) | (clear hm1 hand hK hn3; simp [qB, *])⟩
    intro h100
    try simp at h100
    refine rgz [] [[],[3,4,6,7,8,10,86,100]] ?_
    iterate 2 refine op1 tok ?_
    refine qA (cnd ?_ ?_)
    ·intro h100
     try simp at h100
     refine rgz [] [[]] ?_
     refine op1 tok ?_
     refine qA ?_
     exact ⟨(),trivial,qD (by first | (exfalso; omega) | (clear hm1 hand hK hn3; simp [qB, *])),rfl,by first | (exfalso; omega) | (clear hm1 hand hK hn3; simp [qB, *]),by first | (exfalso; omega) | (clear hm1 hand hK hn3; simp [qB, *])⟩
    intro h100
    try simp at h100
    refine rgn [] [[],[3,4,6,7,8,10,86,103]] ?_
    iterate 2 refine op1 tok ?_
    refine qA (cnd ?_ ?_)
    ·intro h103
     try simp at h103
     refine rgz [] [[],[],[],[3,4,6,7,8,10]] ?_
     iterate 4 refine op1 tok ?_
     refine qA ?_
     exact ⟨(),trivial,qD (by first | (exfalso; omega) | (clear hm1 hand hK hn3; simp [qB, *])),rfl,by first | (exfalso; omega) | (clear hm1 hand hK hn3; simp [qB, *]),by first | (exfalso; omega) | (clear hm1 hand hK hn3; simp [qB, *])⟩
    intro h103
    try simp at h103
    refine rgn [] [[],[3,4,6,7,8,10,108]] ?_
    iterate 2 refine op1 tok ?_
    refine qA (cnd ?_ ?_)
    ·intro h108
     try simp at h108
     refine rgz [] [[],[],[],[],[3,4,6,7,8,10]] ?_
     iterate 5 refine op1 tok ?_ (h:=by intro C; conv=>lhs; simp [hand])
     refine qA ?_
     exact ⟨(),trivial,qD (by first | (exfalso; omega) | (clear hm1 hand hK hn3; simp [qB, *])),rfl,by first | (exfalso; omega) | (clear hm1 hand hK hn3; simp [qB, *]),by first | (exfalso; omega) | (clear hm1 hand hK hn3; simp [qB, *])⟩
    intro h108
    try simp at h108
    refine AW.skip ?_
    exact ⟨(),trivial,qD (by first | (exfalso; omega) | (clear hm1 hand hK hn3; simp [qB, *])),rfl,by first | (exfalso; omega) | (clear hm1 hand hK hn3; simp [qB, *]),by first | (exfalso; omega) | (clear hm1 hand hK hn3; simp [qB, *])⟩
   intro h87
   try simp at h87
   refine rgn [] [[],[3,4,6,7,8,10,86,87]] ?_
   iterate 2 refine op1 tok ?_
   refine qA (cnd ?_ ?_)
   ·intro h87
    try simp at h87
    refine AW.skip (cnd ?_ ?_)
    ·intro h87
     try simp at h87
     refine rgz [] [[]] ?_
     refine op1 tok ?_
     refine qA ?_
     exact ⟨(),trivial,qD (by first | (exfalso; omega) | (clear hm1 hand hK hn3; simp [qB, *])),rfl,by first | (exfalso; omega) | (clear hm1 hand hK hn3; simp [qB, *]),by first | (exfalso; omega) | (clear hm1 hand hK hn3; simp [qB, *])⟩
    intro h87
    try simp at h87
    refine AW.seq (rgn [] [[],[3,4,6,7,8,10,86,95]] ?_)
    iterate 2 refine op1 tok ?_
    refine qA (cnd ?_ ?_)
    ·intro h95
     try simp at h95
     refine AW.skip (cnd ?_ ?_)
     ·intro h95
      try simp at h95
      refine rgz [] [[]] ?_
      refine op1 tok ?_
      refine qA ?_
      exact ⟨(),trivial,qD (by first | (exfalso; omega) | (clear hm1 hand hK hn3; simp [qB, *])),rfl,by first | (exfalso; omega) | (clear hm1 hand hK hn3; simp [qB, *]),by first | (exfalso; omega) | (clear hm1 hand hK hn3; simp [qB, *])⟩
     intro h95
     try simp at h95
     refine AW.seq (rgn [] [[],[3,4,6,7,8,10,86,100]] ?_)
     iterate 2 refine op1 tok ?_
     refine qA (cnd ?_ ?_)
     ·intro h100
      try simp at h100
      refine AW.skip (cnd ?_ ?_)
      ·intro h100
       try simp at h100
       refine rgz [] [[]] ?_
       refine op1 tok ?_
       refine qA ?_
       exact ⟨(),trivial,qD (by first | (exfalso; omega) | (clear hm1 hand hK hn3; simp [qB, *])),rfl,by first | (exfalso; omega) | (clear hm1 hand hK hn3; simp [qB, *]),by first | (exfalso; omega) | (clear hm1 hand hK hn3; simp [qB, *])⟩
      intro h100
      try simp at h100
      refine rgn [] [[],[3,4,6,7,8,10,86,103]] ?_
      iterate 2 refine op1 tok ?_
      refine qA (cnd ?_ ?_)
      ·intro h103
       try simp at h103
       refine rgz [] [[],[],[],[3,4,6,7,8,10]] ?_
       iterate 4 refine op1 tok ?_
       refine qA ?_
       exact ⟨(),trivial,qD (by first | (exfalso; omega) | (clear hm1 hand hK hn3; simp [qB, *])),rfl,by first | (exfalso; omega) | (clear hm1 hand hK hn3; simp [qB, *]),by first | (exfalso; omega) | (clear hm1 hand hK hn3; simp [qB, *])⟩
      intro h103
      try simp at h103
      refine rgn [] [[],[3,4,6,7,8,10,108]] ?_
      iterate 2 refine op1 tok ?_
      refine qA (cnd ?_ ?_)
      ·intro h108
       try simp at h108
       refine rgz [] [[],[],[],[],[3,4,6,7,8,10]] ?_
       iterate 5 refine op1 tok ?_ (h:=by intro C; conv=>lhs; simp [hand])
       refine qA ?_
       exact ⟨(),trivial,qD (by first | (exfalso; omega) | (clear hm1 hand hK hn3; simp [qB, *])),rfl,by first | (exfalso; omega) | (clear hm1 hand hK hn3; simp [qB, *]),by first | (exfalso; omega) | (clear hm1 hand hK hn3; simp [qB, *])⟩
      intro h108
      try simp at h108
      refine AW.skip ?_
      exact ⟨(),trivial,qD (by first | (exfalso; omega) | (clear hm1 hand hK hn3; simp [qB, *])),rfl,by first | (exfalso; omega) | (clear hm1 hand hK hn3; simp [qB, *]),by first | (exfalso; omega) | (clear hm1 hand hK hn3; simp [qB, *])⟩
     intro h100
     try simp at h100
     refine rgz [] [[],[3,4,6,7,8,10,86,100]] ?_
     iterate 2 refine op1 tok ?_
     refine qA (cnd ?_ ?_)
     ·intro h100
      try simp at h100
      refine rgz [] [[]] ?_
      refine op1 tok ?_
      refine qA ?_
      exact ⟨(),trivial,qD (by first | (exfalso; omega) | (clear hm1 hand hK hn3; simp [qB, *])),rfl,by first | (exfalso; omega) | (clear hm1 hand hK hn3; simp [qB, *]),by first | (exfalso; omega) | (clear hm1 hand hK hn3; simp [qB, *])⟩
     intro h100
     try simp at h100
     refine rgn [] [[],[3,4,6,7,8,10,86,103]] ?_
     iterate 2 refine op1 tok ?_
     refine qA (cnd ?_ ?_)
     ·intro h103
      try simp at h103
      refine rgz [] [[],[],[],[3,4,6,7,8,10]] ?_
      iterate 4 refine op1 tok ?_
      refine qA ?_
      exact ⟨(),trivial,qD (by first | (exfalso; omega) | (clear hm1 hand hK hn3; simp [qB, *])),rfl,by first | (exfalso; omega) | (clear hm1 hand hK hn3; simp [qB, *]),by first | (exfalso; omega) | (clear hm1 hand hK hn3; simp [qB, *])⟩
     intro h103
     try simp at h103
     refine rgn [] [[],[3,4,6,7,8,10,108]] ?_
     iterate 2 refine op1 tok ?_
     refine qA (cnd ?_ ?_)
     ·intro h108
      try simp at h108
      refine rgz [] [[],[],[],[],[3,4,6,7,8,10]] ?_
      iterate 5 refine op1 tok ?_ (h:=by intro C; conv=>lhs; simp [hand])
      refine qA ?_
      exact ⟨(),trivial,qD (by first | (exfalso; omega) | (clear hm1 hand hK hn3; simp [qB, *])),rfl,by first | (exfalso; omega) | (clear hm1 hand hK hn3; simp [qB, *]),by first | (exfalso; omega) | (clear hm1 hand hK hn3; simp [qB, *])⟩
     intro h108
     try simp at h108
     refine AW.skip ?_
     exact ⟨(),trivial,qD (by first | (exfalso; omega) | (clear hm1 hand hK hn3; simp [qB, *])),rfl,by first | (exfalso; omega) | (clear hm1 hand hK hn3; simp [qB, *]),by first | (exfalso; omega) | (clear hm1 hand hK hn3; simp [qB, *])⟩
    intro h95
    try simp at h95
    refine rgn [] [[],[3,4,6,7,8,10,86,95]] ?_
    iterate 2 refine op1 tok ?_
    refine qA (cnd ?_ ?_)
    ·intro h95
     try simp at h95
     refine AW.skip (cnd ?_ ?_)
     ·intro h95
      try simp at h95
      refine rgz [] [[]] ?_
      refine op1 tok ?_
      refine qA ?_
      exact ⟨(),trivial,qD (by first | (exfalso; omega) | (clear hm1 hand hK hn3; simp [qB, *])),rfl,by first | (exfalso; omega) | (clear hm1 hand hK hn3; simp [qB, *]),by first | (exfalso; omega) | (clear hm1 hand hK hn3; simp [qB, *])⟩
     intro h95
     try simp at h95
     refine AW.seq (rgn [] [[],[3,4,6,7,8,10,86,100]] ?_)
     iterate 2 refine op1 tok ?_
     refine qA (cnd ?_ ?_)
     ·intro h100
      try simp at h100
      refine AW.skip (cnd ?_ ?_)
      ·intro h100
       try simp at h100
       refine rgz [] [[]] ?_
       refine op1 tok ?_
       refine qA ?_
       exact ⟨(),trivial,qD (by first | (exfalso; omega) | (clear hm1 hand hK hn3; simp [qB, *])),rfl,by first | (exfalso; omega) | (clear hm1 hand hK hn3; simp [qB, *]),by first | (exfalso; omega) | (clear hm1 hand hK hn3; simp [qB, *])⟩
      intro h100
      try simp at h100
      refine rgn [] [[],[3,4,6,7,8,10,86,103]] ?_
      iterate 2 refine op1 tok ?_
      refine qA (cnd ?_ ?_)
      ·intro h103
       try simp at h103
       refine rgz [] [[],[],[],[3,4,6,7,8,10]] ?_
       iterate 4 refine op1 tok ?_
       refine qA ?_
       exact ⟨(),trivial,qD (by first | (exfalso; omega) | (clear hm1 hand hK hn3; simp [qB, *])),rfl,by first | (exfalso; omega) | (clear hm1 hand hK hn3; simp [qB, *]),by first | (exfalso; omega) | (clear hm1 hand hK hn3; simp [qB, *])⟩
      intro h103
      try simp at h103
      refine rgn [] [[],[3,4,6,7,8,10,108]] ?_
      iterate 2 refine op1 tok ?_
      refine qA (cnd ?_ ?_)
      ·intro h108
       try simp at h108
       refine rgz [] [[],[],[],[],[3,4,6,7,8,10]] ?_
       iterate 5 refine op1 tok ?_ (h:=by intro C; conv=>lhs; simp [hand])
       refine qA ?_
       exact ⟨(),trivial,qD (by first | (exfalso; omega) | (clear hm1 hand hK hn3; simp [qB, *])),rfl,by first | (exfalso; omega) | (clear hm1 hand hK hn3; simp [qB, *]),by first | (exfalso; omega) | (clear hm1 hand hK hn3; simp [qB, *])⟩
      intro h108
      try simp at h108
      refine AW.skip ?_
      exact ⟨(),trivial,qD (by first | (exfalso; omega) | (clear hm1 hand hK hn3; simp [qB, *])),rfl,by first | (exfalso; omega) | (clear hm1 hand hK hn3; simp [qB, *]),by first | (exfalso; omega) | (clear hm1 hand hK hn3; simp [qB, *])⟩
     intro h100
     try simp at h100
     refine rgz [] [[],[3,4,6,7,8,10,86,100]] ?_
     iterate 2 refine op1 tok ?_
     refine qA (cnd ?_ ?_)
     ·intro h100
      try simp at h100
      refine rgz [] [[]] ?_
      refine op1 tok ?_
      refine qA ?_
      exact ⟨(),trivial,qD (by first | (exfalso; omega) | (clear hm1 hand hK hn3; simp [qB, *])),rfl,by first | (exfalso; omega) | (clear hm1 hand hK hn3; simp [qB, *]),by first | (exfalso; omega) | (clear hm1 hand hK hn3; simp [qB, *])⟩
     intro h100
     try simp at h100
     refine rgn [] [[],[3,4,6,7,8,10,86,103]] ?_
     iterate 2 refine op1 tok ?_
     refine qA (cnd ?_ ?_)
     ·intro h103
      try simp at h103
      refine rgz [] [[],[],[],[3,4,6,7,8,10]] ?_
      iterate 4 refine op1 tok ?_
      refine qA ?_
      exact ⟨(),trivial,qD (by first | (exfalso; omega) | (clear hm1 hand hK hn3; simp [qB, *])),rfl,by first | (exfalso; omega) | (clear hm1 hand hK hn3; simp [qB, *]),by first | (exfalso; omega) | (clear hm1 hand hK hn3; simp [qB, *])⟩
     intro h103
     try simp at h103
     refine rgn [] [[],[3,4,6,7,8,10,108]] ?_
     iterate 2 refine op1 tok ?_
     refine qA (cnd ?_ ?_)
     ·intro h108
      try simp at h108
      refine rgz [] [[],[],[],[],[3,4,6,7,8,10]] ?_
      iterate 5 refine op1 tok ?_ (h:=by intro C; conv=>lhs; simp [hand])
      refine qA ?_
      exact ⟨(),trivial,qD (by first | (exfalso; omega) | (clear hm1 hand hK hn3; simp [qB, *])),rfl,by first | (exfalso; omega) | (clear hm1 hand hK hn3; simp [qB, *]),by first | (exfalso; omega) | (clear hm1 hand hK hn3; simp [qB, *])⟩
     intro h108
     try simp at h108
     refine AW.skip ?_
     exact ⟨(),trivial,qD (by first | (exfalso; omega) | (clear hm1 hand hK hn3; simp [qB, *])),rfl,by first | (exfalso; omega) | (clear hm1 hand hK hn3; simp [qB, *]),by first | (exfalso; omega) | (clear hm1 hand hK hn3; simp [qB, *])⟩
    intro h95
    try simp at h95
    refine rgn [] [[],[3,4,6,7,8,10,86,95]] ?_
    iterate 2 refine op1 tok ?_
    refine qA (cnd ?_ ?_)
    ·intro h95
     try simp at h95
     refine AW.skip (cnd ?_ ?_)
     ·intro h95
      try simp at h95
      refine rgz [] [[]] ?_
      refine op1 tok ?_
      refine qA ?_
      exact ⟨(),trivial,qD (by first | (exfalso; omega) | (clear hm1 hand hK hn3; simp [qB, *])),rfl,by first | (exfalso; omega) | (clear hm1 hand hK hn3; simp [qB, *]),by first | (exfalso; omega) | (clear hm1 hand hK hn3; simp [qB, *])⟩
     intro h95
     try simp at h95
     refine AW.seq (rgn [] [[],[3,4,6,7,8,10,86,100]] ?_)
     iterate 2 refine op1 tok ?_
     refine qA (cnd ?_ ?_)
     ·intro h100
      try simp at h100
      refine AW.skip (cnd ?_ ?_)
      ·intro h100
       try simp at h100
       refine rgz [] [[]] ?_
       refine op1 tok ?_
       refine qA ?_
       exact ⟨(),trivial,qD (by first | (exfalso; omega) | (clear hm1 hand hK hn3; simp [qB, *])),rfl,by first | (exfalso; omega) | (clear hm1 hand hK hn3; simp [qB, *]),by first | (exfalso; omega) | (clear hm1 hand hK hn3; simp [qB, *])⟩
      intro h100
      try simp at h100
      refine rgn [] [[],[3,4,6,7,8,10,86,103]] ?_
      iterate 2 refine op1 tok ?_
      refine qA (cnd ?_ ?_)
      ·intro h103
       try simp at h103
       refine rgz [] [[],[],[],[3,4,6,7,8,10]] ?_
       iterate 4 refine op1 tok ?_
       refine qA ?_
       exact ⟨(),trivial,qD (by first | (exfalso; omega) | (clear hm1 hand hK hn3; simp [qB, *])),rfl,by first | (exfalso; omega) | (clear hm1 hand hK hn3; simp [qB, *]),by first | (exfalso; omega) | (clear hm1 hand hK hn3; simp [qB, *])⟩
      intro h103
      try simp at h103
      refine rgn [] [[],[3,4,6,7,8,10,108]] ?_
      iterate 2 refine op1 tok ?_
      refine qA (cnd ?_ ?_)
      ·intro h108
       try simp at h108
       refine rgz [] [[],[],[],[],[3,4,6,7,8,10]] ?_
       iterate 5 refine op1 tok ?_ (h:=by intro C; conv=>lhs; simp [hand])
       refine qA ?_
       exact ⟨(),trivial,qD (by first | (exfalso; omega) | (clear hm1 hand hK hn3; simp [qB, *])),rfl,by first | (exfalso; omega) | (clear hm1 hand hK hn3; simp [qB, *]),by first | (exfalso; omega) | (clear hm1 hand hK hn3; simp [qB, *])⟩
      intro h108
      try simp at h108
      refine AW.skip ?_
      exact ⟨(),trivial,qD (by first | (exfalso; omega) | (clear hm1 hand hK hn3; simp [qB, *])),rfl,by first | (exfalso; omega) | (clear hm1 hand hK hn3; simp [qB, *]),by first | (exfalso; omega) | (clear hm1 hand hK hn3; simp [qB, *])⟩
     intro h100
     try simp at h100
     refine rgz [] [[],[3,4,6,7,8,10,86,100]] ?_
     iterate 2 refine op1 tok ?_
     refine qA (cnd ?_ ?_)
     ·intro h100
      try simp at h100
      refine rgz [] [[]] ?_
      refine op1 tok ?_
      refine qA ?_
      exact ⟨(),trivial,qD (by first | (exfalso; omega) | (clear hm1 hand hK hn3; simp [qB, *])),rfl,by first | (exfalso; omega) | (clear hm1 hand hK hn3; simp [qB, *]),by first | (exfalso; omega) | (clear hm1 hand hK hn3; simp [qB, *])⟩
     intro h100
     try simp at h100
     refine rgn [] [[],[3,4,6,7,8,10,86,103]] ?_
     iterate 2 refine op1 tok ?_
     refine qA (cnd ?_ ?_)
     ·intro h103
      try simp at h103
      refine rgz [] [[],[],[],[3,4,6,7,8,10]] ?_
      iterate 4 refine op1 tok ?_
      refine qA ?_
      exact ⟨(),trivial,qD (by first | (exfalso; omega) | (clear hm1 hand hK hn3; simp [qB, *])),rfl,by first | (exfalso; omega) | (clear hm1 hand hK hn3; simp [qB, *]),by first | (exfalso; omega) | (clear hm1 hand hK hn3; simp [qB, *])⟩
     intro h103
     try simp at h103
     refine rgn [] [[],[3,4,6,7,8,10,108]] ?_
     iterate 2 refine op1 tok ?_
     refine qA (cnd ?_ ?_)
     ·intro h108
      try simp at h108
      refine rgz [] [[],[],[],[],[3,4,6,7,8,10]] ?_
      iterate 5 refine op1 tok ?_ (h:=by intro C; conv=>lhs; simp [hand])
      refine qA ?_
      exact ⟨(),trivial,qD (by first | (exfalso; omega) | (clear hm1 hand hK hn3; simp [qB, *])),rfl,by first | (exfalso; omega) | (clear hm1 hand hK hn3; simp [qB, *]),by first | (exfalso; omega) | (clear hm1 hand hK hn3; simp [qB, *])⟩
     intro h108
     try simp at h108
     refine AW.skip ?_
     exact ⟨(),trivial,qD (by first | (exfalso; omega) | (clear hm1 hand hK hn3; simp [qB, *])),rfl,by first | (exfalso; omega) | (clear hm1 hand hK hn3; simp [qB, *]),by first | (exfalso; omega) | (clear hm1 hand hK hn3; simp [qB, *])⟩
    intro h95
    try simp at h95
    refine rgz [] [[],[3,4,6,7,8,10,86,95]] ?_
    iterate 2 refine op1 tok ?_
    refine qA (cnd ?_ ?_)
    ·intro h95
     try simp at h95
     refine rgz [] [[]] ?_
     refine op1 tok ?_
     refine qA ?_
     exact ⟨(),trivial,qD (by first | (exfalso; omega) | (clear hm1 hand hK hn3; simp [qB, *])),rfl,by first | (exfalso; omega) | (clear hm1 hand hK hn3; simp [qB, *]),by first | (exfalso; omega) | (clear hm1 hand hK hn3; simp [qB, *])⟩
    intro h95
    try simp at h95
    refine AW.seq (rgn [] [[],[3,4,6,7,8,10,86,100]] ?_)
    iterate 2 refine op1 tok ?_
    refine qA (cnd ?_ ?_)
    ·intro h100
     try simp at h100
     refine AW.skip (cnd ?_ ?_)
     ·intro h100
      try simp at h100
      refine rgz [] [[]] ?_
      refine op1 tok ?_
      refine qA ?_
      exact ⟨(),trivial,qD (by first | (exfalso; omega) | (clear hm1 hand hK hn3; simp [qB, *])),rfl,by first | (exfalso; omega) | (clear hm1 hand hK hn3; simp [qB, *]),by first | (exfalso; omega) | (clear hm1 hand hK hn3; simp [qB, *])⟩
     intro h100
     try simp at h100
     refine rgn [] [[],[3,4,6,7,8,10,86,103]] ?_
     iterate 2 refine op1 tok ?_
     refine qA (cnd ?_ ?_)
     ·intro h103
      try simp at h103
      refine rgz [] [[],[],[],[3,4,6,7,8,10]] ?_
      iterate 4 refine op1 tok ?_
      refine qA ?_
      exact ⟨(),trivial,qD (by first | (exfalso; omega) | (clear hm1 hand hK hn3; simp [qB, *])),rfl,by first | (exfalso; omega) | (clear hm1 hand hK hn3; simp [qB, *]),by first | (exfalso; omega) | (clear hm1 hand hK hn3; simp [qB, *])⟩
     intro h103
     try simp at h103
     refine rgn [] [[],[3,4,6,7,8,10,108]] ?_
     iterate 2 refine op1 tok ?_
     refine qA (cnd ?_ ?_)
     ·intro h108
      try simp at h108
      refine rgz [] [[],[],[],[],[3,4,6,7,8,10]] ?_
      iterate 5 refine op1 tok ?_ (h:=by intro C; conv=>lhs; simp [hand])
      refine qA ?_
      exact ⟨(),trivial,qD (by first | (exfalso; omega) | (clear hm1 hand hK hn3; simp [qB, *])),rfl,by first | (exfalso; omega) | (clear hm1 hand hK hn3; simp [qB, *]),by first | (exfalso; omega) | (clear hm1 hand hK hn3; simp [qB, *])⟩
     intro h108
     try simp at h108
     refine AW.skip ?_
     exact ⟨(),trivial,qD (by first | (exfalso; omega) | (clear hm1 hand hK hn3; simp [qB, *])),rfl,by first | (exfalso; omega) | (clear hm1 hand hK hn3; simp [qB, *]),by first | (exfalso; omega) | (clear hm1 hand hK hn3; simp [qB, *])⟩
    intro h100
    try simp at h100
    refine rgz [] [[],[3,4,6,7,8,10,86,100]] ?_
    iterate 2 refine op1 tok ?_
    refine qA (cnd ?_ ?_)
    ·intro h100
     try simp at h100
     refine rgz [] [[]] ?_
     refine op1 tok ?_
     refine qA ?_
     exact ⟨(),trivial,qD (by first | (exfalso; omega) | (clear hm1 hand hK hn3; simp [qB, *])),rfl,by first | (exfalso; omega) | (clear hm1 hand hK hn3; simp [qB, *]),by first | (exfalso; omega) | (clear hm1 hand hK hn3; simp [qB, *])⟩
    intro h100
    try simp at h100
    refine rgn [] [[],[3,4,6,7,8,10,86,103]] ?_
    iterate 2 refine op1 tok ?_
    refine qA (cnd ?_ ?_)
    ·intro h103
     try simp at h103
     refine rgz [] [[],[],[],[3,4,6,7,8,10]] ?_
     iterate 4 refine op1 tok ?_
     refine qA ?_
     exact ⟨(),trivial,qD (by first | (exfalso; omega) | (clear hm1 hand hK hn3; simp [qB, *])),rfl,by first | (exfalso; omega) | (clear hm1 hand hK hn3; simp [qB, *]),by first | (exfalso; omega) | (clear hm1 hand hK hn3; simp [qB, *])⟩
    intro h103
    try simp at h103
    refine rgn [] [[],[3,4,6,7,8,10,108]] ?_
    iterate 2 refine op1 tok ?_
    refine qA (cnd ?_ ?_)
    ·intro h108
     try simp at h108
     refine rgz [] [[],[],[],[],[3,4,6,7,8,10]] ?_
     iterate 5 refine op1 tok ?_ (h:=by intro C; conv=>lhs; simp [hand])
     refine qA ?_
     exact ⟨(),trivial,qD (by first | (exfalso; omega) | (clear hm1 hand hK hn3; simp [qB, *])),rfl,by first | (exfalso; omega) | (clear hm1 hand hK hn3; simp [qB, *]),by first | (exfalso; omega) | (clear hm1 hand hK hn3; simp [qB, *])⟩
    intro h108
    try simp at h108
    refine AW.skip ?_
    exact ⟨(),trivial,qD (by first | (exfalso; omega) | (clear hm1 hand hK hn3; simp [qB, *])),rfl,by first | (exfalso; omega) | (clear hm1 hand hK hn3; simp [qB, *]),by first | (exfalso; omega) | (clear hm1 hand hK hn3; simp [qB, *])⟩
   intro h87
   try simp at h87
   refine rgn [] [[],[3,4,6,7,8,10,86,87]] ?_
   iterate 2 refine op1 tok ?_
   refine qA (cnd ?_ ?_)
   ·intro h87
    try simp at h87
    refine AW.skip (cnd ?_ ?_)
    ·intro h87
     try simp at h87
     refine rgz [] [[]] ?_
     refine op1 tok ?_
     refine qA ?_
     exact ⟨(),trivial,qD (by first | (exfalso; omega) | (clear hm1 hand hK hn3; simp [qB, *])),rfl,by first | (exfalso; omega) | (clear hm1 hand hK hn3; simp [qB, *]),by first | (exfalso; omega) | (clear hm1 hand hK hn3; simp [qB, *])⟩
    intro h87
    try simp at h87
    refine AW.seq (rgn [] [[],[3,4,6,7,8,10,86,95]] ?_)
    iterate 2 refine op1 tok ?_
    refine qA (cnd ?_ ?_)
    ·intro h95
     try simp at h95
     refine AW.skip (cnd ?_ ?_)
     ·intro h95
      try simp at h95
      refine rgz [] [[]] ?_
      refine op1 tok ?_
      refine qA ?_
      exact ⟨(),trivial,qD (by first | (exfalso; omega) | (clear hm1 hand hK hn3; simp [qB, *])),rfl,by first | (exfalso; omega) | (clear hm1 hand hK hn3; simp [qB, *]),by first | (exfalso; omega) | (clear hm1 hand hK hn3; simp [qB, *])⟩
     intro h95
     try simp at h95
     refine AW.seq (rgn [] [[],[3,4,6,7,8,10,86,100]] ?_)
     iterate 2 refine op1 tok ?_
     refine qA (cnd ?_ ?_)
     ·intro h100
      try simp at h100
      refine AW.skip (cnd ?_ ?_)
      ·intro h100
       try simp at h100
       refine rgz [] [[]] ?_
       refine op1 tok ?_
       refine qA ?_
       exact ⟨(),trivial,qD (by first | (exfalso; omega) | (clear hm1 hand hK hn3; simp [qB, *])),rfl,by first | (exfalso; omega) | (clear hm1 hand hK hn3; simp [qB, *]),by first | (exfalso; omega) | (clear hm1 hand hK hn3; simp [qB, *])⟩
      intro h100
      try simp at h100
      refine rgn [] [[],[3,4,6,7,8,10,86,103]] ?_
      iterate 2 refine op1 tok ?_
      refine qA (cnd ?_ ?_)
      ·intro h103
       try simp at h103
       refine rgz [] [[],[],[],[3,4,6,7,8,10]] ?_
       iterate 4 refine op1 tok ?_
       refine qA ?_
       exact ⟨(),trivial,qD (by first | (exfalso; omega) | (clear hm1 hand hK hn3; simp [qB, *])),rfl,by first | (exfalso; omega) | (clear hm1 hand hK hn3; simp [qB, *]),by first | (exfalso; omega) | (clear hm1 hand hK hn3; simp [qB, *])⟩
      intro h103
      try simp at h103
      refine rgn [] [[],[3,4,6,7,8,10,108]] ?_
      iterate 2 refine op1 tok ?_
      refine qA (cnd ?_ ?_)
      ·intro h108
       try simp at h108
       refine rgz [] [[],[],[],[],[3,4,6,7,8,10]] ?_
       iterate 5 refine op1 tok ?_ (h:=by intro C; conv=>lhs; simp [hand])
       refine qA ?_
       exact ⟨(),trivial,qD (by first | (exfalso; omega) | (clear hm1 hand hK hn3; simp [qB, *])),rfl,by first | (exfalso; omega) | (clear hm1 hand hK hn3; simp [qB, *]),by first | (exfalso; omega) | (clear hm1 hand hK hn3; simp [qB, *])⟩
      intro h108
      try simp at h108
      refine AW.skip ?_
      exact ⟨(),trivial,qD (by first | (exfalso; omega) | (clear hm1 hand hK hn3; simp [qB, *])),rfl,by first | (exfalso; omega) | (clear hm1 hand hK hn3; simp [qB, *]),by first | (exfalso; omega) | (clear hm1 hand hK hn3; simp [qB, *])⟩
     intro h100
     try simp at h100
     refine rgz [] [[],[3,4,6,7,8,10,86,100]] ?_
     iterate 2 refine op1 tok ?_
     refine qA (cnd ?_ ?_)
     ·intro h100
      try simp at h100
      refine rgz [] [[]] ?_
      refine op1 tok ?_
      refine qA ?_
      exact ⟨(),trivial,qD (by first | (exfalso; omega) | (clear hm1 hand hK hn3; simp [qB, *])),rfl,by first | (exfalso; omega) | (clear hm1 hand hK hn3; simp [qB, *]),by first | (exfalso; omega) | (clear hm1 hand hK hn3; simp [qB, *])⟩
     intro h100
     try simp at h100
     refine rgn [] [[],[3,4,6,7,8,10,86,103]] ?_
     iterate 2 refine op1 tok ?_
     refine qA (cnd ?_ ?_)
     ·intro h103
      try simp at h103
      refine rgz [] [[],[],[],[3,4,6,7,8,10]] ?_
      iterate 4 refine op1 tok ?_
      refine qA ?_
      exact ⟨(),trivial,qD (by first | (exfalso; omega) | (clear hm1 hand hK hn3; simp [qB, *])),rfl,by first | (exfalso; omega) | (clear hm1 hand hK hn3; simp [qB, *]),by first | (exfalso; omega) | (clear hm1 hand hK hn3; simp [qB, *])⟩
     intro h103
     try simp at h103
     refine rgn [] [[],[3,4,6,7,8,10,108]] ?_
     iterate 2 refine op1 tok ?_
     refine qA (cnd ?_ ?_)
     ·intro h108
      try simp at h108
      refine rgz [] [[],[],[],[],[3,4,6,7,8,10]] ?_
      iterate 5 refine op1 tok ?_ (h:=by intro C; conv=>lhs; simp [hand])
      refine qA ?_
      exact ⟨(),trivial,qD (by first | (exfalso; omega) | (clear hm1 hand hK hn3; simp [qB, *])),rfl,by first | (exfalso; omega) | (clear hm1 hand hK hn3; simp [qB, *]),by first | (exfalso; omega) | (clear hm1 hand hK hn3; simp [qB, *])⟩
     intro h108
     try simp at h108
     refine AW.skip ?_
     exact ⟨(),trivial,qD (by first | (exfalso; omega) | (clear hm1 hand hK hn3; simp [qB, *])),rfl,by first | (exfalso; omega) | (clear hm1 hand hK hn3; simp [qB, *]),by first | (exfalso; omega) | (clear hm1 hand hK hn3; simp [qB, *])⟩
    intro h95
    try simp at h95
    refine rgn [] [[],[3,4,6,7,8,10,86,95]] ?_
    iterate 2 refine op1 tok ?_
    refine qA (cnd ?_ ?_)
    ·intro h95
     try simp at h95
     refine AW.skip (cnd ?_ ?_)
     ·intro h95
      try simp at h95
      refine rgz [] [[]] ?_
      refine op1 tok ?_
      refine qA ?_
      exact ⟨(),trivial,qD (by first | (exfalso; omega) | (clear hm1 hand hK hn3; simp [qB, *])),rfl,by first | (exfalso; omega) | (clear hm1 hand hK hn3; simp [qB, *]),by first | (exfalso; omega) | (clear hm1 hand hK hn3; simp [qB, *])⟩
     intro h95
     try simp at h95
     refine AW.seq (rgn [] [[],[3,4,6,7,8,10,86,100]] ?_)
     iterate 2 refine op1 tok ?_
     refine qA (cnd ?_ ?_)
     ·intro h100
      try simp at h100
      refine AW.skip (cnd ?_ ?_)
      ·intro h100
       try simp at h100
       refine rgz [] [[]] ?_
       refine op1 tok ?_
       refine qA ?_
       exact ⟨(),trivial,qD (by first | (exfalso; omega) | (clear hm1 hand hK hn3; simp [qB, *])),rfl,by first | (exfalso; omega) | (clear hm1 hand hK hn3; simp [qB, *]),by first | (exfalso; omega) | (clear hm1 hand hK hn3; simp [qB, *])⟩
      intro h100
      try simp at h100
      refine rgn [] [[],[3,4,6,7,8,10,86,103]] ?_
      iterate 2 refine op1 tok ?_
      refine qA (cnd ?_ ?_)
      ·intro h103
       try simp at h103
       refine rgz [] [[],[],[],[3,4,6,7,8,10]] ?_
       iterate 4 refine op1 tok ?_
       refine qA ?_
       exact ⟨(),trivial,qD (by first | (exfalso; omega) | (clear hm1 hand hK hn3; simp [qB, *])),rfl,by first | (exfalso; omega) | (clear hm1 hand hK hn3; simp [qB, *]),by first | (exfalso; omega) | (clear hm1 hand hK hn3; simp [qB, *])⟩
      intro h103
      try simp at h103
      refine rgn [] [[],[3,4,6,7,8,10,108]] ?_
      iterate 2 refine op1 tok ?_
      refine qA (cnd ?_ ?_)
      ·intro h108
       try simp at h108
       refine rgz [] [[],[],[],[],[3,4,6,7,8,10]] ?_
       iterate 5 refine op1 tok ?_ (h:=by intro C; conv=>lhs; simp [hand])
       refine qA ?_
       exact ⟨(),trivial,qD (by first | (exfalso; omega) | (clear hm1 hand hK hn3; simp [qB, *])),rfl,by first | (exfalso; omega) | (clear hm1 hand hK hn3; simp [qB, *]),by first | (exfalso; omega) | (clear hm1 hand hK hn3; simp [qB, *])⟩
      intro h108
      try simp at h108
      refine AW.skip ?_
      exact ⟨(),trivial,qD (by first | (exfalso; omega) | (clear hm1 hand hK hn3; simp [qB, *])),rfl,by first | (exfalso; omega) | (clear hm1 hand hK hn3; simp [qB, *]),by first | (exfalso; omega) | (clear hm1 hand hK hn3; simp [qB, *])⟩
     intro h100
     try simp at h100
     refine rgz [] [[],[3,4,6,7,8,10,86,100]] ?_
     iterate 2 refine op1 tok ?_
     refine qA (cnd ?_ ?_)
     ·intro h100
      try simp at h100
      refine rgz [] [[]] ?_
      refine op1 tok ?_
      refine qA ?_
      exact ⟨(),trivial,qD (by first | (exfalso; omega) | (clear hm1 hand hK hn3; simp [qB, *])),rfl,by first | (exfalso; omega) | (clear hm1 hand hK hn3; simp [qB, *]),by first | (exfalso; omega) | (clear hm1 hand hK hn3; simp [qB, *])⟩
     intro h100
     try simp at h100
     refine rgn [] [[],[3,4,6,7,8,10,86,103]] ?_
     iterate 2 refine op1 tok ?_
     refine qA (cnd ?_ ?_)
     ·intro h103
      try simp at h103
      refine rgz [] [[],[],[],[3,4,6,7,8,10]] ?_
      iterate 4 refine op1 tok ?_
      refine qA ?_
      exact ⟨(),trivial,qD (by first | (exfalso; omega) | (clear hm1 hand hK hn3; simp [qB, *])),rfl,by first | (exfalso; omega) | (clear hm1 hand hK hn3; simp [qB, *]),by first | (exfalso; omega) | (clear hm1 hand hK hn3; simp [qB, *])⟩
     intro h103
     try simp at h103
     refine rgn [] [[],[3,4,6,7,8,10,108]] ?_
     iterate 2 refine op1 tok ?_
     refine qA (cnd ?_ ?_)
     ·intro h108
      try simp at h108
      refine rgz [] [[],[],[],[],[3,4,6,7,8,10]] ?_
      iterate 5 refine op1 tok ?_ (h:=by intro C; conv=>lhs; simp [hand])
      refine qA ?_
      exact ⟨(),trivial,qD (by first | (exfalso; omega) | (clear hm1 hand hK hn3; simp [qB, *])),rfl,by first | (exfalso; omega) | (clear hm1 hand hK hn3; simp [qB, *]),by first | (exfalso; omega) | (clear hm1 hand hK hn3; simp [qB, *])⟩
     intro h108
     try simp at h108
     refine AW.skip ?_
     exact ⟨(),trivial,qD (by first | (exfalso; omega) | (clear hm1 hand hK hn3; simp [qB, *])),rfl,by first | (exfalso; omega) | (clear hm1 hand hK hn3; simp [qB, *]),by first | (exfalso; omega) | (clear hm1 hand hK hn3; simp [qB, *])⟩
    intro h95
    try simp at h95
    refine rgn [] [[],[3,4,6,7,8,10,86,95]] ?_
    iterate 2 refine op1 tok ?_
    refine qA (cnd ?_ ?_)
    ·intro h95
     try simp at h95
     refine AW.skip (cnd ?_ ?_)
     ·intro h95
      try simp at h95
      refine rgz [] [[]] ?_
      refine op1 tok ?_
      refine qA ?_
      exact ⟨(),trivial,qD (by first | (exfalso; omega) | (clear hm1 hand hK hn3; simp [qB, *])),rfl,by first | (exfalso; omega) | (clear hm1 hand hK hn3; simp [qB, *]),by first | (exfalso; omega) | (clear hm1 hand hK hn3; simp [qB, *])⟩
     intro h95
     try simp at h95
     refine AW.seq (rgn [] [[],[3,4,6,7,8,10,86,100]] ?_)
     iterate 2 refine op1 tok ?_
     refine qA (cnd ?_ ?_)
     ·intro h100
      try simp at h100
      refine AW.skip (cnd ?_ ?_)
      ·intro h100
       try simp at h100
       refine rgz [] [[]] ?_
       refine op1 tok ?_
       refine qA ?_
       exact ⟨(),trivial,qD (by first | (exfalso; omega) | (clear hm1 hand hK hn3; simp [qB, *])),rfl,by first | (exfalso; omega) | (clear hm1 hand hK hn3; simp [qB, *]),by first | (exfalso; omega) | (clear hm1 hand hK hn3; simp [qB, *])⟩
      intro h100
      try simp at h100
      refine rgn [] [[],[3,4,6,7,8,10,86,103]] ?_
      iterate 2 refine op1 tok ?_
      refine qA (cnd ?_ ?_)
      ·intro h103
       try simp at h103
       refine rgz [] [[],[],[],[3,4,6,7,8,10]] ?_
       iterate 4 refine op1 tok ?_
       refine qA ?_
       exact ⟨(),trivial,qD (by first | (exfalso; omega) | (clear hm1 hand hK hn3; simp [qB, *])),rfl,by first | (exfalso; omega) | (clear hm1 hand hK hn3; simp [qB, *]),by first | (exfalso; omega) | (clear hm1 hand hK hn3; simp [qB, *])⟩
      intro h103
      try simp at h103
      refine rgn [] [[],[3,4,6,7,8,10,108]] ?_
      iterate 2 refine op1 tok ?_
      refine qA (cnd ?_ ?_)
      ·intro h108
       try simp at h108
       refine rgz [] [[],[],[],[],[3,4,6,7,8,10]] ?_
       iterate 5 refine op1 tok ?_ (h:=by intro C; conv=>lhs; simp [hand])
       refine qA ?_
       exact ⟨(),trivial,qD (by first | (exfalso; omega) | (clear hm1 hand hK hn3; simp [qB, *])),rfl,by first | (exfalso; omega) | (clear hm1 hand hK hn3; simp [qB, *]),by first | (exfalso; omega) | (clear hm1 hand hK hn3; simp [qB, *])⟩
      intro h108
      try simp at h108
      refine AW.skip ?_
      exact ⟨(),trivial,qD (by first | (exfalso; omega) | (clear hm1 hand hK hn3; simp [qB, *])),rfl,by first | (exfalso; omega) | (clear hm1 hand hK hn3; simp [qB, *]),by first | (exfalso; omega) | (clear hm1 hand hK hn3; simp [qB, *])⟩
     intro h100
     try simp at h100
     refine rgz [] [[],[3,4,6,7,8,10,86,100]] ?_
     iterate 2 refine op1 tok ?_
     refine qA (cnd ?_ ?_)
     ·intro h100
      try simp at h100
      refine rgz [] [[]] ?_
      refine op1 tok ?_
      refine qA ?_
      exact ⟨(),trivial,qD (by first | (exfalso; omega) | (clear hm1 hand hK hn3; simp [qB, *])),rfl,by first | (exfalso; omega) | (clear hm1 hand hK hn3; simp [qB, *]),by first | (exfalso; omega) | (clear hm1 hand hK hn3; simp [qB, *])⟩
     intro h100
     try simp at h100
     refine rgn [] [[],[3,4,6,7,8,10,86,103]] ?_
     iterate 2 refine op1 tok ?_
     refine qA (cnd ?_ ?_)
     ·intro h103
      try simp at h103
      refine rgz [] [[],[],[],[3,4,6,7,8,10]] ?_
      iterate 4 refine op1 tok ?_
      refine qA ?_
      exact ⟨(),trivial,qD (by first | (exfalso; omega) | (clear hm1 hand hK hn3; simp [qB, *])),rfl,by first | (exfalso; omega) | (clear hm1 hand hK hn3; simp [qB, *]),by first | (exfalso; omega) | (clear hm1 hand hK hn3; simp [qB, *])⟩
     intro h103
     try simp at h103
     refine rgn [] [[],[3,4,6,7,8,10,108]] ?_
     iterate 2 refine op1 tok ?_
     refine qA (cnd ?_ ?_)
     ·intro h108
      try simp at h108
      refine rgz [] [[],[],[],[],[3,4,6,7,8,10]] ?_
      iterate 5 refine op1 tok ?_ (h:=by intro C; conv=>lhs; simp [hand])
      refine qA ?_
      exact ⟨(),trivial,qD (by first | (exfalso; omega) | (clear hm1 hand hK hn3; simp [qB, *])),rfl,by first | (exfalso; omega) | (clear hm1 hand hK hn3; simp [qB, *]),by first | (exfalso; omega) | (clear hm1 hand hK hn3; simp [qB, *])⟩
     intro h108
     try simp at h108
     refine AW.skip ?_
     exact ⟨(),trivial,qD (by first | (exfalso; omega) | (clear hm1 hand hK hn3; simp [qB, *])),rfl,by first | (exfalso; omega) | (clear hm1 hand hK hn3; simp [qB, *]),by first | (exfalso; omega) | (clear hm1 hand hK hn3; simp [qB, *])⟩
    intro h95
    try simp at h95
    refine rgz [] [[],[3,4,6,7,8,10,86,95]] ?_
    iterate 2 refine op1 tok ?_
    refine qA (cnd ?_ ?_)
    ·intro h95
     try simp at h95
     refine rgz [] [[]] ?_
     refine op1 tok ?_
     refine qA ?_
     exact ⟨(),trivial,qD (by first | (exfalso; omega) | (clear hm1 hand hK hn3; simp [qB, *])),rfl,by first | (exfalso; omega) | (clear hm1 hand hK hn3; simp [qB, *]),by first | (exfalso; omega) | (clear hm1 hand hK hn3; simp [qB, *])⟩
    intro h95
    try simp at h95
    refine AW.seq (rgn [] [[],[3,4,6,7,8,10,86,100]] ?_)
    iterate 2 refine op1 tok ?_
    refine qA (cnd ?_ ?_)
    ·intro h100
     try simp at h100
     refine AW.skip (cnd ?_ ?_)
     ·intro h100
      try simp at h100
      refine rgz [] [[]] ?_
      refine op1 tok ?_
      refine qA ?_
      exact ⟨(),trivial,qD (by first | (exfalso; omega) | (clear hm1 hand hK hn3; simp [qB, *])),rfl,by first | (exfalso; omega) | (clear hm1 hand hK hn3; simp [qB, *]),by first | (exfalso; omega) | (clear hm1 hand hK hn3; simp [qB, *])⟩
     intro h100
     try simp at h100
     refine rgn [] [[],[3,4,6,7,8,10,86,103]] ?_
     iterate 2 refine op1 tok ?_
     refine qA (cnd ?_ ?_)
     ·intro h103
      try simp at h103
      refine rgz [] [[],[],[],[3,4,6,7,8,10]] ?_
      iterate 4 refine op1 tok ?_
      refine qA ?_
      exact ⟨(),trivial,qD (by first | (exfalso; omega) | (clear hm1 hand hK hn3; simp [qB, *])),rfl,by first | (exfalso; omega) | (clear hm1 hand hK hn3; simp [qB, *]),by first | (exfalso; omega) | (clear hm1 hand hK hn3; simp [qB, *])⟩
     intro h103
     try simp at h103
     refine rgn [] [[],[3,4,6,7,8,10,108]] ?_
     iterate 2 refine op1 tok ?_
     refine qA (cnd ?_ ?_)
     ·intro h108
      try simp at h108
      refine rgz [] [[],[],[],[],[3,4,6,7,8,10]] ?_
      iterate 5 refine op1 tok ?_ (h:=by intro C; conv=>lhs; simp [hand])
      refine qA ?_
      exact ⟨(),trivial,qD (by first | (exfalso; omega) | (clear hm1 hand hK hn3; simp [qB, *])),rfl,by first | (exfalso; omega) | (clear hm1 hand hK hn3; simp [qB, *]),by first | (exfalso; omega) | (clear hm1 hand hK hn3; simp [qB, *])⟩
     intro h108
     try simp at h108
     refine AW.skip ?_
     exact ⟨(),trivial,qD (by first | (exfalso; omega) | (clear hm1 hand hK hn3; simp [qB, *])),rfl,by first | (exfalso; omega) | (clear hm1 hand hK hn3; simp [qB, *]),by first | (exfalso; omega) | (clear hm1 hand hK hn3; simp [qB, *])⟩
    intro h100
    try simp at h100
    refine rgz [] [[],[3,4,6,7,8,10,86,100]] ?_
    iterate 2 refine op1 tok ?_
    refine qA (cnd ?_ ?_)
    ·intro h100
     try simp at h100
     refine rgz [] [[]] ?_
     refine op1 tok ?_
     refine qA ?_
     exact ⟨(),trivial,qD (by first | (exfalso; omega) | (clear hm1 hand hK hn3; simp [qB, *])),rfl,by first | (exfalso; omega) | (clear hm1 hand hK hn3; simp [qB, *]),by first | (exfalso; omega) | (clear hm1 hand hK hn3; simp [qB, *])⟩
    intro h100
    try simp at h100
    refine rgn [] [[],[3,4,6,7,8,10,86,103]] ?_
    iterate 2 refine op1 tok ?_
    refine qA (cnd ?_ ?_)
    ·intro h103
     try simp at h103
     refine rgz [] [[],[],[],[3,4,6,7,8,10]] ?_
     iterate 4 refine op1 tok ?_
     refine qA ?_
     exact ⟨(),trivial,qD (by first | (exfalso; omega) | (clear hm1 hand hK hn3; simp [qB, *])),rfl,by first | (exfalso; omega) | (clear hm1 hand hK hn3; simp [qB, *]),by first | (exfalso; omega) | (clear hm1 hand hK hn3; simp [qB, *])⟩
    intro h103
    try simp at h103
    refine rgn [] [[],[3,4,6,7,8,10,108]] ?_
    iterate 2 refine op1 tok ?_
    refine qA (cnd ?_ ?_)
    ·intro h108
     try simp at h108
     refine rgz [] [[],[],[],[],[3,4,6,7,8,10]] ?_
     iterate 5 refine op1 tok ?_ (h:=by intro C; conv=>lhs; simp [hand])
     refine qA ?_
     exact ⟨(),trivial,qD (by first | (exfalso; omega) | (clear hm1 hand hK hn3; simp [qB, *])),rfl,by first | (exfalso; omega) | (clear hm1 hand hK hn3; simp [qB, *]),by first | (exfalso; omega) | (clear hm1 hand hK hn3; simp [qB, *])⟩
    intro h108
    try simp at h108
    refine AW.skip ?_
    exact ⟨(),trivial,qD (by first | (exfalso; omega) | (clear hm1 hand hK hn3; simp [qB, *])),rfl,by first | (exfalso; omega) | (clear hm1 hand hK hn3; simp [qB, *]),by first | (exfalso; omega) | (clear hm1 hand hK hn3; simp [qB, *])⟩
   intro h87
   try simp at h87
   refine rgn [] [[],[3,4,6,7,8,10,86,87]] ?_
   iterate 2 refine op1 tok ?_
   refine qA (cnd ?_ ?_)
   ·intro h87
    try simp at h87
    refine AW.skip (cnd ?_ ?_)
    ·intro h87
     try simp at h87
     refine rgz [] [[]] ?_
     refine op1 tok ?_
     refine qA ?_
     exact ⟨(),trivial,qD (by first | (exfalso; omega) | (clear hm1 hand hK hn3; simp [qB, *])),rfl,by first | (exfalso; omega) | (clear hm1 hand hK hn3; simp [qB, *]),by first | (exfalso; omega) | (clear hm1 hand hK hn3; simp [qB, *])⟩
    intro h87
    try simp at h87
    refine AW.seq (rgn [] [[],[3,4,6,7,8,10,86,95]] ?_)
    iterate 2 refine op1 tok ?_
    refine qA (cnd ?_ ?_)
    ·intro h95
     try simp at h95
     refine AW.skip (cnd ?_ ?_)
     ·intro h95
      try simp at h95
      refine rgz [] [[]] ?_
      refine op1 tok ?_
      refine qA ?_
      exact ⟨(),trivial,qD (by first | (exfalso; omega) | (clear hm1 hand hK hn3; simp [qB, *])),rfl,by first | (exfalso; omega) | (clear hm1 hand hK hn3; simp [qB, *]),by first | (exfalso; omega) | (clear hm1 hand hK hn3; simp [qB, *])⟩
     intro h95
     try simp at h95
     refine AW.seq (rgn [] [[],[3,4,6,7,8,10,86,100]] ?_)
     iterate 2 refine op1 tok ?_
     refine qA (cnd ?_ ?_)
     ·intro h100
      try simp at h100
      refine AW.skip (cnd ?_ ?_)
      ·intro h100
       try simp at h100
       refine rgz [] [[]] ?_
       refine op1 tok ?_
       refine qA ?_
       exact ⟨(),trivial,qD (by first | (exfalso; omega) | (clear hm1 hand hK hn3; simp [qB, *])),rfl,by first | (exfalso; omega) | (clear hm1 hand hK hn3; simp [qB, *]),by first | (exfalso; omega) | (clear hm1 hand hK hn3; simp [qB, *])⟩
      intro h100
      try simp at h100
      refine rgn [] [[],[3,4,6,7,8,10,86,103]] ?_
      iterate 2 refine op1 tok ?_
      refine qA (cnd ?_ ?_)
      ·intro h103
       try simp at h103
       refine rgz [] [[],[],[],[3,4,6,7,8,10]] ?_
       iterate 4 refine op1 tok ?_
       refine qA ?_
       exact ⟨(),trivial,qD (by first | (exfalso; omega) | (clear hm1 hand hK hn3; simp [qB, *])),rfl,by first | (exfalso; omega) | (clear hm1 hand hK hn3; simp [qB, *]),by first | (exfalso; omega) | (clear hm1 hand hK hn3; simp [qB, *])⟩
      intro h103
      try simp at h103
      refine rgn [] [[],[3,4,6,7,8,10,108]] ?_
      iterate 2 refine op1 tok ?_
      refine qA (cnd ?_ ?_)
      ·intro h108
       try simp at h108
       refine rgz [] [[],[],[],[],[3,4,6,7,8,10]] ?_
       iterate 5 refine op1 tok ?_ (h:=by intro C; conv=>lhs; simp [hand])
       refine qA ?_
       exact ⟨(),trivial,qD (by first | (exfalso; omega) | (clear hm1 hand hK hn3; simp [qB, *])),rfl,by first | (exfalso; omega) | (clear hm1 hand hK hn3; simp [qB, *]),by first | (exfalso; omega) | (clear hm1 hand hK hn3; simp [qB, *])⟩
      intro h108
      try simp at h108
      refine AW.skip ?_
      exact ⟨(),trivial,qD (by first | (exfalso; omega) | (clear hm1 hand hK hn3; simp [qB, *])),rfl,by first | (exfalso; omega) | (clear hm1 hand hK hn3; simp [qB, *]),by first | (exfalso; omega) | (clear hm1 hand hK hn3; simp [qB, *])⟩
     intro h100
     try simp at h100
     refine rgz [] [[],[3,4,6,7,8,10,86,100]] ?_
     iterate 2 refine op1 tok ?_
     refine qA (cnd ?_ ?_)
     ·intro h100
      try simp at h100
      refine rgz [] [[]] ?_
      refine op1 tok ?_
      refine qA ?_
      exact ⟨(),trivial,qD (by first | (exfalso; omega) | (clear hm1 hand hK hn3; simp [qB, *])),rfl,by first | (exfalso; omega) | (clear hm1 hand hK hn3; simp [qB, *]),by first | (exfalso; omega) | (clear hm1 hand hK hn3; simp [qB, *])⟩
     intro h100
     try simp at h100
     refine rgn [] [[],[3,4,6,7,8,10,86,103]] ?_
     iterate 2 refine op1 tok ?_
     refine qA (cnd ?_ ?_)
     ·intro h103
      try simp at h103
      refine rgz [] [[],[],[],[3,4,6,7,8,10]] ?_
      iterate 4 refine op1 tok ?_
      refine qA ?_
      exact ⟨(),trivial,qD (by first | (exfalso; omega) | (clear hm1 hand hK hn3; simp [qB, *])),rfl,by first | (exfalso; omega) | (clear hm1 hand hK hn3; simp [qB, *]),by first | (exfalso; omega) | (clear hm1 hand hK hn3; simp [qB, *])⟩
     intro h103
     try simp at h103
     refine rgn [] [[],[3,4,6,7,8,10,108]] ?_
     iterate 2 refine op1 tok ?_
     refine qA (cnd ?_ ?_)
     ·intro h108
      try simp at h108
      refine rgz [] [[],[],[],[],[3,4,6,7,8,10]] ?_
      iterate 5 refine op1 tok ?_ (h:=by intro C; conv=>lhs; simp [hand])
      refine qA ?_
      exact ⟨(),trivial,qD (by first | (exfalso; omega) | (clear hm1 hand hK hn3; simp [qB, *])),rfl,by first | (exfalso; omega) | (clear hm1 hand hK hn3; simp [qB, *]),by first | (exfalso; omega) | (clear hm1 hand hK hn3; simp [qB, *])⟩
     intro h108
     try simp at h108
     refine AW.skip ?_
     exact ⟨(),trivial,qD (by first | (exfalso; omega) | (clear hm1 hand hK hn3; simp [qB, *])),rfl,by first | (exfalso; omega) | (clear hm1 hand hK hn3; simp [qB, *]),by first | (exfalso; omega) | (clear hm1 hand hK hn3; simp [qB, *])⟩
    intro h95
    try simp at h95
    refine rgn [] [[],[3,4,6,7,8,10,86,95]] ?_
    iterate 2 refine op1 tok ?_
    refine qA (cnd ?_ ?_)
    ·intro h95
     try simp at h95
     refine AW.skip (cnd ?_ ?_)
     ·intro h95
      try simp at h95
      refine rgz [] [[]] ?_
      refine op1 tok ?_
      refine qA ?_
      exact ⟨(),trivial,qD (by first | (exfalso; omega) | (clear hm1 hand hK hn3; simp [qB, *])),rfl,by first | (exfalso; omega) | (clear hm1 hand hK hn3; simp [qB, *]),by first | (exfalso; omega) | (clear hm1 hand hK hn3; simp [qB, *])⟩
     intro h95
     try simp at h95
     refine AW.seq (rgn [] [[],[3,4,6,7,8,10,86,100]] ?_)
     iterate 2 refine op1 tok ?_
     refine qA (cnd ?_ ?_)
     ·intro h100
      try simp at h100
      refine AW.skip (cnd ?_ ?_)
      ·intro h100
       try simp at h100
       refine rgz [] [[]] ?_
       refine op1 tok ?_
       refine qA ?_
       exact ⟨(),trivial,qD (by first | (exfalso; omega) | (clear hm1 hand hK hn3; simp [qB, *])),rfl,by first | (exfalso; omega) | (clear hm1 hand hK hn3; simp [qB, *]),by first | (exfalso; omega) | (clear hm1 hand hK hn3; simp [qB, *])⟩
      intro h100
      try simp at h100
      refine rgn [] [[],[3,4,6,7,8,10,86,103]] ?_
      iterate 2 refine op1 tok ?_
      refine qA (cnd ?_ ?_)
      ·intro h103
       try simp at h103
       refine rgz [] [[],[],[],[3,4,6,7,8,10]] ?_
       iterate 4 refine op1 tok ?_
       refine qA ?_
       exact ⟨(),trivial,qD (by first | (exfalso; omega) | (clear hm1 hand hK hn3; simp [qB, *])),rfl,by first | (exfalso; omega) | (clear hm1 hand hK hn3; simp [qB, *]),by first | (exfalso; omega) | (clear hm1 hand hK hn3; simp [qB, *])⟩
      intro h103
      try simp at h103
      refine rgn [] [[],[3,4,6,7,8,10,108]] ?_
      iterate 2 refine op1 tok ?_
      refine qA (cnd ?_ ?_)
      ·intro h108
       try simp at h108
       refine rgz [] [[],[],[],[],[3,4,6,7,8,10]] ?_
       iterate 5 refine op1 tok ?_ (h:=by intro C; conv=>lhs; simp [hand])
       refine qA ?_
       exact ⟨(),trivial,qD (by first | (exfalso; omega) | (clear hm1 hand hK hn3; simp [qB, *])),rfl,by first | (exfalso; omega) | (clear hm1 hand hK hn3; simp [qB, *]),by first | (exfalso; omega) | (clear hm1 hand hK hn3; simp [qB, *])⟩
      intro h108
      try simp at h108
      refine AW.skip ?_
      exact ⟨(),trivial,qD (by first | (exfalso; omega) | (clear hm1 hand hK hn3; simp [qB, *])),rfl,by first | (exfalso; omega) | (clear hm1 hand hK hn3; simp [qB, *]),by first | (exfalso; omega) | (clear hm1 hand hK hn3; simp [qB, *])⟩
     intro h100
     try simp at h100
     refine rgz [] [[],[3,4,6,7,8,10,86,100]] ?_
     iterate 2 refine op1 tok ?_
     refine qA (cnd ?_ ?_)
     ·intro h100
      try simp at h100
      refine rgz [] [[]] ?_
      refine op1 tok ?_
      refine qA ?_
      exact ⟨(),trivial,qD (by first | (exfalso; omega) | (clear hm1 hand hK hn3; simp [qB, *])),rfl,by first | (exfalso; omega) | (clear hm1 hand hK hn3; simp [qB, *]),by first | (exfalso; omega) | (clear hm1 hand hK hn3; simp [qB, *])⟩
     intro h100
     try simp at h100
     refine rgn [] [[],[3,4,6,7,8,10,86,103]] ?_
     iterate 2 refine op1 tok ?_
     refine qA (cnd ?_ ?_)
     ·intro h103
      try simp at h103
      refine rgz [] [[],[],[],[3,4,6,7,8,10]] ?_
      iterate 4 refine op1 tok ?_
      refine qA ?_
      exact ⟨(),trivial,qD (by first | (exfalso; omega) | (clear hm1 hand hK hn3; simp [qB, *])),rfl,by first | (exfalso; omega) | (clear hm1 hand hK hn3; simp [qB, *]),by first | (exfalso; omega) | (clear hm1 hand hK hn3; simp [qB, *])⟩
     intro h103
     try simp at h103
     refine rgn [] [[],[3,4,6,7,8,10,108]] ?_
     iterate 2 refine op1 tok ?_
     refine qA (cnd ?_ ?_)
     ·intro h108
      try simp at h108
      refine rgz [] [[],[],[],[],[3,4,6,7,8,10]] ?_
      iterate 5 refine op1 tok ?_ (h:=by intro C; conv=>lhs; simp [hand])
      refine qA ?_
      exact ⟨(),trivial,qD (by first | (exfalso; omega) | (clear hm1 hand hK hn3; simp [qB, *])),rfl,by first | (exfalso; omega) | (clear hm1 hand hK hn3; simp [qB, *]),by first | (exfalso; omega) | (clear hm1 hand hK hn3; simp [qB, *])⟩
     intro h108
     try simp at h108
     refine AW.skip ?_
     exact ⟨(),trivial,qD (by first | (exfalso; omega) | (clear hm1 hand hK hn3; simp [qB, *])),rfl,by first | (exfalso; omega) | (clear hm1 hand hK hn3; simp [qB, *]),by first | (exfalso; omega) | (clear hm1 hand hK hn3; simp [qB, *])⟩
    intro h95
    try simp at h95
    refine rgn [] [[],[3,4,6,7,8,10,86,95]] ?_
    iterate 2 refine op1 tok ?_
    refine qA (cnd ?_ ?_)
    ·intro h95
     try simp at h95
     refine AW.skip (cnd ?_ ?_)
     ·intro h95
      try simp at h95
      refine rgz [] [[]] ?_
      refine op1 tok ?_
      refine qA ?_
      exact ⟨(),trivial,qD (by first | (exfalso; omega) | (clear hm1 hand hK hn3; simp [qB, *])),rfl,by first | (exfalso; omega) | (clear hm1 hand hK hn3; simp [qB, *]),by first | (exfalso; omega) | (clear hm1 hand hK hn3; simp [qB, *])⟩
     intro h95
     try simp at h95
     refine AW.seq (rgn [] [[],[3,4,6,7,8,10,86,100]] ?_)
     iterate 2 refine op1 tok ?_
     refine qA (cnd ?_ ?_)
     ·intro h100
      try simp at h100
      refine AW.skip (cnd ?_ ?_)
      ·intro h100
       try simp at h100
       refine rgz [] [[]] ?_
       refine op1 tok ?_
       refine qA ?_
       exact ⟨(),trivial,qD (by first | (exfalso; omega) | (clear hm1 hand hK hn3; simp [qB, *])),rfl,by first | (exfalso; omega) | (clear hm1 hand hK hn3; simp [qB, *]),by first | (exfalso; omega) | (clear hm1 hand hK hn3; simp [qB, *])⟩
      intro h100
      try simp at h100
      refine rgn [] [[],[3,4,6,7,8,10,86,103]] ?_
      iterate 2 refine op1 tok ?_
      refine qA (cnd ?_ ?_)
      ·intro h103
       try simp at h103
       refine rgz [] [[],[],[],[3,4,6,7,8,10]] ?_
       iterate 4 refine op1 tok ?_
       refine qA ?_
       exact ⟨(),trivial,qD (by first | (exfalso; omega) | (clear hm1 hand hK hn3; simp [qB, *])),rfl,by first | (exfalso; omega) | (clear hm1 hand hK hn3; simp [qB, *]),by first | (exfalso; omega) | (clear hm1 hand hK hn3; simp [qB, *])⟩
      intro h103
      try simp at h103
      refine rgn [] [[],[3,4,6,7,8,10,108]] ?_
      iterate 2 refine op1 tok ?_
      refine qA (cnd ?_ ?_)
      ·intro h108
       try simp at h108
       refine rgz [] [[],[],[],[],[3,4,6,7,8,10]] ?_
       iterate 5 refine op1 tok ?_ (h:=by intro C; conv=>lhs; simp [hand])
       refine qA ?_
       exact ⟨(),trivial,qD (by first | (exfalso; omega) | (clear hm1 hand hK hn3; simp [qB, *])),rfl,by first | (exfalso; omega) | (clear hm1 hand hK hn3; simp [qB, *]),by first | (exfalso; omega) | (clear hm1 hand hK hn3; simp [qB, *])⟩
      intro h108
      try simp at h108
      refine AW.skip ?_
      exact ⟨(),trivial,qD (by first | (exfalso; omega) | (clear hm1 hand hK hn3; simp [qB, *])),rfl,by first | (exfalso; omega) | (clear hm1 hand hK hn3; simp [qB, *]),by first | (exfalso; omega) | (clear hm1 hand hK hn3; simp [qB, *])⟩
     intro h100
     try simp at h100
     refine rgz [] [[],[3,4,6,7,8,10,86,100]] ?_
     iterate 2 refine op1 tok ?_
     refine qA (cnd ?_ ?_)
     ·intro h100
      try simp at h100
      refine rgz [] [[]] ?_
      refine op1 tok ?_
      refine qA ?_
      exact ⟨(),trivial,qD (by first | (exfalso; omega) | (clear hm1 hand hK hn3; simp [qB, *])),rfl,by first | (exfalso; omega) | (clear hm1 hand hK hn3; simp [qB, *]),by first | (exfalso; omega) | (clear hm1 hand hK hn3; simp [qB, *])⟩
     intro h100
     try simp at h100
     refine rgn [] [[],[3,4,6,7,8,10,86,103]] ?_
     iterate 2 refine op1 tok ?_
     refine qA (cnd ?_ ?_)
     ·intro h103
      try simp at h103
      refine rgz [] [[],[],[],[3,4,6,7,8,10]] ?_
      iterate 4 refine op1 tok ?_
      refine qA ?_
      exact ⟨(),trivial,qD (by first | (exfalso; omega) | (clear hm1 hand hK hn3; simp [qB, *])),rfl,by first | (exfalso; omega) | (clear hm1 hand hK hn3; simp [qB, *]),by first | (exfalso; omega) | (clear hm1 hand hK hn3; simp [qB, *])⟩
     intro h103
     try simp at h103
     refine rgn [] [[],[3,4,6,7,8,10,108]] ?_
     iterate 2 refine op1 tok ?_
     refine qA (cnd ?_ ?_)
     ·intro h108
      try simp at h108
      refine rgz [] [[],[],[],[],[3,4,6,7,8,10]] ?_
      iterate 5 refine op1 tok ?_ (h:=by intro C; conv=>lhs; simp [hand])
      refine qA ?_
      exact ⟨(),trivial,qD (by first | (exfalso; omega) | (clear hm1 hand hK hn3; simp [qB, *])),rfl,by first | (exfalso; omega) | (clear hm1 hand hK hn3; simp [qB, *]),by first | (exfalso; omega) | (clear hm1 hand hK hn3; simp [qB, *])⟩
     intro h108
     try simp at h108
     refine AW.skip ?_
     exact ⟨(),trivial,qD (by first | (exfalso; omega) | (clear hm1 hand hK hn3; simp [qB, *])),rfl,by first | (exfalso; omega) | (clear hm1 hand hK hn3; simp [qB, *]),by first | (exfalso; omega) | (clear hm1 hand hK hn3; simp [qB, *])⟩
    intro h95
    try simp at h95
    refine rgz [] [[],[3,4,6,7,8,10,86,95]] ?_
    iterate 2 refine op1 tok ?_
    refine qA (cnd ?_ ?_)
    ·intro h95
     try simp at h95
     refine rgz [] [[]] ?_
     refine op1 tok ?_
     refine qA ?_
     exact ⟨(),trivial,qD (by first | (exfalso; omega) | (clear hm1 hand hK hn3; simp [qB, *])),rfl,by first | (exfalso; omega) | (clear hm1 hand hK hn3; simp [qB, *]),by first | (exfalso; omega) | (clear hm1 hand hK hn3; simp [qB, *])⟩
    intro h95
    try simp at h95
    refine AW.seq (rgn [] [[],[3,4,6,7,8,10,86,100]] ?_)
    iterate 2 refine op1 tok ?_
    refine qA (cnd ?_ ?_)
    ·intro h100
     try simp at h100
     refine AW.skip (cnd ?_ ?_)
     ·intro h100
      try simp at h100
      refine rgz [] [[]] ?_
      refine op1 tok ?_
      refine qA ?_
      exact ⟨(),trivial,qD (by first | (exfalso; omega) | (clear hm1 hand hK hn3; simp [qB, *])),rfl,by first | (exfalso; omega) | (clear hm1 hand hK hn3; simp [qB, *]),by first | (exfalso; omega) | (clear hm1 hand hK hn3; simp [qB, *])⟩
     intro h100
     try simp at h100
     refine rgn [] [[],[3,4,6,7,8,10,86,103]] ?_
     iterate 2 refine op1 tok ?_
     refine qA (cnd ?_ ?_)
     ·intro h103
      try simp at h103
      refine rgz [] [[],[],[],[3,4,6,7,8,10]] ?_
      iterate 4 refine op1 tok ?_
      refine qA ?_
      exact ⟨(),trivial,qD (by first | (exfalso; omega) | (clear hm1 hand hK hn3; simp [qB, *])),rfl,by first | (exfalso; omega) | (clear hm1 hand hK hn3; simp [qB, *]),by first | (exfalso; omega) | (clear hm1 hand hK hn3; simp [qB, *])⟩
     intro h103
     try simp at h103
     refine rgn [] [[],[3,4,6,7,8,10,108]] ?_
     iterate 2 refine op1 tok ?_
     refine qA (cnd ?_ ?_)
     ·intro h108
      try simp at h108
      refine rgz [] [[],[],[],[],[3,4,6,7,8,10]] ?_
      iterate 5 refine op1 tok ?_ (h:=by intro C; conv=>lhs; simp [hand])
      refine qA ?_
      exact ⟨(),trivial,qD (by first | (exfalso; omega) | (clear hm1 hand hK hn3; simp [qB, *])),rfl,by first | (exfalso; omega) | (clear hm1 hand hK hn3; simp [qB, *]),by first | (exfalso; omega) | (clear hm1 hand hK hn3; simp [qB, *])⟩
     intro h108
     try simp at h108
     refine AW.skip ?_
     exact ⟨(),trivial,qD (by first | (exfalso; omega) | (clear hm1 hand hK hn3; simp [qB, *])),rfl,by first | (exfalso; omega) | (clear hm1 hand hK hn3; simp [qB, *]),by first | (exfalso; omega) | (clear hm1 hand hK hn3; simp [qB, *])⟩
    intro h100
    try simp at h100
    refine rgz [] [[],[3,4,6,7,8,10,86,100]] ?_
    iterate 2 refine op1 tok ?_
    refine qA (cnd ?_ ?_)
    ·intro h100
     try simp at h100
     refine rgz [] [[]] ?_
     refine op1 tok ?_
     refine qA ?_
     exact ⟨(),trivial,qD (by first | (exfalso; omega) | (clear hm1 hand hK hn3; simp [qB, *])),rfl,by first | (exfalso; omega) | (clear hm1 hand hK hn3; simp [qB, *]),by first | (exfalso; omega) | (clear hm1 hand hK hn3; simp [qB, *])⟩
    intro h100
    try simp at h100
    refine rgn [] [[],[3,4,6,7,8,10,86,103]] ?_
    iterate 2 refine op1 tok ?_
    refine qA (cnd ?_ ?_)
    ·intro h103
     try simp at h103
     refine rgz [] [[],[],[],[3,4,6,7,8,10]] ?_
     iterate 4 refine op1 tok ?_
     refine qA ?_
     exact ⟨(),trivial,qD (by first | (exfalso; omega) | (clear hm1 hand hK hn3; simp [qB, *])),rfl,by first | (exfalso; omega) | (clear hm1 hand hK hn3; simp [qB, *]),by first | (exfalso; omega) | (clear hm1 hand hK hn3; simp [qB, *])⟩
    intro h103
    try simp at h103
    refine rgn [] [[],[3,4,6,7,8,10,108]] ?_
    iterate 2 refine op1 tok ?_
    refine qA (cnd ?_ ?_)
    ·intro h108
     try simp at h108
     refine rgz [] [[],[],[],[],[3,4,6,7,8,10]] ?_
     iterate 5 refine op1 tok ?_ (h:=by intro C; conv=>lhs; simp [hand])
     refine qA ?_
     exact ⟨(),trivial,qD (by first | (exfalso; omega) | (clear hm1 hand hK hn3; simp [qB, *])),rfl,by first | (exfalso; omega) | (clear hm1 hand hK hn3; simp [qB, *]),by first | (exfalso; omega) | (clear hm1 hand hK hn3; simp [qB, *])⟩
    intro h108
    try simp at h108
    refine AW.skip ?_
    exact ⟨(),trivial,qD (by first | (exfalso; omega) | (clear hm1 hand hK hn3; simp [qB, *])),rfl,by first | (exfalso; omega) | (clear hm1 hand hK hn3; simp [qB, *]),by first | (exfalso; omega) | (clear hm1 hand hK hn3; simp [qB, *])⟩
   intro h87
   try simp at h87
   refine rgn [] [[],[3,4,6,7,8,10,86,87]] ?_
   iterate 2 refine op1 tok ?_
   refine qA (cnd ?_ ?_)
   ·intro h87
    try simp at h87
    refine AW.skip (cnd ?_ ?_)
    ·intro h87
     try simp at h87
     refine rgz [] [[]] ?_
     refine op1 tok ?_
     refine qA ?_
     exact ⟨(),trivial,qD (by first | (exfalso; omega) | (clear hm1 hand hK hn3; simp [qB, *])),rfl,by first | (exfalso; omega) | (clear hm1 hand hK hn3; simp [qB, *]),by first | (exfalso; omega) | (clear hm1 hand hK hn3; simp [qB, *])⟩
    intro h87
    try simp at h87
    refine AW.seq (rgn [] [[],[3,4,6,7,8,10,86,95]] ?_)
    iterate 2 refine op1 tok ?_
    refine qA (cnd ?_ ?_)
    ·intro h95
     try simp at h95
     refine AW.skip (cnd ?_ ?_)
     ·intro h95
      try simp at h95
      refine rgz [] [[]] ?_
      refine op1 tok ?_
      refine qA ?_
      exact ⟨(),trivial,qD (by first | (exfalso; omega) | (clear hm1 hand hK hn3; simp [qB, *])),rfl,by first | (exfalso; omega) | (clear hm1 hand hK hn3; simp [qB, *]),by first | (exfalso; omega) | (clear hm1 hand hK hn3; simp [qB, *])⟩
     intro h95
     try simp at h95
     refine AW.seq (rgn [] [[],[3,4,6,7,8,10,86,100]] ?_)
     iterate 2 refine op1 tok ?_
     refine qA (cnd ?_ ?_)
     ·intro h100
      try simp at h100
      refine AW.skip (cnd ?_ ?_)
      ·intro h100
       try simp at h100
       refine rgz [] [[]] ?_
       refine op1 tok ?_
       refine qA ?_
       exact ⟨(),trivial,qD (by first | (exfalso; omega) | (clear hm1 hand hK hn3; simp [qB, *])),rfl,by first | (exfalso; omega) | (clear hm1 hand hK hn3; simp [qB, *]),by first | (exfalso; omega) | (clear hm1 hand hK hn3; simp [qB, *])⟩
      intro h100
      try simp at h100
      refine rgn [] [[],[3,4,6,7,8,10,86,103]] ?_
      iterate 2 refine op1 tok ?_
      refine qA (cnd ?_ ?_)
      ·intro h103
       try simp at h103
       refine rgz [] [[],[],[],[3,4,6,7,8,10]] ?_
       iterate 4 refine op1 tok ?_
       refine qA ?_
       exact ⟨(),trivial,qD (by first | (exfalso; omega) | (clear hm1 hand hK hn3; simp [qB, *])),rfl,by first | (exfalso; omega) | (clear hm1 hand hK hn3; simp [qB, *]),by first | (exfalso; omega) | (clear hm1 hand hK hn3; simp [qB, *])⟩
      intro h103
      try simp at h103
      refine rgn [] [[],[3,4,6,7,8,10,108]] ?_
      iterate 2 refine op1 tok ?_
      refine qA (cnd ?_ ?_)
      ·intro h108
       try simp at h108
       refine rgz [] [[],[],[],[],[3,4,6,7,8,10]] ?_
       iterate 5 refine op1 tok ?_ (h:=by intro C; conv=>lhs; simp [hand])
       refine qA ?_
       exact ⟨(),trivial,qD (by first | (exfalso; omega) | (clear hm1 hand hK hn3; simp [qB, *])),rfl,by first | (exfalso; omega) | (clear hm1 hand hK hn3; simp [qB, *]),by first | (exfalso; omega) | (clear hm1 hand hK hn3; simp [qB, *])⟩
      intro h108
      try simp at h108
      refine AW.skip ?_
      exact ⟨(),trivial,qD (by first | (exfalso; omega) | (clear hm1 hand hK hn3; simp [qB, *])),rfl,by first | (exfalso; omega) | (clear hm1 hand hK hn3; simp [qB, *]),by first | (exfalso; omega) | (clear hm1 hand hK hn3; simp [qB, *])⟩
     intro h100
     try simp at h100
     refine rgz [] [[],[3,4,6,7,8,10,86,100]] ?_
     iterate 2 refine op1 tok ?_
     refine qA (cnd ?_ ?_)
     ·intro h100
      try simp at h100
      refine rgz [] [[]] ?_
      refine op1 tok ?_
      refine qA ?_
      exact ⟨(),trivial,qD (by first | (exfalso; omega) | (clear hm1 hand hK hn3; simp [qB, *])),rfl,by first | (exfalso; omega) | (clear hm1 hand hK hn3; simp [qB, *]),by first | (exfalso; omega) | (clear hm1 hand hK hn3; simp [qB, *])⟩
     intro h100
     try simp at h100
     refine rgn [] [[],[3,4,6,7,8,10,86,103]] ?_
     iterate 2 refine op1 tok ?_
     refine qA (cnd ?_ ?_)
     ·intro h103
      try simp at h103
      refine rgz [] [[],[],[],[3,4,6,7,8,10]] ?_
      iterate 4 refine op1 tok ?_
      refine qA ?_
      exact ⟨(),trivial,qD (by first | (exfalso; omega) | (clear hm1 hand hK hn3; simp [qB, *])),rfl,by first | (exfalso; omega) | (clear hm1 hand hK hn3; simp [qB, *]),by first | (exfalso; omega) | (clear hm1 hand hK hn3; simp [qB, *])⟩
     intro h103
     try simp at h103
     refine rgn [] [[],[3,4,6,7,8,10,108]] ?_
     iterate 2 refine op1 tok ?_
     refine qA (cnd ?_ ?_)
     ·intro h108
      try simp at h108
      refine rgz [] [[],[],[],[],[3,4,6,7,8,10]] ?_
      iterate 5 refine op1 tok ?_ (h:=by intro C; conv=>lhs; simp [hand])
      refine qA ?_
      exact ⟨(),trivial,qD (by first | (exfalso; omega) | (clear hm1 hand hK hn3; simp [qB, *])),rfl,by first | (exfalso; omega) | (clear hm1 hand hK hn3; simp [qB, *]),by first | (exfalso; omega) | (clear hm1 hand hK hn3; simp [qB, *])⟩
     intro h108
     try simp at h108
     refine AW.skip ?_
     exact ⟨(),trivial,qD (by first | (exfalso; omega) | (clear hm1 hand hK hn3; simp [qB, *])),rfl,by first | (exfalso; omega) | (clear hm1 hand hK hn3; simp [qB, *]),by first | (exfalso; omega) | (clear hm1 hand hK hn3; simp [qB, *])⟩
    intro h95
    try simp at h95
    refine rgn [] [[],[3,4,6,7,8,10,86,95]] ?_
    iterate 2 refine op1 tok ?_
    refine qA (cnd ?_ ?_)
    ·intro h95
     try simp at h95
     refine AW.skip (cnd ?_ ?_)
     ·intro h95
      try simp at h95
      refine rgz [] [[]] ?_
      refine op1 tok ?_
      refine qA ?_
      exact ⟨(),trivial,qD (by first | (exfalso; omega) | (clear hm1 hand hK hn3; simp [qB, *])),rfl,by first | (exfalso; omega) | (clear hm1 hand hK hn3; simp [qB, *]),by first | (exfalso; omega) | (clear hm1 hand hK hn3; simp [qB, *])⟩
     intro h95
     try simp at h95
     refine AW.seq (rgn [] [[],[3,4,6,7,8,10,86,100]] ?_)
     iterate 2 refine op1 tok ?_
     refine qA (cnd ?_ ?_)
     ·intro h100
      try simp at h100
      refine AW.skip (cnd ?_ ?_)
      ·intro h100
       try simp at h100
       refine rgz [] [[]] ?_
       refine op1 tok ?_
       refine qA ?_
       exact ⟨(),trivial,qD (by first | (exfalso; omega) | (clear hm1 hand hK hn3; simp [qB, *])),rfl,by first | (exfalso; omega) | (clear hm1 hand hK hn3; simp [qB, *]),by first | (exfalso; omega) | (clear hm1 hand hK hn3; simp [qB, *])⟩
      intro h100
      try simp at h100
      refine rgn [] [[],[3,4,6,7,8,10,86,103]] ?_
      iterate 2 refine op1 tok ?_
      refine qA (cnd ?_ ?_)
      ·intro h103
       try simp at h103
       refine rgz [] [[],[],[],[3,4,6,7,8,10]] ?_
       iterate 4 refine op1 tok ?_
       refine qA ?_
       exact ⟨(),trivial,qD (by first | (exfalso; omega) | (clear hm1 hand hK hn3; simp [qB, *])),rfl,by first | (exfalso; omega) | (clear hm1 hand hK hn3; simp [qB, *]),by first | (exfalso; omega) | (clear hm1 hand hK hn3; simp [qB, *])⟩
      intro h103
      try simp at h103
      refine rgn [] [[],[3,4,6,7,8,10,108]] ?_
      iterate 2 refine op1 tok ?_
      refine qA (cnd ?_ ?_)
      ·intro h108
       try simp at h108
       refine rgz [] [[],[],[],[],[3,4,6,7,8,10]] ?_
       iterate 5 refine op1 tok ?_ (h:=by intro C; conv=>lhs; simp [hand])
       refine qA ?_
       exact ⟨(),trivial,qD (by first | (exfalso; omega) | (clear hm1 hand hK hn3; simp [qB, *])),rfl,by first | (exfalso; omega) | (clear hm1 hand hK hn3; simp [qB, *]),by first | (exfalso; omega) | (clear hm1 hand hK hn3; simp [qB, *])⟩
      intro h108
      try simp at h108
      refine AW.skip ?_
      exact ⟨(),trivial,qD (by first | (exfalso; omega) | (clear hm1 hand hK hn3; simp [qB, *])),rfl,by first | (exfalso; omega) | (clear hm1 hand hK hn3; simp [qB, *]),by first | (exfalso; omega) | (clear hm1 hand hK hn3; simp [qB, *])⟩
     intro h100
     try simp at h100
     refine rgz [] [[],[3,4,6,7,8,10,86,100]] ?_
     iterate 2 refine op1 tok ?_
     refine qA (cnd ?_ ?_)
     ·intro h100
      try simp at h100
      refine rgz [] [[]] ?_
      refine op1 tok ?_
      refine qA ?_
      exact ⟨(),trivial,qD (by first | (exfalso; omega) | (clear hm1 hand hK hn3; simp [qB, *])),rfl,by first | (exfalso; omega) | (clear hm1 hand hK hn3; simp [qB, *]),by first | (exfalso; omega) | (clear hm1 hand hK hn3; simp [qB, *])⟩
     intro h100
     try simp at h100
     refine rgn [] [[],[3,4,6,7,8,10,86,103]] ?_
     iterate 2 refine op1 tok ?_
     refine qA (cnd ?_ ?_)
     ·intro h103
      try simp at h103
      refine rgz [] [[],[],[],[3,4,6,7,8,10]] ?_
      iterate 4 refine op1 tok ?_
      refine qA ?_
      exact ⟨(),trivial,qD (by first | (exfalso; omega) | (clear hm1 hand hK hn3; simp [qB, *])),rfl,by first | (exfalso; omega) | (clear hm1 hand hK hn3; simp [qB, *]),by first | (exfalso; omega) | (clear hm1 hand hK hn3; simp [qB, *])⟩
     intro h103
     try simp at h103
     refine rgn [] [[],[3,4,6,7,8,10,108]] ?_
     iterate 2 refine op1 tok ?_
     refine qA (cnd ?_ ?_)
     ·intro h108
      try simp at h108
      refine rgz [] [[],[],[],[],[3,4,6,7,8,10]] ?_
      iterate 5 refine op1 tok ?_ (h:=by intro C; conv=>lhs; simp [hand])
      refine qA ?_
      exact ⟨(),trivial,qD (by first | (exfalso; omega) | (clear hm1 hand hK hn3; simp [qB, *])),rfl,by first | (exfalso; omega) | (clear hm1 hand hK hn3; simp [qB, *]),by first | (exfalso; omega) | (clear hm1 hand hK hn3; simp [qB, *])⟩
     intro h108
     try simp at h108
     refine AW.skip ?_
     exact ⟨(),trivial,qD (by first | (exfalso; omega) | (clear hm1 hand hK hn3; simp [qB, *])),rfl,by first | (exfalso; omega) | (clear hm1 hand hK hn3; simp [qB, *]),by first | (exfalso; omega) | (clear hm1 hand hK hn3; simp [qB, *])⟩
    intro h95
    try simp at h95
    refine rgn [] [[],[3,4,6,7,8,10,86,95]] ?_
    iterate 2 refine op1 tok ?_
    refine qA (cnd ?_ ?_)
    ·intro h95
     try simp at h95
     refine AW.skip (cnd ?_ ?_)
     ·intro h95
      try simp at h95
      refine rgz [] [[]] ?_
      refine op1 tok ?_
      refine qA ?_
      exact ⟨(),trivial,qD (by first | (exfalso; omega) | (clear hm1 hand hK hn3; simp [qB, *])),rfl,by first | (exfalso; omega) | (clear hm1 hand hK hn3; simp [qB, *]),by first | (exfalso; omega) | (clear hm1 hand hK hn3; simp [qB, *])⟩
     intro h95
     try simp at h95
     refine AW.seq (rgn [] [[],[3,4,6,7,8,10,86,100]] ?_)
     iterate 2 refine op1 tok ?_
     refine qA (cnd ?_ ?_)
     ·intro h100
      try simp at h100
      refine AW.skip (cnd ?_ ?_)
      ·intro h100
       try simp at h100
       refine rgz [] [[]] ?_
       refine op1 tok ?_
       refine qA ?_
       exact ⟨(),trivial,qD (by first | (exfalso; omega) | (clear hm1 hand hK hn3; simp [qB, *])),rfl,by first | (exfalso; omega) | (clear hm1 hand hK hn3; simp [qB, *]),by first | (exfalso; omega) | (clear hm1 hand hK hn3; simp [qB, *])⟩
      intro h100
      try simp at h100
      refine rgn [] [[],[3,4,6,7,8,10,86,103]] ?_
      iterate 2 refine op1 tok ?_
      refine qA (cnd ?_ ?_)
      ·intro h103
       try simp at h103
       refine rgz [] [[],[],[],[3,4,6,7,8,10]] ?_
       iterate 4 refine op1 tok ?_
       refine qA ?_
       exact ⟨(),trivial,qD (by first | (exfalso; omega) | (clear hm1 hand hK hn3; simp [qB, *])),rfl,by first | (exfalso; omega) | (clear hm1 hand hK hn3; simp [qB, *]),by first | (exfalso; omega) | (clear hm1 hand hK hn3; simp [qB, *])⟩
      intro h103
      try simp at h103
      refine rgn [] [[],[3,4,6,7,8,10,108]] ?_
      iterate 2 refine op1 tok ?_
      refine qA (cnd ?_ ?_)
      ·intro h108
       try simp at h108
       refine rgz [] [[],[],[],[],[3,4,6,7,8,10]] ?_
       iterate 5 refine op1 tok ?_ (h:=by intro C; conv=>lhs; simp [hand])
       refine qA ?_
       exact ⟨(),trivial,qD (by first | (exfalso; omega) | (clear hm1 hand hK hn3; simp [qB, *])),rfl,by first | (exfalso; omega) | (clear hm1 hand hK hn3; simp [qB, *]),by first | (exfalso; omega) | (clear hm1 hand hK hn3; simp [qB, *])⟩
      intro h108
      try simp at h108
      refine AW.skip ?_
      exact ⟨(),trivial,qD (by first | (exfalso; omega) | (clear hm1 hand hK hn3; simp [qB, *])),rfl,by first | (exfalso; omega) | (clear hm1 hand hK hn3; simp [qB, *]),by first | (exfalso; omega) | (clear hm1 hand hK hn3; simp [qB, *])⟩
     intro h100
     try simp at h100
     refine rgz [] [[],[3,4,6,7,8,10,86,100]] ?_
     iterate 2 refine op1 tok ?_
     refine qA (cnd ?_ ?_)
     ·intro h100
      try simp at h100
      refine rgz [] [[]] ?_
      refine op1 tok ?_
      refine qA ?_
      exact ⟨(),trivial,qD (by first | (exfalso; omega) | (clear hm1 hand hK hn3; simp [qB, *])),rfl,by first | (exfalso; omega) | (clear hm1 hand hK hn3; simp [qB, *]),by first | (exfalso; omega) | (clear hm1 hand hK hn3; simp [qB, *])⟩
     intro h100
     try simp at h100
     refine rgn [] [[],[3,4,6,7,8,10,86,103]] ?_
     iterate 2 refine op1 tok ?_
     refine qA (cnd ?_ ?_)
     ·intro h103
      try simp at h103
      refine rgz [] [[],[],[],[3,4,6,7,8,10]] ?_
      iterate 4 refine op1 tok ?_
      refine qA ?_
      exact ⟨(),trivial,qD (by first | (exfalso; omega) | (clear hm1 hand hK hn3; simp [qB, *])),rfl,by first | (exfalso; omega) | (clear hm1 hand hK hn3; simp [qB, *]),by first | (exfalso; omega) | (clear hm1 hand hK hn3; simp [qB, *])⟩
     intro h103
     try simp at h103
     refine rgn [] [[],[3,4,6,7,8,10,108]] ?_
     iterate 2 refine op1 tok ?_
     refine qA (cnd ?_ ?_)
     ·intro h108
      try simp at h108
      refine rgz [] [[],[],[],[],[3,4,6,7,8,10]] ?_
      iterate 5 refine op1 tok ?_ (h:=by intro C; conv=>lhs; simp [hand])
      refine qA ?_
      exact ⟨(),trivial,qD (by first | (exfalso; omega) | (clear hm1 hand hK hn3; simp [qB, *])),rfl,by first | (exfalso; omega) | (clear hm1 hand hK hn3; simp [qB, *]),by first | (exfalso; omega) | (clear hm1 hand hK hn3; simp [qB, *])⟩
     intro h108
     try simp at h108
     refine AW.skip ?_
     exact ⟨(),trivial,qD (by first | (exfalso; omega) | (clear hm1 hand hK hn3; simp [qB, *])),rfl,by first | (exfalso; omega) | (clear hm1 hand hK hn3; simp [qB, *]),by first | (exfalso; omega) | (clear hm1 hand hK hn3; simp [qB, *])⟩
    intro h95
    try simp at h95
    refine rgz [] [[],[3,4,6,7,8,10,86,95]] ?_
    iterate 2 refine op1 tok ?_
    refine qA (cnd ?_ ?_)
    ·intro h95
     try simp at h95
     refine rgz [] [[]] ?_
     refine op1 tok ?_
     refine qA ?_
     exact ⟨(),trivial,qD (by first | (exfalso; omega) | (clear hm1 hand hK hn3; simp [qB, *])),rfl,by first | (exfalso; omega) | (clear hm1 hand hK hn3; simp [qB, *]),by first | (exfalso; omega) | (clear hm1 hand hK hn3; simp [qB, *])⟩
    intro h95
    try simp at h95
    refine AW.seq (rgn [] [[],[3,4,6,7,8,10,86,100]] ?_)
    iterate 2 refine op1 tok ?_
    refine qA (cnd ?_ ?_)
    ·intro h100
     try simp at h100
     refine AW.skip (cnd ?_ ?_)
     ·intro h100
      try simp at h100
      refine rgz [] [[]] ?_
      refine op1 tok ?_
      refine qA ?_
      exact ⟨(),trivial,qD (by first | (exfalso; omega) | (clear hm1 hand hK hn3; simp [qB, *])),rfl,by first | (exfalso; omega) | (clear hm1 hand hK hn3; simp [qB, *]),by first | (exfalso; omega) | (clear hm1 hand hK hn3; simp [qB, *])⟩
     intro h100
     try simp at h100
     refine rgn [] [[],[3,4,6,7,8,10,86,103]] ?_
     iterate 2 refine op1 tok ?_
     refine qA (cnd ?_ ?_)
     ·intro h103
      try simp at h103
      refine rgz [] [[],[],[],[3,4,6,7,8,10]] ?_
      iterate 4 refine op1 tok ?_
      refine qA ?_
      exact ⟨(),trivial,qD (by first | (exfalso; omega) | (clear hm1 hand hK hn3; simp [qB, *])),rfl,by first | (exfalso; omega) | (clear hm1 hand hK hn3; simp [qB, *]),by first | (exfalso; omega) | (clear hm1 hand hK hn3; simp [qB, *])⟩
     intro h103
     try simp at h103
     refine rgn [] [[],[3,4,6,7,8,10,108]] ?_
     iterate 2 refine op1 tok ?_
     refine qA (cnd ?_ ?_)
     ·intro h108
      try simp at h108
      refine rgz [] [[],[],[],[],[3,4,6,7,8,10]] ?_
      iterate 5 refine op1 tok ?_ (h:=by intro C; conv=>lhs; simp [hand])
      refine qA ?_
      exact ⟨(),trivial,qD (by first | (exfalso; omega) | (clear hm1 hand hK hn3; simp [qB, *])),rfl,by first | (exfalso; omega) | (clear hm1 hand hK hn3; simp [qB, *]),by first | (exfalso; omega) | (clear hm1 hand hK hn3; simp [qB, *])⟩
     intro h108
     try simp at h108
     refine AW.skip ?_
     exact ⟨(),trivial,qD (by first | (exfalso; omega) | (clear hm1 hand hK hn3; simp [qB, *])),rfl,by first | (exfalso; omega) | (clear hm1 hand hK hn3; simp [qB, *]),by first | (exfalso; omega) | (clear hm1 hand hK hn3; simp [qB, *])⟩
    intro h100
    try simp at h100
    refine rgz [] [[],[3,4,6,7,8,10,86,100]] ?_
    iterate 2 refine op1 tok ?_
    refine qA (cnd ?_ ?_)
    ·intro h100
     try simp at h100
     refine rgz [] [[]] ?_
     refine op1 tok ?_
     refine qA ?_
     exact ⟨(),trivial,qD (by first | (exfalso; omega) | (clear hm1 hand hK hn3; simp [qB, *])),rfl,by first | (exfalso; omega) | (clear hm1 hand hK hn3; simp [qB, *]),by first | (exfalso; omega) | (clear hm1 hand hK hn3; simp [qB, *])⟩
    intro h100
    try simp at h100
    refine rgn [] [[],[3,4,6,7,8,10,86,103]] ?_
    iterate 2 refine op1 tok ?_
    refine qA (cnd ?_ ?_)
    ·intro h103
     try simp at h103
     refine rgz [] [[],[],[],[3,4,6,7,8,10]] ?_
     iterate 4 refine op1 tok ?_
     refine qA ?_
     exact ⟨(),trivial,qD (by first | (exfalso; omega) | (clear hm1 hand hK hn3; simp [qB, *])),rfl,by first | (exfalso; omega) | (clear hm1 hand hK hn3; simp [qB, *]),by first | (exfalso; omega) | (clear hm1 hand hK hn3; simp [qB, *])⟩
    intro h103
    try simp at h103
    refine rgn [] [[],[3,4,6,7,8,10,108]] ?_
    iterate 2 refine op1 tok ?_
    refine qA (cnd ?_ ?_)
    ·intro h108
     try simp at h108
     refine rgz [] [[],[],[],[],[3,4,6,7,8,10]] ?_
     iterate 5 refine op1 tok ?_ (h:=by intro C; conv=>lhs; simp [hand])
     refine qA ?_
     exact ⟨(),trivial,qD (by first | (exfalso; omega) | (clear hm1 hand hK hn3; simp [qB, *])),rfl,by first | (exfalso; omega) | (clear hm1 hand hK hn3; simp [qB, *]),by first | (exfalso; omega) | (clear hm1 hand hK hn3; simp [qB, *])⟩
    intro h108
    try simp at h108
    refine AW.skip ?_
    exact ⟨(),trivial,qD (by first | (exfalso; omega) | (clear hm1 hand hK hn3; simp [qB, *])),rfl,by first | (exfalso; omega) | (clear hm1 hand hK hn3; simp [qB, *]),by first | (exfalso; omega) | (clear hm1 hand hK hn3; simp [qB, *])⟩
   intro h87
   try simp at h87
   refine rgz [] [[],[3,4,6,7,8,10,86,87]] ?_
   iterate 2 refine op1 tok ?_
   refine qA (cnd ?_ ?_)
   ·intro h87
    try simp at h87
    refine rgz [] [[]] ?_
    refine op1 tok ?_
    refine qA ?_
    exact ⟨(),trivial,qD (by first | (exfalso; omega) | (clear hm1 hand hK hn3; simp [qB, *])),rfl,by first | (exfalso; omega) | (clear hm1 hand hK hn3; simp [qB, *]),by first | (exfalso; omega) | (clear hm1 hand hK hn3; simp [qB, *])⟩
   intro h87
   try simp at h87
   refine AW.seq (rgn [] [[],[3,4,6,7,8,10,86,95]] ?_)
   iterate 2 refine op1 tok ?_
   refine qA (cnd ?_ ?_)
   ·intro h95
    try simp at h95
    refine AW.skip (cnd ?_ ?_)
    ·intro h95
     try simp at h95
     refine rgz [] [[]] ?_
     refine op1 tok ?_
     refine qA ?_
     exact ⟨(),trivial,qD (by first | (exfalso; omega) | (clear hm1 hand hK hn3; simp [qB, *])),rfl,by first | (exfalso; omega) | (clear hm1 hand hK hn3; simp [qB, *]),by first | (exfalso; omega) | (clear hm1 hand hK hn3; simp [qB, *])⟩
    intro h95
    try simp at h95
    refine AW.seq (rgn [] [[],[3,4,6,7,8,10,86,100]] ?_)
    iterate 2 refine op1 tok ?_
    refine qA (cnd ?_ ?_)
    ·intro h100
     try simp at h100
     refine AW.skip (cnd ?_ ?_)
     ·intro h100
      try simp at h100
      refine rgz [] [[]] ?_
      refine op1 tok ?_
      refine qA ?_
      exact ⟨(),trivial,qD (by first | (exfalso; omega) | (clear hm1 hand hK hn3; simp [qB, *])),rfl,by first | (exfalso; omega) | (clear hm1 hand hK hn3; simp [qB, *]),by first | (exfalso; omega) | (clear hm1 hand hK hn3; simp [qB, *])⟩
     intro h100
     try simp at h100
     refine rgn [] [[],[3,4,6,7,8,10,86,103]] ?_
     iterate 2 refine op1 tok ?_
     refine qA (cnd ?_ ?_)
     ·intro h103
      try simp at h103
      refine rgz [] [[],[],[],[3,4,6,7,8,10]] ?_
      iterate 4 refine op1 tok ?_
      refine qA ?_
      exact ⟨(),trivial,qD (by first | (exfalso; omega) | (clear hm1 hand hK hn3; simp [qB, *])),rfl,by first | (exfalso; omega) | (clear hm1 hand hK hn3; simp [qB, *]),by first | (exfalso; omega) | (clear hm1 hand hK hn3; simp [qB, *])⟩
     intro h103
     try simp at h103
     refine rgn [] [[],[3,4,6,7,8,10,108]] ?_
     iterate 2 refine op1 tok ?_
     refine qA (cnd ?_ ?_)
     ·intro h108
      try simp at h108
      refine rgz [] [[],[],[],[],[3,4,6,7,8,10]] ?_
      iterate 5 refine op1 tok ?_ (h:=by intro C; conv=>lhs; simp [hand])
      refine qA ?_
      exact ⟨(),trivial,qD (by first | (exfalso; omega) | (clear hm1 hand hK hn3; simp [qB, *])),rfl,by first | (exfalso; omega) | (clear hm1 hand hK hn3; simp [qB, *]),by first | (exfalso; omega) | (clear hm1 hand hK hn3; simp [qB, *])⟩
     intro h108
     try simp at h108
     refine AW.skip ?_
     exact ⟨(),trivial,qD (by first | (exfalso; omega) | (clear hm1 hand hK hn3; simp [qB, *])),rfl,by first | (exfalso; omega) | (clear hm1 hand hK hn3; simp [qB, *]),by first | (exfalso; omega) | (clear hm1 hand hK hn3; simp [qB, *])⟩
    intro h100
    try simp at h100
    refine rgz [] [[],[3,4,6,7,8,10,86,100]] ?_
    iterate 2 refine op1 tok ?_
    refine qA (cnd ?_ ?_)
    ·intro h100
     try simp at h100
     refine rgz [] [[]] ?_
     refine op1 tok ?_
     refine qA ?_
     exact ⟨(),trivial,qD (by first | (exfalso; omega) | (clear hm1 hand hK hn3; simp [qB, *])),rfl,by first | (exfalso; omega) | (clear hm1 hand hK hn3; simp [qB, *]),by first | (exfalso; omega) | (clear hm1 hand hK hn3; simp [qB, *])⟩
    intro h100
    try simp at h100
    refine rgn [] [[],[3,4,6,7,8,10,86,103]] ?_
    iterate 2 refine op1 tok ?_
    refine qA (cnd ?_ ?_)
    ·intro h103
     try simp at h103
     refine rgz [] [[],[],[],[3,4,6,7,8,10]] ?_
     iterate 4 refine op1 tok ?_
     refine qA ?_
     exact ⟨(),trivial,qD (by first | (exfalso; omega) | (clear hm1 hand hK hn3; simp [qB, *])),rfl,by first | (exfalso; omega) | (clear hm1 hand hK hn3; simp [qB, *]),by first | (exfalso; omega) | (clear hm1 hand hK hn3; simp [qB, *])⟩
    intro h103
    try simp at h103
    refine rgn [] [[],[3,4,6,7,8,10,108]] ?_
    iterate 2 refine op1 tok ?_
    refine qA (cnd ?_ ?_)
    ·intro h108
     try simp at h108
     refine rgz [] [[],[],[],[],[3,4,6,7,8,10]] ?_
     iterate 5 refine op1 tok ?_ (h:=by intro C; conv=>lhs; simp [hand])
     refine qA ?_
     exact ⟨(),trivial,qD (by first | (exfalso; omega) | (clear hm1 hand hK hn3; simp [qB, *])),rfl,by first | (exfalso; omega) | (clear hm1 hand hK hn3; simp [qB, *]),by first | (exfalso; omega) | (clear hm1 hand hK hn3; simp [qB, *])⟩
    intro h108
    try simp at h108
    refine AW.skip ?_
    exact ⟨(),trivial,qD (by first | (exfalso; omega) | (clear hm1 hand hK hn3; simp [qB, *])),rfl,by first | (exfalso; omega) | (clear hm1 hand hK hn3; simp [qB, *]),by first | (exfalso; omega) | (clear hm1 hand hK hn3; simp [qB, *])⟩
   intro h95
   try simp at h95
   refine rgn [] [[],[3,4,6,7,8,10,86,95]] ?_
   iterate 2 refine op1 tok ?_
   refine qA (cnd ?_ ?_)
   ·intro h95
    try simp at h95
    refine AW.skip (cnd ?_ ?_)
    ·intro h95
     try simp at h95
     refine rgz [] [[]] ?_
     refine op1 tok ?_
     refine qA ?_
     exact ⟨(),trivial,qD (by first | (exfalso; omega) | (clear hm1 hand hK hn3; simp [qB, *])),rfl,by first | (exfalso; omega) | (clear hm1 hand hK hn3; simp [qB, *]),by first | (exfalso; omega) | (clear hm1 hand hK hn3; simp [qB, *])⟩
    intro h95
    try simp at h95
    refine AW.seq (rgn [] [[],[3,4,6,7,8,10,86,100]] ?_)
    iterate 2 refine op1 tok ?_
    refine qA (cnd ?_ ?_)
    ·intro h100
     try simp at h100
     refine AW.skip (cnd ?_ ?_)
     ·intro h100
      try simp at h100
      refine rgz [] [[]] ?_
      refine op1 tok ?_
      refine qA ?_
      exact ⟨(),trivial,qD (by first | (exfalso; omega) | (clear hm1 hand hK hn3; simp [qB, *])),rfl,by first | (exfalso; omega) | (clear hm1 hand hK hn3; simp [qB, *]),by first | (exfalso; omega) | (clear hm1 hand hK hn3; simp [qB, *])⟩
     intro h100
     try simp at h100
     refine rgn [] [[],[3,4,6,7,8,10,86,103]] ?_
     iterate 2 refine op1 tok ?_
     refine qA (cnd ?_ ?_)
     ·intro h103
      try simp at h103
      refine rgz [] [[],[],[],[3,4,6,7,8,10]] ?_
      iterate 4 refine op1 tok ?_
      refine qA ?_
      exact ⟨(),trivial,qD (by first | (exfalso; omega) | (clear hm1 hand hK hn3; simp [qB, *])),rfl,by first | (exfalso; omega) | (clear hm1 hand hK hn3; simp [qB, *]),by first | (exfalso; omega) | (clear hm1 hand hK hn3; simp [qB, *])⟩
     intro h103
     try simp at h103
     refine rgn [] [[],[3,4,6,7,8,10,108]] ?_
     iterate 2 refine op1 tok ?_
     refine qA (cnd ?_ ?_)
     ·intro h108
      try simp at h108
      refine rgz [] [[],[],[],[],[3,4,6,7,8,10]] ?_
      iterate 5 refine op1 tok ?_ (h:=by intro C; conv=>lhs; simp [hand])
      refine qA ?_
      exact ⟨(),trivial,qD (by first | (exfalso; omega) | (clear hm1 hand hK hn3; simp [qB, *])),rfl,by first | (exfalso; omega) | (clear hm1 hand hK hn3; simp [qB, *]),by first | (exfalso; omega) | (clear hm1 hand hK hn3; simp [qB, *])⟩
     intro h108
     try simp at h108
     refine AW.skip ?_
     exact ⟨(),trivial,qD (by first | (exfalso; omega) | (clear hm1 hand hK hn3; simp [qB, *])),rfl,by first | (exfalso; omega) | (clear hm1 hand hK hn3; simp [qB, *]),by first | (exfalso; omega) | (clear hm1 hand hK hn3; simp [qB, *])⟩
    intro h100
    try simp at h100
    refine rgz [] [[],[3,4,6,7,8,10,86,100]] ?_
    iterate 2 refine op1 tok ?_
    refine qA (cnd ?_ ?_)
    ·intro h100
     try simp at h100
     refine rgz [] [[]] ?_
     refine op1 tok ?_
     refine qA ?_
     exact ⟨(),trivial,qD (by first | (exfalso; omega) | (clear hm1 hand hK hn3; simp [qB, *])),rfl,by first | (exfalso; omega) | (clear hm1 hand hK hn3; simp [qB, *]),by first | (exfalso; omega) | (clear hm1 hand hK hn3; simp [qB, *])⟩
    intro h100
    try simp at h100
    refine rgn [] [[],[3,4,6,7,8,10,86,103]] ?_
    iterate 2 refine op1 tok ?_
    refine qA (cnd ?_ ?_)
    ·intro h103
     try simp at h103
     refine rgz [] [[],[],[],[3,4,6,7,8,10]] ?_
     iterate 4 refine op1 tok ?_
     refine qA ?_
     exact ⟨(),trivial,qD (by first | (exfalso; omega) | (clear hm1 hand hK hn3; simp [qB, *])),rfl,by first | (exfalso; omega) | (clear hm1 hand hK hn3; simp [qB, *]),by first | (exfalso; omega) | (clear hm1 hand hK hn3; simp [qB, *])⟩
    intro h103
    try simp at h103
    refine rgn [] [[],[3,4,6,7,8,10,108]] ?_
    iterate 2 refine op1 tok ?_
    refine qA (cnd ?_ ?_)
    ·intro h108
     try simp at h108
     refine rgz [] [[],[],[],[],[3,4,6,7,8,10]] ?_
     iterate 5 refine op1 tok ?_ (h:=by intro C; conv=>lhs; simp [hand])
     refine qA ?_
     exact ⟨(),trivial,qD (by first | (exfalso; omega) | (clear hm1 hand hK hn3; simp [qB, *])),rfl,by first | (exfalso; omega) | (clear hm1 hand hK hn3; simp [qB, *]),by first | (exfalso; omega) | (clear hm1 hand hK hn3; simp [qB, *])⟩
    intro h108
    try simp at h108
    refine AW.skip ?_
    exact ⟨(),trivial,qD (by first | (exfalso; omega) | (clear hm1 hand hK hn3; simp [qB, *])),rfl,by first | (exfalso; omega) | (clear hm1 hand hK hn3; simp [qB, *]),by first | (exfalso; omega) | (clear hm1 hand hK hn3; simp [qB, *])⟩
   intro h95
   try simp at h95
   refine rgn [] [[],[3,4,6,7,8,10,86,95]] ?_
   iterate 2 refine op1 tok ?_
   refine qA (cnd ?_ ?_)
   ·intro h95
    try simp at h95
    refine AW.skip (cnd ?_ ?_)
    ·intro h95
     try simp at h95
     refine rgz [] [[]] ?_
     refine op1 tok ?_
     refine qA ?_
     exact ⟨(),trivial,qD (by first | (exfalso; omega) | (clear hm1 hand hK hn3; simp [qB, *])),rfl,by first | (exfalso; omega) | (clear hm1 hand hK hn3; simp [qB, *]),by first | (exfalso; omega) | (clear hm1 hand hK hn3; simp [qB, *])⟩
    intro h95
    try simp at h95
    refine AW.seq (rgn [] [[],[3,4,6,7,8,10,86,100]] ?_)
    iterate 2 refine op1 tok ?_
    refine qA (cnd ?_ ?_)
    ·intro h100
     try simp at h100
     refine AW.skip (cnd ?_ ?_)
     ·intro h100
      try simp at h100
      refine rgz [] [[]] ?_
      refine op1 tok ?_
      refine qA ?_
      exact ⟨(),trivial,qD (by first | (exfalso; omega) | (clear hm1 hand hK hn3; simp [qB, *])),rfl,by first | (exfalso; omega) | (clear hm1 hand hK hn3; simp [qB, *]),by first | (exfalso; omega) | (clear hm1 hand hK hn3; simp [qB, *])⟩
     intro h100
     try simp at h100
     refine rgn [] [[],[3,4,6,7,8,10,86,103]] ?_
     iterate 2 refine op1 tok ?_
     refine qA (cnd ?_ ?_)
     ·intro h103
      try simp at h103
      refine rgz [] [[],[],[],[3,4,6,7,8,10]] ?_
      iterate 4 refine op1 tok ?_
      refine qA ?_
      exact ⟨(),trivial,qD (by first | (exfalso; omega) | (clear hm1 hand hK hn3; simp [qB, *])),rfl,by first | (exfalso; omega) | (clear hm1 hand hK hn3; simp [qB, *]),by first | (exfalso; omega) | (clear hm1 hand hK hn3; simp [qB, *])⟩
     intro h103
     try simp at h103
     refine rgn [] [[],[3,4,6,7,8,10,108]] ?_
     iterate 2 refine op1 tok ?_
     refine qA (cnd ?_ ?_)
     ·intro h108
      try simp at h108
      refine rgz [] [[],[],[],[],[3,4,6,7,8,10]] ?_
      iterate 5 refine op1 tok ?_ (h:=by intro C; conv=>lhs; simp [hand])
      refine qA ?_
      exact ⟨(),trivial,qD (by first | (exfalso; omega) | (clear hm1 hand hK hn3; simp [qB, *])),rfl,by first | (exfalso; omega) | (clear hm1 hand hK hn3; simp [qB, *]),by first | (exfalso; omega) | (clear hm1 hand hK hn3; simp [qB, *])⟩
     intro h108
     try simp at h108
     refine AW.skip ?_
     exact ⟨(),trivial,qD (by first | (exfalso; omega) | (clear hm1 hand hK hn3; simp [qB, *])),rfl,by first | (exfalso; omega) | (clear hm1 hand hK hn3; simp [qB, *]),by first | (exfalso; omega) | (clear hm1 hand hK hn3; simp [qB, *])⟩
    intro h100
    try simp at h100
    refine rgz [] [[],[3,4,6,7,8,10,86,100]] ?_
    iterate 2 refine op1 tok ?_
    refine qA (cnd ?_ ?_)
    ·intro h100
     try simp at h100
     refine rgz [] [[]] ?_
     refine op1 tok ?_
     refine qA ?_
     exact ⟨(),trivial,qD (by first | (exfalso; omega) | (clear hm1 hand hK hn3; simp [qB, *])),rfl,by first | (exfalso; omega) | (clear hm1 hand hK hn3; simp [qB, *]),by first | (exfalso; omega) | (clear hm1 hand hK hn3; simp [qB, *])⟩
    intro h100
    try simp at h100
    refine rgn [] [[],[3,4,6,7,8,10,86,103]] ?_
    iterate 2 refine op1 tok ?_
    refine qA (cnd ?_ ?_)
    ·intro h103
     try simp at h103
     refine rgz [] [[],[],[],[3,4,6,7,8,10]] ?_
     iterate 4 refine op1 tok ?_
     refine qA ?_
     exact ⟨(),trivial,qD (by first | (exfalso; omega) | (clear hm1 hand hK hn3; simp [qB, *])),rfl,by first | (exfalso; omega) | (clear hm1 hand hK hn3; simp [qB, *]),by first | (exfalso; omega) | (clear hm1 hand hK hn3; simp [qB, *])⟩
    intro h103
    try simp at h103
    refine rgn [] [[],[3,4,6,7,8,10,108]] ?_
    iterate 2 refine op1 tok ?_
    refine qA (cnd ?_ ?_)
    ·intro h108
     try simp at h108
     refine rgz [] [[],[],[],[],[3,4,6,7,8,10]] ?_
     iterate 5 refine op1 tok ?_ (h:=by intro C; conv=>lhs; simp [hand])
     refine qA ?_
     exact ⟨(),trivial,qD (by first | (exfalso; omega) | (clear hm1 hand hK hn3; simp [qB, *])),rfl,by first | (exfalso; omega) | (clear hm1 hand hK hn3; simp [qB, *]),by first | (exfalso; omega) | (clear hm1 hand hK hn3; simp [qB, *])⟩
    intro h108
    try simp at h108
    refine AW.skip ?_
    exact ⟨(),trivial,qD (by first | (exfalso; omega) | (clear hm1 hand hK hn3; simp [qB, *])),rfl,by first | (exfalso; omega) | (clear hm1 hand hK hn3; simp [qB, *]),by first | (exfalso; omega) | (clear hm1 hand hK hn3; simp [qB, *])⟩
   intro h95
   try simp at h95
   refine rgz [] [[],[3,4,6,7,8,10,86,95]] ?_
   iterate 2 refine op1 tok ?_
   refine qA (cnd ?_ ?_)
   ·intro h95
    try simp at h95
    refine rgz [] [[]] ?_
    refine op1 tok ?_
    refine qA ?_
    exact ⟨(),trivial,qD (by first | (exfalso; omega) | (clear hm1 hand hK hn3; simp [qB, *])),rfl,by first | (exfalso; omega) | (clear hm1 hand hK hn3; simp [qB, *]),by first | (exfalso; omega) | (clear hm1 hand hK hn3; simp [qB, *])⟩
   intro h95
   try simp at h95
   refine AW.seq (rgn [] [[],[3,4,6,7,8,10,86,100]] ?_)
   iterate 2 refine op1 tok ?_
   refine qA (cnd ?_ ?_)
   ·intro h100
    try simp at h100
    refine AW.skip (cnd ?_ ?_)
    ·intro h100
     try simp at h100
     refine rgz [] [[]] ?_
     refine op1 tok ?_
     refine qA ?_
     exact ⟨(),trivial,qD (by first | (exfalso; omega) | (clear hm1 hand hK hn3; simp [qB, *])),rfl,by first | (exfalso; omega) | (clear hm1 hand hK hn3; simp [qB, *]),by first | (exfalso; omega) | (clear hm1 hand hK hn3; simp [qB, *])⟩
    intro h100
    try simp at h100
    refine rgn [] [[],[3,4,6,7,8,10,86,103]] ?_
    iterate 2 refine op1 tok ?_
    refine qA (cnd ?_ ?_)
    ·intro h103
     try simp at h103
     refine rgz [] [[],[],[],[3,4,6,7,8,10]] ?_
     iterate 4 refine op1 tok ?_
     refine qA ?_
     exact ⟨(),trivial,qD (by first | (exfalso; omega) | (clear hm1 hand hK hn3; simp [qB, *])),rfl,by first | (exfalso; omega) | (clear hm1 hand hK hn3; simp [qB, *]),by first | (exfalso; omega) | (clear hm1 hand hK hn3; simp [qB, *])⟩
    intro h103
    try simp at h103
    refine rgn [] [[],[3,4,6,7,8,10,108]] ?_
    iterate 2 refine op1 tok ?_
    refine qA (cnd ?_ ?_)
    ·intro h108
     try simp at h108
     refine rgz [] [[],[],[],[],[3,4,6,7,8,10]] ?_
     iterate 5 refine op1 tok ?_ (h:=by intro C; conv=>lhs; simp [hand])
     refine qA ?_
     exact ⟨(),trivial,qD (by first | (exfalso; omega) | (clear hm1 hand hK hn3; simp [qB, *])),rfl,by first | (exfalso; omega) | (clear hm1 hand hK hn3; simp [qB, *]),by first | (exfalso; omega) | (clear hm1 hand hK hn3; simp [qB, *])⟩
    intro h108
    try simp at h108
    refine AW.skip ?_
    exact ⟨(),trivial,qD (by first | (exfalso; omega) | (clear hm1 hand hK hn3; simp [qB, *])),rfl,by first | (exfalso; omega) | (clear hm1 hand hK hn3; simp [qB, *]),by first | (exfalso; omega) | (clear hm1 hand hK hn3; simp [qB, *])⟩
   intro h100
   try simp at h100
   refine rgz [] [[],[3,4,6,7,8,10,86,100]] ?_
   iterate 2 refine op1 tok ?_
   refine qA (cnd ?_ ?_)
   ·intro h100
    try simp at h100
    refine rgz [] [[]] ?_
    refine op1 tok ?_
    refine qA ?_
    exact ⟨(),trivial,qD (by first | (exfalso; omega) | (clear hm1 hand hK hn3; simp [qB, *])),rfl,by first | (exfalso; omega) | (clear hm1 hand hK hn3; simp [qB, *]),by first | (exfalso; omega) | (clear hm1 hand hK hn3; simp [qB, *])⟩
   intro h100
   try simp at h100
   refine rgn [] [[],[3,4,6,7,8,10,86,103]] ?_
   iterate 2 refine op1 tok ?_
   refine qA (cnd ?_ ?_)
   ·intro h103
    try simp at h103
    refine rgz [] [[],[],[],[3,4,6,7,8,10]] ?_
    iterate 4 refine op1 tok ?_
    refine qA ?_
    exact ⟨(),trivial,qD (by first | (exfalso; omega) | (clear hm1 hand hK hn3; simp [qB, *])),rfl,by first | (exfalso; omega) | (clear hm1 hand hK hn3; simp [qB, *]),by first | (exfalso; omega) | (clear hm1 hand hK hn3; simp [qB, *])⟩
   intro h103
   try simp at h103
   refine rgn [] [[],[3,4,6,7,8,10,108]] ?_
   iterate 2 refine op1 tok ?_
   refine qA (cnd ?_ ?_)
   ·intro h108
    try simp at h108
    refine rgz [] [[],[],[],[],[3,4,6,7,8,10]] ?_
    iterate 5 refine op1 tok ?_ (h:=by intro C; conv=>lhs; simp [hand])
    refine qA ?_
    exact ⟨(),trivial,qD (by first | (exfalso; omega) | (clear hm1 hand hK hn3; simp [qB, *])),rfl,by first | (exfalso; omega) | (clear hm1 hand hK hn3; simp [qB, *]),by first | (exfalso; omega) | (clear hm1 hand hK hn3; simp [qB, *])⟩
   intro h108
   try simp at h108
   refine AW.skip ?_
   exact ⟨(),trivial,qD (by first | (exfalso; omega) | (clear hm1 hand hK hn3; simp [qB, *])),rfl,by first | (exfalso; omega) | (clear hm1 hand hK hn3; simp [qB, *]),by first | (exfalso; omega) | (clear hm1 hand hK hn3; simp [qB, *])⟩
  ·
   rintro _ _
   refine rgn [] [[],[],[],[],[3,4,6,7,8,118],[],[],[],[],[3,4,6,7,8,123],[],[],[],[3,4,6,7,124,127],[3,4,6,7,128]] ?_
   iterate 15 first | refine op1 tok ?_ | refine op2 tok ?_
   refine qA (cnd ?_ ?_)
   ·intro h128
    try simp at h128
    exfalso; omega
   intro h128
   try simp at h128
   refine AW.skip (rgz [] [[],[],[3,4,6,7]] ?_)
   iterate 3 refine op1 tok ?_
   refine qA ?_
   exact ⟨i+1,by omega,by omega,qD (by simp),rfl,by simp,by simp⟩
 intro h28
 try simp at h28
 obtain rfl:i=l.length:=by omega
 rw [List.take_length]
 refine AW.exit ?_
 simp
 refine AW.seq (rgn [] [[]] ?_)
 refine op1 tok ?_
 refine qA (AW.block ?_)
 refine AW.loop (α:=Nat) (fun i=>i≤l.length) (fun i=>⟨zO 172 [(3,.p (.bool true)),(4,.p (.sl 8 LE)),(6,.ms 24),(11,.p (.int .i64 i))],[],[(24,.row 3 1 (uT l.length (wO l)))],0⟩) (fun i=>l.length-i) (0) (by omega) ⟨qD (by simp),rfl,by simp,by simp⟩ ?_
 rintro i hi2
 refine AW.seq (rgn [] [[],[],[],[3,4,6,11,132]] ?_)
 iterate 4 refine op1 tok ?_
 refine qA (cnd ?_ ?_)
 ·intro h132
  try simp at h132
  have hug2:=vD (n:=l.length) (wO l) (j:=i) (by omega)
  have hul2:=jX l.length (wO l)
  have hci:=hct (i:Int)
  generalize (wO l).count (i:Int)=q at *
  refine AW.skip (AW.seq (AW.block (rgn [.int .i64 q,.int .i64 q] [[],[],[],[],[3,4,6,11,139],[],[],[],[],[3,4,6,11,140,144],[],[],[3,4,6,11,147],[],[],[],[],[3,4,6,11,147,152],[],[],[],[],[3,4,6,11,147,153,157],[],[],[3,4,6,11,160]] ?_)))
  iterate 26 first | refine op1 tok ?_ (h:=by intro C; conv=>lhs; simp [hle]) (hv:=by first | with_reducible exact True.intro | (first | exact hug2 | (intro a1; exact ⟨a1,hug2⟩) | (intro a1 a2; exact ⟨⟨a1,a2⟩,hug2⟩) | (simp [hug2]; done) | omega | (simp; omega); done) | omega | simp | (simp +contextual; omega)) | refine op2 tok ?_ (h:=by intro C; conv=>lhs; simp [hle]) (hv:=by first | with_reducible exact True.intro | (first | exact hug2 | (intro a1; exact ⟨a1,hug2⟩) | (intro a1 a2; exact ⟨⟨a1,a2⟩,hug2⟩) | (simp [hug2]; done) | omega | (simp; omega); done) | omega | simp | (simp +contextual; omega))
  refine qA (cnd ?_ ?_)
  ·intro h160
   try simp at h160
   exfalso; (split at hci <;> omega)
  intro h160
  try simp at h160
  refine AW.skip (rgz [] [[],[],[3,4,6,11]] ?_)
  iterate 3 refine op1 tok ?_
  refine qA ?_
  exact ⟨i+1,by omega,by omega,qD (by simp),rfl,by simp,by simp⟩
 intro h132
 try simp at h132
 refine AW.exit ?_
 simp
 refine rgn [] [[],[],[],[],[4,162,165],[],[],[167,168],[],[],[171],[2]] ?_
 iterate 12 first | refine op1 tok ?_ (h:=by intro C; conv=>lhs; simp [hle]) | refine op2 tok ?_ (h:=by intro C; conv=>lhs; simp [hle])
 refine qA ?_
 exact AW.ret (qR (k:=by (simp; omega)))
end Go.Proofs.YtbhhphabggcacaaGreatDoor
