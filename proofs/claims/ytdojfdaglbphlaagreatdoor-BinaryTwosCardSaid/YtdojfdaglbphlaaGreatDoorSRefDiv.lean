import Derived.Test.YtdojfdaglbphlaaGreatDoorSRefAdd
import Derived.Test.YtdojfdaglbphlaaGreatDoorSDivE
namespace Go.Proofs.YtdojfdaglbphlaaGreatDoor
open Sy Go
set_option maxRecDepth 100000
set_option maxHeartbeats 4000000
set_option linter.unusedSimpArgs false
set_option linter.unusedVariables false
variable {G:qR}
theorem qAO (n:Int) (hn:n≤1000000):AFn Tryz.prog G 173 [.int .i64 n] (.str (qL n.toNat)):=by
 refine AFn.introU tok Tryz.func173 (by kernel_rfl) rfl rfl ?_
 simp only [Tryz.f173,qI,List.map_cons,List.map_nil]
 refine rgn [] [[0]] ?_
 refine op1 tok ?_
 refine qA (rgn [] [[]] ?_)
 refine op1 tok ?_
 refine qA (AW.seq (rgn [] [[]] ?_))
 refine op1 tok ?_
 refine qA (AW.block ?_)
 refine AW.loop (α:=Nat) (fun k=>k≤n.toNat) (fun k=>⟨qV 13 [(0,.p (.int .i64 n)),(3,.p (.str (qL k))),(4,.p (.int .i64 k))],[],[],0⟩) (fun k=>n.toNat-k) (0) (by omega) ⟨qB (by simp [qL]),rfl,by simp,by simp⟩ ?_
 rintro k hk
 refine AW.seq (rgn [] [[],[],[0,3,4,7]] ?_)
 iterate 3 refine op1 tok ?_
 refine qA (cnd ?_ ?_)
 ·intro h7
  try simp at h7
  refine AW.skip (AW.seq (AW.block (rgz [] [[],[],[0,3,4]] ?_)))
  iterate 3 refine op1 tok ?_ (hv:=by first | with_reducible exact True.intro | (simp [qL]; omega; done) | omega | simp | (simp +contextual; omega))
  refine qA (rgz [] [[],[],[0,3,4]] ?_)
  iterate 3 refine op1 tok ?_
  refine qA ?_
  exact ⟨k+1,by omega,by omega,qB (by simp [qL,List.replicate_succ']),rfl,by simp [qL,List.replicate_succ'],by simp [qL,List.replicate_succ']⟩
 intro h7
 try simp at h7
 have hkn:k=n.toNat:=by omega
 subst hkn
 refine AW.exit ?_
 simp
 refine rgn [] [[],[2]] ?_
 iterate 2 refine op1 tok ?_
 exact qA (AW.ret qG)
def qID (s:List UInt8) (n:Int):List UInt8:=qL (n-s.length).toNat++s
theorem qIE (s:List UInt8) (n:Int) (hn:n≤1000000) (h0:0≤n) (hs:s.length≤1000000):AFn Tryz.prog G 172 [.str s,.int .i64 n] (.str (qID s n)):=by
 refine AFn.introU tok Tryz.func172 (by kernel_rfl) rfl rfl ?_
 simp only [Tryz.f172,qI,List.map_cons,List.map_nil]
 have hz:=qAO (G:=G) (n-s.length) (by omega)
 have hl:(qL (n-s.length).toNat).length≤1000000:=by unfold qL; simp; omega
 unfold qID
 generalize qL (n-s.length).toNat=Z at *
 refine rgn [] [[0,1]] ?_
 refine op1 tok ?_
 refine qA (rgn [.nilp,.str Z] [[],[],[],[0,8],[],[],[11],[4]] ?_)
 iterate 8 refine oq1 tok hz ?_
 exact qA (AW.ret qG)
def noB (s:List UInt8):Bool:=s.all fun b=>decide (b=48)
theorem zSA (c:UInt8):((c.toNat:Int)=48)↔c=48:=by
 constructor
 ·intro h; exact UInt8.toNat_inj.1 (by show c.toNat=48; omega)
 rintro rfl; rfl
theorem qOO (s:List UInt8) (hs:s.length≤1000000):AFn Tryz.prog G 169 [.str s] (.bool (noB s)):=by
 refine AFn.introU tok Tryz.func169 (by kernel_rfl) rfl rfl ?_
 simp only [Tryz.f169,qI,List.map_cons,List.map_nil]
 refine rgn [] [[0]] ?_
 refine op1 tok ?_
 refine qA (AW.seq (rgn [] [[]] ?_))
 refine op1 tok ?_
 refine qA (AW.block ?_)
 refine AW.loop (α:=Nat) (fun k=>k≤s.length∧noB s=noB (s.drop k)) (fun k=>⟨qV 14 [(0,.p (.str s)),(3,.p (.int .i64 k))],[],[],0⟩) (fun k=>s.length-k) (0) ⟨by omega,rfl⟩ ⟨qB (by simp),rfl,by simp,by simp⟩ ?_
 rintro k ⟨hk,hq⟩
 refine AW.seq (rgn [] [[],[],[],[0,3,7]] ?_)
 iterate 4 refine op1 tok ?_
 refine qA (cnd ?_ ?_)
 ·intro h7
  try simp at h7
  have hkl:k<s.length:=by omega
  obtain ⟨c,hc⟩:∃ c,s[k]?=some c:=⟨s[k],List.getElem?_eq_getElem hkl⟩
  have hd:s.drop k=c::s.drop (k+1):=by rw [List.drop_eq_getElem_cons hkl,(List.getElem?_eq_some_iff.1 hc).2]
  have hn:noB (c::s.drop (k+1))=(decide (c=48) && noB (s.drop (k+1))):=rfl
  rw [hd,hn] at hq
  have h48:=zSA c
  refine AW.skip (AW.seq (AW.block (rgn [.int .u8 c.toNat] [[],[],[],[0,3,13]] ?_)))
  iterate 4 refine op1 tok ?_ (hv:=by first | with_reducible exact True.intro | (exact ⟨c,hc,rfl⟩; done) | omega | simp | (simp +contextual; omega))
  refine qA (cnd ?_ ?_)
  ·intro h13
   try simp at h13
   have hR:noB s=false:=by rw [hq]; simp [show ¬ c=48 from fun h=>h13 (h48.2 h)]
   refine rgn [] [[]] ?_
   refine op1 tok ?_
   refine qA ?_
   exact AW.ret (qG (k:=by simp [hR]))
  intro h13
  try simp at h13
  have hnx:noB s=noB (s.drop (k+1)):=by rw [hq]; simp [h48.1 (by omega)]
  refine AW.skip (rgz [] [[],[],[0,3]] ?_)
  iterate 3 refine op1 tok ?_
  refine qA ?_
  exact ⟨k+1,⟨by omega,hnx⟩,by omega,qB (by simp),rfl,by simp,by simp⟩
 intro h7
 try simp at h7
 have hR:noB s=true:=by rw [hq,List.drop_of_length_le (by omega)]; rfl
 refine AW.exit ?_
 simp
 refine rgn [] [[]] ?_
 refine op1 tok ?_
 refine qA ?_
 exact AW.ret (qG (k:=by simp [hR]))
def qEG (s:List UInt8):Nat:=(s.takeWhile fun b=>decide (b=48)).length
theorem qTR (s:List UInt8) (hs:s.length≤1000000):AFn Tryz.prog G 170 [.str s] (.int .i64 (qEG s)):=by
 refine AFn.introU tok Tryz.func170 (by kernel_rfl) rfl rfl ?_
 simp only [Tryz.f170,qI,List.map_cons,List.map_nil]
 refine rgn [] [[0]] ?_
 refine op1 tok ?_
 refine qA (AW.seq (rgn [] [[]] ?_))
 refine op1 tok ?_
 refine qA (AW.block ?_)
 refine AW.loop (α:=Nat) (fun k=>k≤s.length∧qEG s=k+qEG (s.drop k)) (fun k=>⟨qV 17 [(0,.p (.str s)),(3,.p (.int .i64 k))],[],[],0⟩) (fun k=>s.length-k) (0) ⟨by omega,by simp⟩ ⟨qB (by simp),rfl,by simp,by simp⟩ ?_
 rintro k ⟨hk,hq⟩
 refine AW.seq (rgn [] [[],[],[],[0,3,7]] ?_)
 iterate 4 refine op1 tok ?_
 refine qA (cnd ?_ ?_)
 ·intro h7
  try simp at h7
  have hkl:k<s.length:=by omega
  obtain ⟨c,hc⟩:∃ c,s[k]?=some c:=⟨s[k],List.getElem?_eq_getElem hkl⟩
  have hd:s.drop k=c::s.drop (k+1):=by rw [List.drop_eq_getElem_cons hkl,(List.getElem?_eq_some_iff.1 hc).2]
  have hn:qEG (c::s.drop (k+1))=if c=48 then qEG (s.drop (k+1))+1 else 0:=by
   unfold qEG; rw [List.takeWhile_cons]; by_cases h:c=48 <;> simp [h]
  rw [hd,hn] at hq
  have h48:=zSA c
  refine AW.skip (AW.seq (AW.block (rgn [.int .u8 c.toNat] [[],[],[],[0,3,13]] ?_)))
  iterate 4 refine op1 tok ?_ (hv:=by first | with_reducible exact True.intro | (exact ⟨c,hc,rfl⟩; done) | omega | simp | (simp +contextual; omega))
  refine qA (cnd ?_ ?_)
  ·intro h13
   try simp at h13
   have hR:qEG s=k:=by rw [hq,if_neg (fun h=>h13 (h48.2 h))]; rfl
   refine rgn [] [[],[2]] ?_
   iterate 2 refine op1 tok ?_
   refine qA ?_
   exact AW.ret (qG (k:=by simp [hR]))
  intro h13
  try simp at h13
  have hnx:qEG s=(k+1)+qEG (s.drop (k+1)):=by rw [hq,if_pos (h48.1 (by omega))]; omega
  refine AW.skip (rgz [] [[],[],[0,3]] ?_)
  iterate 3 refine op1 tok ?_
  refine qA ?_
  exact ⟨k+1,⟨by omega,hnx⟩,by omega,qB (by simp),rfl,by simp,by simp⟩
 intro h7
 try simp at h7
 have hR:qEG s=s.length:=by rw [hq,List.drop_of_length_le (by omega)]; simp [qEG]; omega
 refine AW.exit ?_
 simp
 refine rgn [] [[],[],[2]] ?_
 iterate 3 refine op1 tok ?_
 refine qA ?_
 exact AW.ret (qG (k:=by simp [hR]))
theorem zJG {r:List UInt8} (h:r.all qH=true) (hl:0<r.length) (hv:qE r<10 ^ (r.length-1)):qE (r.drop 1)=qE r:=by
 cases r with
 | nil=>simp at hl
 | cons b r =>
  rw [wY] at hv ⊢
  simp only [List.length_cons,Nat.add_sub_cancel] at hv
  have:b.toNat-48=0:=by
   rcases Nat.eq_zero_or_pos (b.toNat-48) with h0 | h0
   ·exact h0
   have:=Nat.le_mul_of_pos_left (10 ^ r.length) h0; omega
  rw [this]; simp
theorem qGG {s:List UInt8} (h:s.all qH=true) {n:Nat} (hl:s.length≤n):qID s n=zA n (qE s):=by
 have e1:(qID s n).length=n:=by unfold qID qL; simp; omega
 have e2:(qID s n).all qH=true:=by
  unfold qID qL; rw [List.all_append,h]
  simp only [Bool.and_true]
  exact List.all_eq_true.2 fun b hb=>by rw [(List.mem_replicate.1 hb).2]; rfl
 have e3:qE (qID s n)=qE s:=by unfold qID qL; rw [wP,jL]; simp
 rw [qWH e2,e1,e3]
theorem qYF (rest:List UInt8) (c:UInt8) (by0:List UInt8) (hr:rest.all qH=true) (hc:qH c=true) (hb:by0.all qH=true) (hlt:qE rest<qE by0) (lr:rest.length≤10000) (lb:by0.length≤10000):AFn Tryz.prog G 171 [.str rest,.int .u8 c.toNat,.str by0] (.tup [.int .u8 ((48+(qE rest * 10+(c.toNat-48)) / qE by0:Nat):Int),.str (zA (by0.length+1) ((qE rest * 10+(c.toNat-48)) % qE by0))]):=by
 refine AFn.introU tok Tryz.func171 (by kernel_rfl) rfl rfl ?_
 simp only [Tryz.f171,qI,List.map_cons,List.map_nil]
 have hcd:=(zK c).1 hc
 have vb:=wB hb
 have hrc:(rest++[c]).all qH=true:=by rw [List.all_append,hr]; simp [hc]
 have hv:qE (rest++[c])=qE rest * 10+(c.toNat-48):=kN _ _
 rw [← hv]
 have hV:qE (rest++[c])<10 * qE by0:=by omega
 have hVn:qE (rest++[c])<10 ^ (by0.length+1):=by rw [Nat.pow_succ]; omega
 have hwb:=qIE (G:=G) by0 ((by0.length+1:Nat):Int) (by omega) (by omega) (by omega)
 rw [qGG hb (by omega)] at hwb
 have hlR:(rest++[c]).length≤10001:=by simp; omega
 generalize hRR:rest++[c]=R at *
 generalize hVV:qE R=V at *
 generalize hBB:qE by0=B at *
 have hB0:0<B:=by omega
 have hp10:=Nat.pow_le_pow_right (n:=10) (by decide) (Nat.le_succ by0.length)
 refine rgn [] [[],[0,1,2]] ?_
 iterate 2 refine op1 tok ?_
 refine qA (rgn [] [[],[],[],[0,1,2,8]] ?_)
 iterate 4 refine op1 tok ?_
 refine qA (rgn [.int .u8 c.toNat,.str [c]] [[],[],[],[2,8,13,16],[],[0,2,8]] ?_)
 iterate 6 refine op1 tok ?_ (h:=by intro C; conv=>lhs; simp [hRR]) (hv:=by first | with_reducible exact True.intro | (rfl; done) | omega | simp | (simp +contextual; omega))
 refine qA (AW.seq (AW.block ?_))
 refine AW.loop (α:=List UInt8) (fun r=>qE r=V∧r.all qH=true∧r.length≤10001) (fun r=>⟨qV 40 [(0,.p (.str r)),(2,.p (.str by0)),(8,.p (.int .i64 ((by0.length:Int)+1)))],[],[],0⟩) (fun r=>r.length) (R) ⟨hVV,hrc,hlR⟩ ⟨qB (by simp),rfl,by simp,by simp⟩ ?_
 rintro r ⟨hrv,hra,hrl⟩
 refine AW.seq (rgn [] [[],[],[],[0,2,8,21]] ?_)
 iterate 4 refine op1 tok ?_
 refine qA (cnd ?_ ?_)
 ·intro h21
  try simp at h21
  have hz:=zJG hra (by omega) (by rw [hrv]; exact Nat.lt_of_lt_of_le hVn (Nat.pow_le_pow_right (by decide) (by omega)))
  obtain ⟨b1,r1,rfl⟩:∃ b r',r=b::r':=by
   cases r with
   | nil=>simp at h21; omega
   | cons b r=>exact ⟨b,r,rfl⟩
  simp only [List.drop_succ_cons,List.drop_zero] at hz
  simp only [List.all_cons,Bool.and_eq_true,List.length_cons] at hra hrl
  refine AW.skip (AW.block (rgz [] [[],[],[0,2,8]] ?_))
  iterate 3 refine op1 tok ?_
  refine qA ?_
  exact ⟨r1,⟨by rw [hz]; exact hrv,hra.2,by omega⟩,by simp,qB (by simp),rfl,by simp,by simp⟩
 intro h21
 try simp at h21
 have hw:=qIE (G:=G) r ((by0.length+1:Nat):Int) (by omega) (by omega) (by omega)
 rw [qGG hra (by omega),hrv] at hw
 refine AW.exit ?_
 simp
 refine rgn [.nilp,.str (zA (by0.length+1) V)] [[],[],[],[0,2,8]] ?_
 iterate 4 refine oq1 tok hw ?_
 refine qA (rgn [.nilp,.str (zA (by0.length+1) B)] [[],[],[0,29],[0,2]] ?_)
 iterate 4 refine oq1 tok hwb ?_
 refine qA (rgn [] [[]] ?_)
 refine op1 tok ?_
 refine qA (AW.seq (AW.block ?_))
 refine AW.loop (α:=Nat) (fun q=>q * B≤V) (fun q=>⟨qV 40 [(0,.p (.str (zA (by0.length+1) (V-q * B)))),(2,.p (.str (zA (by0.length+1) B))),(9,.p (.int .u8 (48+q)))],[],[],0⟩) (fun q=>V-q * B) (0) (by simp) ⟨qB (by simp),by simp,by simp,by simp⟩ ?_
 rintro q hq
 have hq9:q<10:=by
  rcases Nat.lt_or_ge q 10 with h | h
  ·exact h
  have:=Nat.mul_le_mul_right B h; omega
 have e1:qE (zA (by0.length+1) (V-q * B))=V-q * B:=by rw [zZ,Nat.mod_eq_of_lt (by omega)]
 have e2:qE (zA (by0.length+1) B)=B:=by rw [zZ,Nat.mod_eq_of_lt (by omega)]
 have hless:=qJJ (zA (by0.length+1) (V-q * B)) (zA (by0.length+1) B) (by rw [zD,zD]) (zT _ _) (zT _ _)
 rw [e1,e2] at hless
 have hmin:=qHP (G:=G) (zA (by0.length+1) (V-q * B)) (zA (by0.length+1) B) (zT _ _) (zT _ _) (by rw [zD,zD]) (by rw [zD]; omega)
 rw [e1,e2,zD] at hmin
 have hsm:V-q * B-B=V-(q+1) * B:=by rw [Nat.add_mul]; omega
 rw [hsm] at hmin
 refine AW.seq (rgn [] [[],[],[0,2,9,32]] ?_)
 iterate 3 refine op1 tok ?_
 refine qA (cnd ?_ ?_)
 ·intro h32
  try simp at h32
  have hge:B≤V-q * B:=by rw [← Nat.not_lt,← hless]; simpa using h32
  have hmin:=hmin hge
  have hq1:(q+1) * B≤V:=by rw [Nat.add_mul]; omega
  have hdec:V-(q+1) * B<V-q * B:=by rw [← hsm]; omega
  have hw8:IntKind.u8.wrap (48+((q:Int)+1))=48+((q:Int)+1):=by rw [show (48+((q:Int)+1))=((48+q+1:Nat):Int) by omega]; exact w8n (by omega)
  refine AW.skip (AW.block (rgn [.nilp,.str (zA (by0.length+1) (V-(q+1) * B))] [[],[],[],[0,2,9]] ?_))
  iterate 4 refine oq1 tok hmin ?_
  refine qA (rgz [] [[],[],[0,2,9]] ?_)
  iterate 3 refine op1 tok ?_
  refine qA ?_
  exact ⟨q+1,hq1,hdec,qB (by simp [show (48:Int)+q+1=48+(q+1) from by omega,hw8]),rfl,by simp [show (48:Int)+q+1=48+(q+1) from by omega,hw8],by simp [show (48:Int)+q+1=48+(q+1) from by omega,hw8]⟩
 intro h32
 try simp at h32
 have hlt2:V-q * B<B:=hless.1 (by simpa using h32)
 have hdiv:V / B=q:=by
  rw [Nat.div_eq_iff hB0]; constructor <;> omega
 have hmod:V % B=V-q * B:=by
  have:=Nat.div_add_mod V B; rw [hdiv,Nat.mul_comm] at this; omega
 rw [show ((V:Int) / (B:Int))=q by rw [← hdiv]; rfl,hmod]
 refine AW.exit ?_
 simp
 refine rgn [] [[],[],[],[6,7]] ?_
 iterate 4 refine op1 tok ?_
 exact qA (AW.ret qG)
def qDE (x by0:List UInt8) (k:Nat):List UInt8:=if k=0 then [48] else zA (by0.length+1) (qE (x.take k) % qE by0)
theorem qPE {x by0:List UInt8} (hb:by0.all qH=true) (h0:0<qE by0) (k:Nat):(qDE x by0 k).all qH=true∧qE (qDE x by0 k)=qE (x.take k) % qE by0∧(qDE x by0 k).length≤by0.length+1:=by
 unfold qDE
 have vb:=wB hb
 split
 ·rename_i h; subst h; simp [qE,qH,kX]
 refine ⟨zT _ _, ?_,by rw [zD]; omega⟩
 have:=Nat.mod_lt (qE (x.take k)) h0
 rw [zZ,Nat.mod_eq_of_lt (by rw [Nat.pow_succ]; omega)]
theorem zNY {X B d:Nat} (hB:0<B):(X * 10+d) / B=X / B * 10+(X % B * 10+d) / B∧(X * 10+d) % B=(X % B * 10+d) % B:=by
 have h:=Nat.div_add_mod X B
 have e:X * 10+d=(X % B * 10+d)+B * (X / B * 10):=by
  conv=>lhs; rw [← h]
  rw [Nat.add_mul,Nat.mul_assoc]; omega
 constructor
 ·rw [e,Nat.add_mul_div_left _ _ hB,Nat.add_comm]
 rw [e,Nat.add_mul_mod_self_left]
theorem qZP (x by0:List UInt8) (hx:x.all qH=true) (hb:by0.all qH=true) (h0:0<qE by0) (lx:x.length≤5000) (lb:by0.length≤5000):AFn Tryz.prog G 168 [.str x,.str by0] (.tup [.str (zA x.length (qE x / qE by0)),.str (qDE x by0 x.length)]):=by
 refine AFn.introU tok Tryz.func168 (by kernel_rfl) rfl rfl ?_
 simp only [Tryz.f168,qI,List.map_cons,List.map_nil]
 refine rgn [] [[],[0,1]] ?_
 iterate 2 refine op1 tok ?_
 refine qA (rgn [] [[]] ?_)
 refine op1 tok ?_
 refine qA (rgn [] [[]] ?_)
 refine op1 tok ?_
 refine qA (AW.seq (rgn [] [[]] ?_))
 refine op1 tok ?_
 refine qA (AW.block ?_)
 refine AW.loop (α:=Nat) (fun k=>k≤x.length) (fun k=>⟨qV 34 [(0,.p (.str x)),(1,.p (.str by0)),(6,.p (.str (zA k (qE (x.take k) / qE by0)))),(7,.p (.str (qDE x by0 k))),(8,.p (.int .i64 k))],[],[],0⟩) (fun k=>x.length-k) (0) (by omega) ⟨qB (by simp [zA,qDE]),rfl,by simp,by simp⟩ ?_
 rintro k hk
 have hdl:=zD k (qE (x.take k) / qE by0)
 refine AW.seq (rgn [] [[],[],[],[0,1,6,7,8,14]] ?_)
 iterate 4 refine op1 tok ?_
 refine qA (cnd ?_ ?_)
 ·intro h14
  try simp at h14
  have hkx:k<x.length:=by omega
  obtain ⟨c,hc⟩:∃ c,x[k]?=some c:=⟨x[k],List.getElem?_eq_getElem hkx⟩
  have hcd:qH c=true:=List.all_eq_true.1 hx c (List.mem_of_getElem? hc)
  obtain ⟨o1,o2,o3⟩:=qPE (x:=x) hb h0 k
  have hst:=qYF (G:=G) (qDE x by0 k) c by0 o1 hcd hb (by rw [o2]; exact Nat.mod_lt _ h0) (by omega) (by omega)
  rw [o2] at hst
  have hv:qE (x.take (k+1))=qE (x.take k) * 10+(c.toNat-48):=by rw [List.take_add_one,hc]; exact kN _ _
  have hc2:=(zK c).1 hcd
  obtain ⟨d1',d2'⟩:=zNY (X:=qE (x.take k)) (d:=c.toNat-48) h0
  rw [← hv] at d1' d2'
  have hnl:qDE x by0 (k+1)=zA (by0.length+1) ((qE (x.take k) % qE by0 * 10+(c.toNat-48)) % qE by0):=by unfold qDE; rw [if_neg (by omega),d2']
  have hq:(qE (x.take k) % qE by0 * 10+(c.toNat-48)) / qE by0<10:=by
   have:=Nat.mod_lt (qE (x.take k)) h0
   exact (Nat.div_lt_iff_lt_mul h0).2 (by omega)
  have hnq:zA (k+1) (qE (x.take (k+1)) / qE by0)=zA k (qE (x.take k) / qE by0)++[UInt8.ofNat (48+(qE (x.take k) % qE by0 * 10+(c.toNat-48)) / qE by0)]:=by rw [d1',qGU _ _ _ hq]
  rw [← hnl] at hst
  generalize (qE (x.take k) % qE by0 * 10+(c.toNat-48)) / qE by0=q at *
  have hr:=kF hq
  generalize UInt8.ofNat (48+q)=D at *
  refine AW.skip (AW.seq (AW.block (rgn [.int .u8 c.toNat,.nilp,.tup [.int .u8 ((48+q:Nat):Int),.str (qDE x by0 (k+1))]] [[],[],[],[],[],[0,1,6,8,23],[],[],[],[],[0,1,6,8,9,10]] ?_)))
  iterate 11 refine op1 tok ?_ (hv:=by first | with_reducible exact True.intro | (first | exact ⟨c,hc,rfl⟩ | exact hst | (simpa using hst); done) | omega | simp | (simp +contextual; omega))
  refine qA (rgn [.int .u8 D.toNat,.str [D]] [[],[],[],[0,1,8,10,26,29],[],[0,1,6,8,10]] ?_)
  iterate 6 refine op1 tok ?_ (h:=by intro C; conv=>lhs; simp [hr]) (hv:=by first | with_reducible exact True.intro | ((rw [show qM [D]=[PD.int .u8 (D.toNat:Int)] from rfl,hr]; simp; done); done) | omega | simp | (simp +contextual; omega))
  refine qA (rgz [] [[],[0,1,6,7,8]] ?_)
  iterate 2 refine op1 tok ?_
  refine qA (rgz [] [[],[],[0,1,6,7,8]] ?_)
  iterate 3 refine op1 tok ?_
  refine qA ?_
  exact ⟨k+1,by omega,by omega,qB (by simp [hnq]),rfl,by simp [hnq],by simp [hnq]⟩
 intro h14
 try simp at h14
 obtain rfl:k=x.length:=by omega
 rw [List.take_length]
 refine AW.exit ?_
 simp
 refine rgn [] [[],[],[],[4,5]] ?_
 iterate 4 refine op1 tok ?_
 exact qA (AW.ret qG)
theorem zAA (s:List UInt8):s.drop (qEG s)=qQ s:=by
 unfold qEG qQ
 induction s with
 | nil=>rfl
 | cons b s ih=>rw [List.takeWhile_cons,List.dropWhile_cons]; by_cases h:b=48 <;> simp [h]; exact ih
theorem zNQ (s:List UInt8):qEG s≤s.length:=(List.takeWhile_sublist _).length_le
theorem zQR (a b:Dc) (ha:zO a=true) (hb:zO b=true):AFn Tryz.prog G 115 [a.enc,b.enc] (.tup [(qAX a b).1.enc,.int .i64 (qAX a b).2]):=by
 refine AFn.introU tok Tryz.func115 (by kernel_rfl) rfl rfl ?_
 simp only [Tryz.f115,qI,List.map_cons,List.map_nil]
 have hpos:=fun h=>qMR hb h
 have hal:=qFF (G:=G) a b (zF ha).1 (zF hb).1
 obtain ⟨⟨a1,a2,a3,a4⟩,a5,a6⟩:=zF ha
 obtain ⟨⟨b1,b2,b3,b4⟩,b5,b6⟩:=zF hb
 have hm3:qX a b≤60:=by unfold qX; split <;> omega
 have hm0:0≤qX a b:=by unfold qX; split <;> omega
 have px:(yV a b).all qH=true:=wX a4 _
 have py:(yU a b).all qH=true:=wX b4 _
 have lx:(yV a b).length≤2000:=by unfold yV qL; simp; omega
 have ly:(yU a b).length≤2000:=by unfold yU qL; simp; omega
 have hYv:qE (yU a b)=qE b.digits * 10 ^ (qX a b-b.scale).toNat:=jA _ _
 obtain ⟨xa,ya⟩:=zEC px py
 have hlen:=qWU (yV a b) (yU a b)
 obtain ⟨v1,v2⟩:=zEB (yV a b) (yU a b)
 have hl1:(alX (yV a b) (yU a b)).length≤4900:=by unfold alX qL; simp only [List.length_append,List.length_replicate]; split <;> omega
 have hA:qAX a b=if b.digits=[48] then (dc0,5) else zW a.neg (qE (yV a b) % qE (yU a b)) (qX a b).toNat:=rfl
 rw [hA,← v1,← v2]
 rw [← v2] at hYv
 generalize alX (yV a b) (yU a b)=X at *
 generalize alY (yV a b) (yU a b)=Y at *
 generalize hMM:qX a b=M at *
 have hfi:=qTR (G:=G) Y (by omega)
 have hfl:=zNQ Y
 have hfd:=zAA Y
 refine rgn [] [[],[],[],[2,3,4]] ?_
 iterate 4 refine op1 tok ?_
 refine qA (AW.seq (rgn [] [[],[],[2,3,4,13]] ?_))
 iterate 3 refine op1 tok ?_
 refine qA (cnd ?_ ?_)
 ·intro h13
  try simp at h13
  rw [if_pos h13]
  refine rgn [] [[],[],[4,5]] ?_
  iterate 3 refine op1 tok ?_
  refine qA ?_
  exact AW.ret (qG (k:=by simp [dc0]))
 intro h13
 try simp at h13
 rw [if_neg h13]
 obtain ⟨hB0,hB60⟩:=hpos h13
 have hY0:0<qE Y:=by rw [hYv]; exact Nat.mul_pos hB0 (Nat.pow_pos (by decide))
 have hs1:=jT ya
 have hs2:=vE Y
 have hs3:(qQ Y).length≤5000:=by rw [← hfd,List.length_drop]; omega
 have hlo:=qZP (G:=G) X (qQ Y) xa hs1 (by rw [hs2]; exact hY0) (by omega) hs3
 obtain ⟨o1,o2,o3⟩:=qPE (x:=X) hs1 (by rw [hs2]; exact hY0) X.length
 rw [List.take_length,hs2] at o2
 have hn:=kA (G:=G) a.neg o1 (by omega) o2 hm0 (by omega)
 generalize qDE X (qQ Y) X.length=L at *
 generalize zA X.length (qE X / qE (qQ Y))=Q at *
 generalize zW a.neg (qE X % qE Y) M.toNat=r1 at *
 obtain ⟨q1,e1⟩:=r1
 simp only [Dc.enc] at hal hn
 refine AW.skip (rgn [.nilp,.tup [.str X,.str Y,.int .i64 M]] [[],[],[],[2,4,15],[],[],[],[],[],[2,4,6,7,8]] ?_)
 iterate 10 refine oq1 tok hal ?_
 refine qA (rgn [.nilp,.int .i64 (qEG Y),.nilp,.tup [.str Q,.str L]] [[],[],[],[],[2,4,8,23,27],[],[],[],[2,4,8,29,30],[],[2,4,8,10]] ?_)
 iterate 11 refine oq1 tok (ai hfi hlo) ?_ (h:=by intro C; conv=>lhs; simp [hfd])
 refine qA (rgn [.nilp,.tup [q1.enc,.int .i64 e1]] [[],[],[],[4,32,33,34],[],[],[4,36,37],[],[4,5]] ?_)
 iterate 9 refine oq1 tok hn ?_
 exact qA (AW.ret qG)
end Go.Proofs.YtdojfdaglbphlaaGreatDoor
