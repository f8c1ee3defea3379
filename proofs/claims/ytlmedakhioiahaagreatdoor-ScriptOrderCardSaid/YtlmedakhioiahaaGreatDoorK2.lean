import Derived.Test.YtlmedakhioiahaaGreatDoorK1
import Derived.Test.YtlmedakhioiahaaGreatDoorM4
import Derived.Test.YtlmedakhioiahaaGreatDoorM3
import Derived.Lib.ValidLaws
import Derived.Shelf.Unicode.ValidAny
import Derived.Shelf.Strings.Builder1
import Derived.Lib.MapLaws
import Derived.Shelf.Unicode.DecodeAny
namespace Go.Proofs.YtlmedakhioiahaaGreatDoor
open Sy Go
set_option maxRecDepth 100000
set_option maxHeartbeats 4000000
set_option linter.unusedSimpArgs false
set_option linter.unusedVariables false
variable {G:qR}
theorem qSH (s:List UInt8):(if s.all (fun b => !xK b.toNat) then (-1:Int) else (((s.takeWhile fun b => !xK b.toNat).length:Nat):Int))=if s.all qJ then -1 else ((s.takeWhile qJ).length:Int):=by
 have e:(fun b:UInt8 => !xK b.toNat)=qJ:=by funext b; rw [qOE]; simp
 rw [e]
theorem qUG (s:List UInt8):xX xK s=if s.all qJ then -1 else ((s.takeWhile qJ).length:Int):=by
 rw [qGG (fun n h=>by simp [xK] <;> omega),qSH]
theorem zLE {s:List UInt8} (h:s.all qJ=true):s.takeWhile qJ=s∧s.dropWhile qJ=[]:=by
 have:=zCM (W:=s) (F:=[]) h (by simp)
 simpa using this
theorem zGQ (s:List UInt8):s.take (s.takeWhile qJ).length=s.takeWhile qJ∧s.drop (s.takeWhile qJ).length=s.dropWhile qJ:=by
 have h:=List.takeWhile_append_dropWhile (p:=qJ) (l:=s)
 generalize s.takeWhile qJ=A at *
 generalize s.dropWhile qJ=B at *
 subst h
 simp
theorem zCN (s:List UInt8):(s.takeWhile qJ).length≤s.length:=(List.takeWhile_sublist _).length_le
theorem zJC (s:List UInt8):(s.dropWhile qJ).length≤s.length:=(List.dropWhile_sublist _).length_le
theorem qRO {s:List UInt8} {n:Int} (hc:(if s.all qJ=true then (-1:Int) else ((s.takeWhile qJ).length:Int))=n) (h:n<0):(s.takeWhile qJ).length=s.length:=by
 split at hc
 ·rename_i ha; rw [(zLE ha).1]
 omega
theorem qKT {s:List UInt8} {n:Int} (hc:(if s.all qJ=true then (-1:Int) else ((s.takeWhile qJ).length:Int))=n) (h:0≤n):n=((s.takeWhile qJ).length:Int):=by
 split at hc
 ·omega
 omega
theorem qEV (s:List UInt8):AFn Tryz.prog G 144 [.str s] (.tup [.str (s.takeWhile qJ),.str (s.dropWhile qJ)]):=by
 refine AFn.introU tok Tryz.func144 (by kernel_rfl) rfl rfl ?_
 simp only [Tryz.f144,qO,List.map_cons,List.map_nil]
 have hI:=qGY (G:=G) s 102 xK qTN
 rw [qUG] at hI
 have htw:=zGQ s
 have hle:=zCN s
 generalize hc:(if s.all qJ=true then (-1:Int) else ((s.takeWhile qJ).length:Int))=n at hI
 refine rgn [] [[],[0]] ?_
 iterate 2 refine op1 tok ?_
 refine qA (rgn [.nilp,.int .i64 n] [[],[],[0,4]] ?_)
 iterate 3 refine oq1 tok hI ?_
 refine qA ?_
 refine AW.join (α:=Unit) (fun _=>True) (fun a=>⟨zI 17 [(0,.p (.str s)),(4,.p (.int .i64 (s.takeWhile qJ).length))],[],[],0⟩) ?_ ?_
 ·
  refine rgn [] [[],[0,4,8]] ?_
  iterate 2 refine op1 tok ?_
  refine qA (cnd ?_ ?_)
  ·intro h8
   try simp at h8
   refine rgz [] [[],[],[0,4]] ?_
   iterate 3 refine op1 tok ?_
   refine qA ?_
   exact ⟨(),trivial,qE (by simp [qRO hc h8]),rfl,by simp [qRO hc h8],by simp [qRO hc h8]⟩
  intro h8
  try simp at h8
  refine AW.skip ?_
  exact ⟨(),trivial,qE (by simp [qKT hc h8]),rfl,by simp [qKT hc h8],by simp [qKT hc h8]⟩
 ·
  rintro a hI
  refine AW.seqRunDrawK tok mixed [2,3] 7 [[0],[4],[11,12],[0],[4],[14,15],[13]] [] [] (by kernel_rfl) (by intro C; conv=>lhs; simp) (by omega) (by simp [Sm.sum,Sm.foot,Sm.tch,Sm.refs]; kernel_rfl) (by intro C; conv=>lhs; simp) (by first | with_reducible exact True.intro | omega | simp | (simp +contextual; omega)) ?_
  exact AW.ret (qP (k:=by simp [htw.1,htw.2]))
theorem zIA (s:List UInt8):(zB s).length≤s.length:=(List.dropWhile_sublist _).length_le
theorem qDV {d:Dc} (h:wH d=true):1≤d.digits.length∧d.digits.length≤60∧0≤d.scale∧d.scale≤60:=by
 unfold wH at h; simp only [Bool.and_eq_true,decide_eq_true_eq] at h; omega
theorem qJY (t:List UInt8) (c:UInt8):yF t [c]=decide (t.head?=some c):=by cases t <;> simp [yF]
theorem qNL (D:List UInt8) (c:UInt8):qBG (D++[c])=qBG D * 10+(c.toNat-48):=by simp [qBG]
theorem qXU {D:List UInt8} (h:D.all qJ=true):qBG D<10 ^ D.length:=by
 have key:∀ (r:List UInt8),r.all qJ=true→qBG r.reverse<10 ^ r.length:=by
  intro r
  induction r with
  | nil=>intro _; decide
  | cons b r ih =>
   intro h
   simp only [List.all_cons,Bool.and_eq_true,qJ,yO,decide_eq_true_eq] at h
   have:=ih h.2
   rw [List.reverse_cons,qNL,List.length_cons,Nat.pow_succ]; omega
 have:=key D.reverse (by simpa using h)
 simpa using this
theorem zCO (s:List UInt8):(s.takeWhile qJ).all qJ=true:=List.all_takeWhile
theorem zGX (t:List UInt8):(wK t).length≤t.length:=by unfold wK; split <;> simp
theorem zNL {t:List UInt8} {a b:Bool} (h1:a=decide (t.head?=some 45)) (h2:b=decide (t.head?=some 43)) (h:a=true∨b=true):t.tail=wK t∧1≤t.length:=by
 subst h1; subst h2
 simp only [decide_eq_true_eq] at h
 unfold wK; rw [if_pos h]
 refine ⟨by simp, ?_⟩
 cases t with
 | nil=>simp at h
 | cons a t=>simp
theorem zCQ {t:List UInt8} {a b:Bool} (h1:a=decide (t.head?=some 45)) (h2:b=decide (t.head?=some 43)) (h:a=false∧b=false):t=wK t:=by
 subst h1; subst h2
 simp only [decide_eq_false_iff_not] at h
 unfold wK; rw [if_neg (fun h'=>h'.elim h.1 h.2)]
theorem qUO (s:List UInt8) (hs:s.length≤1000000000000):AFn Tryz.prog G 145 [.str s] (.tup [.int .i64 ((uG s).getD 0),.bool (uG s).isSome]):=by
 refine AFn.introU tok Tryz.func145 (by kernel_rfl) rfl rfl ?_
 simp only [Tryz.f145,qO,List.map_cons,List.map_nil]
 refine rgn [] [[],[0]] ?_
 iterate 2 refine op1 tok ?_
 refine qA (AW.seq (rgn [] [[],[0,11]] ?_))
 iterate 2 refine op1 tok ?_
 refine qA (cnd ?_ ?_)
 ·intro h11
  try simp at h11
  subst h11
  refine rgn [] [[],[]] ?_
  iterate 2 refine op1 tok ?_
  refine qA ?_
  exact AW.ret (qP (k:=by simp [uG]))
 intro h11
 try simp at h11
 obtain ⟨b,t,rfl⟩:∃ b t,s=b::t:=by
  cases s with
  | nil=>exact absurd rfl h11
  | cons b t=>exact ⟨b,t,rfl⟩
 have hp1:=qJY t 45
 have hp2:=qJY t 43
 have hlt:=zGX t
 simp only [List.length_cons] at hs
 refine AW.skip (AW.seq (rgn [.int .u8 b.toNat,.int .u8 b.toNat] [[],[],[],[],[],[0,15,17],[],[0,19]] ?_))
 iterate 4 refine op1 tok ?_ (hv:=by first | with_reducible exact True.intro | (simp; done) | omega | simp | (simp +contextual; omega))
 iterate 3 refine op2 tok ?_ (hv:=by first | with_reducible exact True.intro | (simp; done) | omega | simp | (simp +contextual; omega))
 refine op1 tok ?_ (hv:=by first | with_reducible exact True.intro | (simp; done) | omega | simp | (simp +contextual; omega))
 refine qA (cnd ?_ ?_)
 ·intro h19
  try simp at h19
  have he:uG (b::t)=none:=by
   unfold uG; simp only; rw [if_pos ⟨by rintro rfl; exact h19.1 rfl,by rintro rfl; exact h19.2 rfl⟩]
  refine rgn [] [[],[]] ?_
  iterate 2 refine op1 tok ?_
  refine qA ?_
  exact AW.ret (qP (k:=by simp [he]))
 intro h19
 try simp at h19
 have hb:¬ (b≠101∧b≠69):=by
  rintro ⟨h1,h2⟩
  have h1':b.toNat≠101:=fun e=>h1 (UInt8.toNat_inj.1 e)
  have h2':b.toNat≠69:=fun e=>h2 (UInt8.toNat_inj.1 e)
  have:=h19 (by omega)
  omega
 have he : uG (b :: t) = if (wK t).dropWhile qJ ≠ [] ∨ ((wK t).takeWhile qJ).length < 1 ∨ 2 < ((wK t).takeWhile qJ).length then none
   else some (if t.head?=some 45 then-(qBG ((wK t).takeWhile qJ):Int) else qBG ((wK t).takeWhile qJ)):=by
  unfold uG; simp only; rw [if_neg hb]
 rw [he]
 clear he
 have hlead:=qEV (G:=G) (wK t)
 have hall:=zCO (wK t)
 refine AW.skip (rgn [] [[],[],[0]] ?_)
 iterate 3 refine op1 tok ?_
 refine qA (rgn [.nilp,.bool (yF t [45])] [[],[],[0,4]] ?_)
 iterate 3 refine op1 tok ?_
 refine qA ?_
 refine AW.join (α:=Unit) (fun _=>True) (fun a=>⟨zI 63 [(0,.p (.str (wK t))),(4,.p (.bool (yF t [45])))],[],[],0⟩) ?_ ?_
 ·
  refine rgn [.nilp,.bool (yF t [43])] [[],[],[],[],[0,4,28]] ?_
  iterate 2 refine op1 tok ?_
  iterate 2 refine op2 tok ?_
  refine op1 tok ?_
  refine qA (cnd ?_ ?_)
  ·intro h28
   try simp at h28
   have hsT:=zNL hp1 hp2 h28
   refine rgz [] [[],[],[0,4]] ?_
   iterate 3 refine op1 tok ?_
   refine qA ?_
   exact ⟨(),trivial,qE (by simp [hsT.1]),rfl,by simp [hsT.1],by simp [hsT.1]⟩
  intro h28
  try simp at h28
  refine AW.skip ?_
  exact ⟨(),trivial,qE (by simp [(zCQ hp1 hp2 h28).symm]),rfl,by simp [(zCQ hp1 hp2 h28).symm],by simp [(zCQ hp1 hp2 h28).symm]⟩
 ·
  rintro a hI
  generalize wK t=u at *
  generalize u.takeWhile qJ=D at *
  generalize u.dropWhile qJ=E at *
  refine rgn [.nilp,.tup [.str D,.str E]] [[],[],[],[],[4,34,35],[],[4,5,6]] ?_
  iterate 7 refine oq1 tok hlead ?_
  refine qA (AW.seq (rgn [] [[],[],[],[],[4,5,38,40],[],[],[4,5,43],[],[],[],[4,5,47]] ?_))
  iterate 12 first | refine op1 tok ?_ | refine op2 tok ?_
  refine qA (cnd ?_ ?_)
  ·intro h47
   try simp at h47
   rw [if_pos (h47.elim (fun h=>h.elim .inl (fun h => .inr (.inl (by omega)))) (fun h => .inr (.inr (by omega))))]
   refine rgn [] [[],[]] ?_
   iterate 2 refine op1 tok ?_
   exact qA (AW.ret qP)
  intro h47
  try simp at h47
  rw [if_neg (by
   rintro (h | h)
   ·exact h h47.1.1
   omega)]
  have hD2:D.length≤2:=by omega
  refine AW.skip (rgn [] [[]] ?_)
  refine op1 tok ?_
  refine qA (AW.seq (rgn [] [[],[4,7,49]] ?_))
  iterate 2 refine op1 tok ?_
  refine qA (AW.block ?_)
  refine AW.loop (α:=Nat) (fun pos=>pos≤D.length) (fun pos=>⟨zI 63 [(4,.p (.bool (yF t [45]))),(7,.p (.int .i64 (qBG (D.take pos)))),(49,.it 49)],[],[(49,.iter D pos)],0⟩) (fun pos=>D.length-pos) (0) (by omega) ⟨qE (by simp [qBG]),rfl,by simp,by simp⟩ ?_
  rintro pos hp
  have hvl:qBG (D.take pos)<10 ^ (D.take pos).length:=qXU (zFQ hall pos)
  have hpw:10 ^ (D.take pos).length≤10 ^ 2:=Nat.pow_le_pow_right (by omega) (by simp; omega)
  by_cases hs14:pos<D.length
  ·
   refine rgn [.bool true] [[],[]] ?_
   iterate 2 refine oq1 tok hs14 ?_
   refine qA (AW.seq (cnd ?_ ?_))
   ·intro h51
    try simp at h51
    obtain ⟨c,hc⟩:∃ c,D[pos]?=some c:=⟨D[pos],by simp [hs14]⟩
    have hcd:qJ c=true:=List.all_eq_true.1 hall c (List.mem_of_getElem? hc)
    have hcd2:48≤c.toNat∧c.toNat≤57:=by simp [qJ,yO] at hcd; omega
    have hdl:vX D pos=(c.toNat,1):=by
     have hg:D.getD pos 0=c:=by simp [List.getD_eq_getElem?_getD,hc]
     have:=qMK (s:=D) (pos:=pos) hs14 (by rw [hg]; omega)
     rw [hg] at this; exact this
    have hsn:qBG (D.take (pos+1))=qBG (D.take pos) * 10+(c.toNat-48):=by rw [List.take_add_one,hc]; exact qNL _ _
    rw [hdl]
    refine AW.skip (AW.block (rgn [] [[],[4,7,9,49]] ?_))
    iterate 2 refine op1 tok ?_
    refine qA (rgz [] [[],[],[],[4,49,54,56],[],[],[4,7,49]] ?_)
    iterate 7 refine op1 tok ?_ (hv:=by first | with_reducible exact True.intro | (omega; done) | omega | simp | (simp +contextual; omega))
    refine qA ?_
    exact ⟨pos+1,by omega,by omega,qE (by simp [hsn,(show ((c.toNat-48:Nat):Int)=(c.toNat:Int)-48 by omega)]),rfl,by simp [hsn,(show ((c.toNat-48:Nat):Int)=(c.toNat:Int)-48 by omega)],by simp [hsn,(show ((c.toNat-48:Nat):Int)=(c.toNat:Int)-48 by omega)]⟩
   intro h51
   try simp at h51
  ·
   refine rgn [.bool false] [[],[]] ?_
   iterate 2 refine oq1 tok hs14 ?_
   refine qA (AW.seq (cnd ?_ ?_))
   ·intro h51
    try simp at h51
   intro h51
   try simp at h51
   have hpD:D.take pos=D:=List.take_of_length_le (by omega)
   rw [hpD] at hvl hpw ⊢
   refine AW.exit ?_
   simp
   refine AW.seq (rgn [] [[7,59]] ?_)
   refine op1 tok ?_
   refine qA (cnd ?_ ?_)
   ·intro h59
    try simp at h59
    rw [hp1] at h59
    have ht:t.head?=some 45:=by simpa using h59
    rw [if_pos ht]
    have hw:IntKind.i64.wrap (-(qBG D:Int)) = -(qBG D:Int):=by simp [IntKind.wrap,IntKind.bits,IntKind.signed]; omega
    refine rgz [] [[],[],[7]] ?_
    iterate 3 refine op1 tok ?_ (hv:=by first | with_reducible exact True.intro | (omega; done) | omega | simp | (simp +contextual; omega))
    refine qA (rgn [] [[],[],[2,3]] ?_)
    iterate 3 refine op1 tok ?_
    refine qA ?_
    exact AW.ret (qP (k:=by simp [hw]))
   intro h59
   try simp at h59
   rw [hp1] at h59
   have ht:¬ t.head?=some 45:=by simpa using h59
   rw [if_neg ht]
   refine AW.skip (rgn [] [[],[],[2,3]] ?_)
   iterate 3 refine op1 tok ?_
   exact qA (AW.ret qP)
theorem qQM (neg:Bool) (digits:List UInt8) (scale:Nat) (hd:digits.length≤10000000000) (hs:scale≤10000000000):AFn Tryz.prog G 36 [.bool neg,.str digits,.int .i64 scale] (.tup [(wI neg digits scale).1.enc,.int .i64 (wI neg digits scale).2]):=by
 refine AFn.introU tok Tryz.func36 (by kernel_rfl) rfl rfl ?_
 simp only [Tryz.f36,qO,List.map_cons,List.map_nil]
 have hstr:(zB digits).length≤digits.length:=zIA digits
 refine rgn [] [[],[0,1,2,6]] ?_
 iterate 2 refine op1 tok ?_
 refine qA (rgn [.nilp,.str (zB digits)] [[],[],[0,1,2,6]] ?_)
 iterate 3 refine op1 tok ?_ (hv:=by first | with_reducible exact True.intro | (exact qRQ digits 48 (by decide); done) | omega | simp | (simp +contextual; omega))
 refine qA (AW.seq (AW.block ?_))
 refine AW.loop (α:=List UInt8 × Nat) (fun a=>yB (zB digits) scale=yB a.1 a.2∧a.2≤scale∧a.1.length≤digits.length) (fun a=>⟨zI 40 [(0,.p (.bool neg)),(1,.p (.str a.1)),(2,.p (.int .i64 a.2)),(6,.ptr 6 0)],[],[(6,.vars 39 [.p (.bool false),.p (.str []),.p (.int .i64 0)])],0⟩) (fun a=>a.2) ((zB digits,scale)) ⟨rfl,Nat.le_refl _,hstr⟩ ⟨qE (by simp),rfl,by simp,by simp⟩ ?_
 rintro ⟨d,k⟩ ⟨ht,hk,hdl⟩
 simp only at ht hk hdl
 have hsf:=qRR (G:=G) d 48
 refine AW.seq (rgn [.nilp,.bool (decide (d.getLast?=some 48))] [[],[],[],[],[],[0,1,2,6,15]] ?_)
 iterate 3 refine op1 tok ?_ (hv:=by first | with_reducible exact True.intro | (first | exact fun h=>⟨h,hsf⟩ | simp; done) | omega | simp | (simp +contextual; omega))
 iterate 2 refine op2 tok ?_ (hv:=by first | with_reducible exact True.intro | (first | exact fun h=>⟨h,hsf⟩ | simp; done) | omega | simp | (simp +contextual; omega))
 refine op1 tok ?_ (hv:=by first | with_reducible exact True.intro | (first | exact fun h=>⟨h,hsf⟩ | simp; done) | omega | simp | (simp +contextual; omega))
 refine qA (cnd ?_ ?_)
 ·intro h15
  try simp at h15
  obtain ⟨k,rfl⟩:∃ k',k=k'+1:=⟨k-1,by omega⟩
  have hl:d.getLast?=some 48:=by simpa using h15.2
  have hpos:0<d.length:=by cases d with
   | nil=>simp at hl
   | cons=>simp
  have ht':yB (zB digits) scale=yB d.dropLast k:=by rw [ht]; simp only [yB]; rw [if_pos hl]
  refine AW.skip (AW.block (rgz [] [[],[],[],[],[0,2,6,20],[],[],[],[0,1,2,6]] ?_))
  iterate 9 refine op1 tok ?_ (hv:=by first | with_reducible exact True.intro | (omega; done) | omega | simp | (simp +contextual; omega))
  refine qA ?_
  exact ⟨(d.dropLast,k),⟨ht',by simp only []; omega,by simp; omega⟩,by simp,qE (by simp [vY]),rfl,by simp [vY],by simp [vY]⟩
 intro h15
 try simp at h15
 have htl:yB (zB digits) scale=(d,k):=by
  rw [ht]
  cases k with
  | zero=>rfl
  | succ k =>
   simp only [yB]
   rw [if_neg]
   intro hl
   have:=h15 (by omega)
   simp [hl] at this
 have hN:wI neg digits scale=if d=[] then (⟨false,[48],0⟩,0) else if 60<d.length∨60<k then (⟨false,[],0⟩,3) else (⟨neg,d,k⟩,0):=by unfold wI; simp only [htl]
 rw [hN]
 refine AW.exit ?_
 simp
 refine AW.seq (AW.block (rgn [] [[],[],[0,1,2,6,23]] ?_))
 iterate 3 refine op1 tok ?_
 refine qA (cnd ?_ ?_)
 ·intro h23
  try simp at h23
  subst h23
  refine rgn [] [[],[],[6,7]] ?_
  iterate 3 refine op1 tok ?_
  exact qA (AW.ret qP)
 intro h23
 try simp at h23
 rw [if_neg h23]
 refine rgn [] [[],[],[],[],[],[0,1,2,6,31,33],[],[0,1,2,6,27]] ?_
 iterate 4 refine op1 tok ?_
 iterate 2 refine op2 tok ?_
 iterate 2 refine op1 tok ?_
 refine qA (cnd ?_ ?_)
 ·intro h27
  try simp at h27
  rw [if_pos (by omega)]
  refine rgn [] [[],[],[6,7]] ?_
  iterate 3 refine op1 tok ?_
  exact qA (AW.ret qP)
 intro h27
 try simp at h27
 rw [if_neg (by omega)]
 refine AW.skip (rgn [] [[],[],[],[6,39],[],[6,7]] ?_)
 iterate 6 refine op1 tok ?_
 exact qA (AW.ret qP)
theorem zFD (s:List UInt8):xY s [45]=yZ s∧yF s [45]=qLP s:=by
 have h:=qJY s 45
 unfold xY yZ qLP
 rw [h]
 refine ⟨?_,rfl⟩
 simp
theorem zIF (s:List UInt8):(yZ s).length≤s.length:=by unfold yZ; split <;> simp
theorem zKH {W:List UInt8} (h:(((W[0]?.getD 0).toNat:Nat):Int)=48):W.head?=some 48:=by
 cases W with
 | nil=>simp at h
 | cons b W=>simp at h ⊢; exact UInt8.toNat_inj.1 (by show b.toNat=48; omega)
theorem zIW (n:Nat):Lib.repeatL [48] n=zH n:=by
 unfold zH
 induction n with
 | zero=>rfl
 | succ n ih=>simp only [Lib.repeatL,List.replicate_succ,ih]; rfl
theorem qWX (q:List UInt8) : -99≤(uG q).getD 0∧(uG q).getD 0≤99:=by
 unfold uG
 split
 ·simp
 rename_i b t
 split
 ·simp
 split
 ·simp
 rename_i h
 have h1:=qXU (zCO (wK t))
 have h2:10 ^ ((wK t).takeWhile qJ).length≤10 ^ 2:=Nat.pow_le_pow_right (by omega) (by omega)
 simp only [Option.getD_some]
 split <;> omega
theorem qVJ (s:List UInt8) (hs:s.length≤1000000000):AFn Tryz.prog G 118 [.str s] (.tup [(zJ s).1.enc,.int .i64 (zJ s).2]):=by
 refine AFn.introU tok Tryz.func118 (by kernel_rfl) rfl rfl ?_
 simp only [Tryz.f118,qO,List.map_cons,List.map_nil]
 have hbp:=zFD s
 have hbl:=zIF s
 have hP:zJ s=match vI ((yZ s).dropWhile qJ) with
  | none=>kS
  | some (P,r)=>qMF (qLP s) ((yZ s).takeWhile qJ) P (uG r):=rfl
 rw [hP]
 clear hP
 have hl1:=qEV (G:=G) (yZ s)
 have hw1:=zCN (yZ s)
 have hw2:=zJC (yZ s)
 have hcp:=qBU (G:=G) s [45]
 rw [hbp.1,hbp.2] at hcp
 generalize yZ s=u at *
 generalize qLP s=ng at *
 generalize u.takeWhile qJ=W at *
 generalize u.dropWhile qJ=r at *
 have hcr:=qBU (G:=G) r [46]
 have hr46:=qJY r 46
 have hcut:xY r [46]=if r.head?=some 46 then r.drop 1 else r:=by unfold xY; rw [hr46]; simp
 have hl2:=qEV (G:=G) (r.drop 1)
 have hv1:=zCN (r.drop 1)
 have hv2:=zJC (r.drop 1)
 rw [List.length_drop] at hv1 hv2
 refine rgn [] [[],[0,2]] ?_
 iterate 2 refine op1 tok ?_
 refine qA (rgn [.nilp,.tup [.str u,.bool ng]] [[],[],[],[],[2,17,18],[],[2,4,5]] ?_)
 iterate 7 refine oq1 tok hcp ?_
 refine qA (rgn [.nilp,.tup [.str W,.str r]] [[],[],[],[],[2,5,22,23],[],[2,4,5,6]] ?_)
 iterate 7 refine oq1 tok hl1 ?_
 refine qA (rgn [] [[]] ?_)
 refine op1 tok ?_
 refine qA ?_
 refine AW.join (α:=List UInt8 × List UInt8) (fun a=>vI r=some (a.1,a.2)∧a.1.length≤s.length∧a.2.length≤s.length) (fun a=>⟨zI 80 [(2,.ptr 2 0),(4,.p (.str a.2)),(5,.p (.bool ng)),(6,.p (.str W)),(7,.p (.str a.1))],[],[(2,.vars 39 [.p (.bool false),.p (.str []),.p (.int .i64 0)])],0⟩) ?_ ?_
 ·
  refine rgn [.nilp,.tup [.str (xY r [46]),.bool (yF r [46])]] [[],[],[],[],[],[2,4,5,6,7,8,28],[2,4,5,6,7,8,9]] ?_
  iterate 7 refine oq1 tok hcr ?_
  refine qA (rgn [] [[2,4,5,6,7,8,29]] ?_)
  refine op1 tok ?_
  refine qA (cnd ?_ ?_)
  ·intro h29
   try simp at h29
   have hh:r.head?=some 46:=by rw [hr46] at h29; simpa using h29
   rw [if_pos hh] at hcut
   rw [hcut]
   have hF:vI r=if (r.drop 1).takeWhile qJ=[] then none else some ((r.drop 1).takeWhile qJ,(r.drop 1).dropWhile qJ):=by unfold vI; rw [if_pos hh]
   rw [hF]
   generalize (r.drop 1).takeWhile qJ=P at *
   generalize (r.drop 1).dropWhile qJ=q at *
   rw [List.drop_one] at hl2
   refine rgn [.nilp,.tup [.str P,.str q]] [[],[],[],[],[2,5,6,33,34],[],[2,4,5,6,7]] ?_
   iterate 7 refine oq1 tok hl2 ?_
   refine qA (rgn [] [[],[2,4,5,6,7,36]] ?_)
   iterate 2 refine op1 tok ?_
   refine qA (cnd ?_ ?_)
   ·intro h36
    try simp at h36
    rw [if_pos h36]
    refine rgn [] [[],[],[2,3]] ?_
    iterate 3 refine op1 tok ?_
    refine qA ?_
    exact AW.ret (qP (k:=by simp [kS]))
   intro h36
   try simp at h36
   rw [if_neg h36]
   refine AW.skip ?_
   exact ⟨(P,q),⟨rfl,by simp only []; omega,by simp only []; omega⟩,qE (by simp),rfl,by simp,by simp⟩
  intro h29
  try simp at h29
  have hh:¬ r.head?=some 46:=by rw [hr46] at h29; simpa using h29
  have hF:vI r=some ([],r):=by unfold vI; rw [if_neg hh]
  rw [hF]
  refine AW.skip ?_
  exact ⟨([],r),⟨rfl,by simp,by simp only []; omega⟩,qE (by simp),rfl,by simp,by simp⟩
 ·
  rintro ⟨P,q⟩ ⟨hf,hpl,hql⟩
  simp only at hpl hql
  rw [hf]
  simp only
  have hex:=qUO (G:=G) q (by omega)
  have hrg:=qWX q
  generalize uG q=e at *
  have hix:∀ h:W≠[],W[0]?=some (W.getD 0 0):=fun h=>qUI (List.length_pos_iff.2 h)
  refine rgn [.nilp,.tup [.int .i64 (e.getD 0),.bool e.isSome]] [[],[],[],[],[2,5,6,7,41,42],[],[2,5,6,7,10,11]] ?_
  iterate 7 refine oq1 tok hex ?_
  refine qA (AW.seq (rgn [.int .u8 (W.getD 0 0).toNat] [[],[],[],[],[2,5,6,7,10,45,47],[],[],[],[2,5,6,7,10,49,51],[],[],[],[],[2,5,6,7,10,49,53,56],[],[2,5,6,7,10,58]] ?_))
  iterate 16 first | refine op1 tok ?_ (hv:=by first | with_reducible exact True.intro | (first | exact fun h1 h2 h3=>⟨⟨⟨h1,h2⟩,h3⟩,_,hix h2,rfl⟩ | exact fun h1 h2=>⟨⟨h1,h2⟩,fun h3=>⟨⟨h1,h2⟩,h3⟩⟩ | simp; done) | omega | simp | (simp +contextual; omega)) | refine op2 tok ?_ (hv:=by first | with_reducible exact True.intro | (first | exact fun h1 h2 h3=>⟨⟨⟨h1,h2⟩,h3⟩,_,hix h2,rfl⟩ | exact fun h1 h2=>⟨⟨h1,h2⟩,fun h3=>⟨⟨h1,h2⟩,h3⟩⟩ | simp; done) | omega | simp | (simp +contextual; omega))
  refine qA (cnd ?_ ?_)
  ·intro h58
   try simp at h58
   have hbad:qMF ng W P e=kS:=by
    cases e with
    | none=>rfl
    | some up =>
     simp only [qMF]
     rw [if_pos]
     rcases h58 with (h | h) | h
     ·cases h
     ·exact .inl h
     exact .inr ⟨by omega,zKH h.2⟩
   rw [hbad]
   refine rgn [] [[],[],[2,3]] ?_
   iterate 3 refine op1 tok ?_
   refine qA ?_
   exact AW.ret (qP (k:=by simp [kS]))
  intro h58
  try simp at h58
  obtain ⟨up,rfl⟩:∃ up,e=some up:=by
   cases e with
   | none=>exact absurd rfl h58.1.1
   | some up=>exact ⟨up,rfl⟩
  have hend:qMF ng W P (some up)=jN ng (W++P) (P.length-up):=by
   simp only [qMF]; rw [if_neg]
   rintro (h | ⟨h,h'⟩)
   ·exact h58.1.2 h
   refine h58.2 (by omega) ?_
   cases W with
   | nil=>simp at h'
   | cons b W=>simp at h'; subst h'; rfl
  rw [hend]
  simp only [Option.getD_some] at hrg ⊢
  have hWP:(W++P).length≤2000000000:=by simp; omega
  refine AW.skip (rgn [] [[],[],[],[2,5,10,62,63],[],[],[2,5,62,66],[],[2,5,12,13]] ?_)
  iterate 9 refine op1 tok ?_
  refine qA (AW.seq (rgn [] [[],[2,5,12,13,68]] ?_))
  iterate 2 refine op1 tok ?_
  refine qA (cnd ?_ ?_)
  ·intro h68
   try simp at h68
   obtain ⟨z,hz⟩:∃ z:Nat,(z:Int)=up-P.length:=⟨(up-P.length).toNat,by omega⟩
   have hw3:IntKind.i64.wrap (-((P.length:Int)-up))=(z:Int):=by simp [IntKind.wrap,IntKind.bits,IntKind.signed]; omega
   have hrp:=qPJ (G:=G) [48] z (by simp; omega)
   rw [zIW] at hrp
   have hL:jN ng (W++P) ((P.length:Int)-up)=wI ng (W++(P++zH z)) 0:=by
    unfold jN; rw [if_pos h68,show (-((P.length:Int)-up)).toNat=z by omega,List.append_assoc]
   have hzl:(zH z).length=z:=by simp [zH]
   rw [hL]
   have hmd:=qQM (G:=G) ng (W++(P++zH z)) 0 (by simp [zH] at hWP ⊢; omega) (by omega)
   refine rgz [.nilp,.str (zH z)] [[],[],[],[2,5,69,72],[],[],[2,5,12,13]] ?_
   iterate 7 refine op1 tok ?_ (hv:=by first | with_reducible exact True.intro | (first | (rw [hw3]; exact hrp) | (simp at hWP; omega); done) | omega | simp | (simp +contextual; omega))
   refine qA (rgn [.nilp,.tup [(wI ng (W++(P++zH z)) 0).1.enc,.int .i64 (wI ng (W++(P++zH z)) 0).2]] [[],[],[],[2,77],[],[],[],[2,3]] ?_)
   iterate 8 refine oq1 tok hmd ?_
   exact qA (AW.ret qP)
  intro h68
  try simp at h68
  obtain ⟨sc,hsc⟩:∃ sc:Nat,(sc:Int)=P.length-up:=⟨((P.length:Int)-up).toNat,by omega⟩
  have hL:jN ng (W++P) ((P.length:Int)-up)=wI ng (W++P) sc:=by
   unfold jN; rw [if_neg (by omega),show ((P.length:Int)-up).toNat=sc by omega]
  rw [hL]
  have hmd:=qQM (G:=G) ng (W++P) sc (by omega) (by omega)
  rw [hsc] at hmd
  refine AW.skip (rgn [.nilp,.tup [(wI ng (W++P) sc).1.enc,.int .i64 (wI ng (W++P) sc).2]] [[],[],[],[2,77],[],[],[],[2,3]] ?_)
  iterate 8 refine oq1 tok hmd ?_
  exact qA (AW.ret qP)
theorem qJD (d:Dc) (hd:wH d=true):AFn Tryz.prog G 40 [d.enc] (.str (yI d)):=by
 refine AFn.introU tok Tryz.func40 (by kernel_rfl) rfl rfl ?_
 simp only [Tryz.f40,qO,List.map_cons,List.map_nil]
 have hb:=qDV hd
 have hrp:=qPJ (G:=G) [48] (d.scale.toNat+1-d.digits.length) (by simp; omega)
 rw [zIW] at hrp
 have hmx:(if (d.digits.length:Int)<d.scale+1 then d.scale+1-d.digits.length else 0)=((d.scale.toNat+1-d.digits.length:Nat):Int):=by split <;> omega
 have hzl:(zH (d.scale.toNat+1-d.digits.length)).length=d.scale.toNat+1-d.digits.length:=by simp [zH]
 have hpl:(wB d).length=d.scale.toNat+1-d.digits.length+d.digits.length:=by simp [wB,zH]
 have hP:yI d=(if d.neg=true then [45] else [])++(if d.scale=0 then wB d else (wB d).take ((wB d).length-d.scale.toNat)++46::(wB d).drop ((wB d).length-d.scale.toNat)):=rfl
 have hpad:zH (d.scale.toNat+1-d.digits.length)++d.digits=wB d:=rfl
 rw [hP]
 refine rgn [] [[],[1]] ?_
 iterate 2 refine op1 tok ?_
 refine qA ?_
 refine AW.seqRunDrawK tok mixed [1,3] 12 [[1],[6],[7],[1],[9],[10],[8,11],[12],[13],[1],[15],[14,16]] [.nilp,.str (zH (d.scale.toNat+1-d.digits.length))] [] (by kernel_rfl) (by intro C; conv=>lhs; simp) (by rw [hmx]; refine ⟨by omega,by omega,hrp,by omega⟩) (by simp [Sm.sum,Sm.foot,Sm.tch,Sm.refs]; kernel_rfl) (by intro C; conv=>lhs; simp) (by first | with_reducible exact True.intro | omega | simp | (simp +contextual; omega)) ?_
 refine rgn [] [[]] ?_
 refine op1 tok ?_
 refine qA ?_
 refine AW.join (α:=Unit) (fun _=>True) (fun a=>⟨zI 41 [(1,.ptr 1 0),(3,.p (.str (wB d))),(4,.p (.str (if d.neg=true then [45] else [])))],[],[(1,.vars 39 [.p (.bool d.neg),.p (.str d.digits),.p (.int .i64 d.scale)])],0⟩) ?_ ?_
 ·
  refine rgn [] [[],[1,3,4,19]] ?_
  iterate 2 refine op1 tok ?_
  refine qA (cnd ?_ ?_)
  ·intro h19
   try simp at h19
   refine rgz [] [[]] ?_
   refine op1 tok ?_
   refine qA ?_
   exact ⟨(),trivial,qE (by simp [hpad,h19]),rfl,by simp [hpad,h19],by simp [hpad,h19]⟩
  intro h19
  try simp at h19
  refine AW.skip ?_
  exact ⟨(),trivial,qE (by simp [hpad,h19]),rfl,by simp [hpad,h19],by simp [hpad,h19]⟩
 ·
  rintro a hI
  have hsg:(if d.neg=true then [45] else []:List UInt8).length≤1:=by split <;> simp
  generalize (if d.neg=true then [45] else []:List UInt8)=sg at *
  have hk:((wB d).length-d.scale).toNat=(wB d).length-d.scale.toNat:=by omega
  generalize wB d=pd at *
  refine AW.seq (rgn [] [[],[],[1,3,4,22]] ?_)
  iterate 3 refine op1 tok ?_
  refine qA (cnd ?_ ?_)
  ·intro h22
   try simp at h22
   refine rgn [] [[],[],[25],[2]] ?_
   iterate 4 refine op1 tok ?_ (hv:=by first | with_reducible exact True.intro | (omega; done) | omega | simp | (simp +contextual; omega))
   refine qA ?_
   exact AW.ret (qP (k:=by simp [h22]))
  intro h22
  try simp at h22
  refine AW.skip (rgn [] [[],[],[],[],[3,4,30],[3,4,5]] ?_)
  iterate 6 refine op1 tok ?_
  refine qA ?_
  refine AW.seqRunDrawK tok mixed [2] 10 [[4],[3],[5],[32,33],[31,34],[35],[3],[5],[37,38],[36,39]] [] [] (by kernel_rfl) (by intro C; conv=>lhs; simp) (by omega) (by simp [Sm.sum,Sm.foot,Sm.tch,Sm.refs]; kernel_rfl) (by intro C; conv=>lhs; simp) (by first | with_reducible exact True.intro | omega | simp | (simp +contextual; omega)) ?_
  exact AW.ret (qP (k:=by simp [h22,hk]))
theorem qVF (d:Dc) (hd:wH d=true):AFn Tryz.prog G 32 [d.enc] (.str (yI d)):=by
 refine AFn.introU tok Tryz.func32 (by kernel_rfl) rfl rfl ?_
 simp only [Tryz.f32,qO,List.map_cons,List.map_nil]
 have hb:=qDV hd
 have hzl:(zH (d.scale.toNat+1-d.digits.length)).length=d.scale.toNat+1-d.digits.length:=by simp [zH]
 have hpl:(wB d).length=d.scale.toNat+1-d.digits.length+d.digits.length:=by simp [wB,zH]
 have hP:yI d=(if d.neg=true then [45] else [])++(if d.scale=0 then wB d else (wB d).take ((wB d).length-d.scale.toNat)++46::(wB d).drop ((wB d).length-d.scale.toNat)):=rfl
 have hpad:zH (d.scale.toNat+1-d.digits.length)++d.digits=wB d:=rfl
 rw [hP]
 have hz:=qRT (G:=G) (d.scale-d.digits.length+1) (by omega)
 rw [show (d.scale-(d.digits.length:Int)+1).toNat=d.scale.toNat+1-d.digits.length by omega] at hz
 refine rgn [] [[],[1]] ?_
 iterate 2 refine op1 tok ?_
 refine qA (rgn [] [[],[],[1,3]] ?_)
 iterate 3 refine op1 tok ?_
 refine qA ?_
 refine AW.join (α:=Unit) (fun _=>True) (fun a=>⟨zI 44 [(1,.ptr 1 0),(3,.p (.str (wB d)))],[],[(1,.vars 39 [.p (.bool d.neg),.p (.str d.digits),.p (.int .i64 d.scale)])],0⟩) ?_ ?_
 ·
  refine rgn [] [[],[],[],[],[1,3,10]] ?_
  iterate 5 refine op1 tok ?_
  refine qA (cnd ?_ ?_)
  ·intro h10
   try simp at h10
   refine rgz [.nilp,.str (zH (d.scale.toNat+1-d.digits.length))] [[],[],[],[],[1,3,15],[],[],[],[1,19],[1,3]] ?_
   iterate 10 refine oq1 tok hz ?_
   refine qA ?_
   exact ⟨(),trivial,qE (by simp [hpad]),rfl,by simp [hpad],by simp [hpad]⟩
  intro h10
  try simp at h10
  have hnp:wB d=d.digits:=by unfold wB; rw [show d.scale.toNat+1-d.digits.length=0 by omega]; rfl
  refine AW.skip ?_
  exact ⟨(),trivial,qE (by simp [hnp]),rfl,by simp [hnp],by simp [hnp]⟩
 ·
  rintro a hI
  have hk:((wB d).length-d.scale).toNat=(wB d).length-d.scale.toNat:=by omega
  generalize wB d=pd at *
  refine AW.seq (rgn [] [[],[],[1,3,22]] ?_)
  iterate 3 refine op1 tok ?_
  refine qA (cnd ?_ ?_)
  ·intro h22
   try simp at h22
   refine AW.runDrawK tok mixed [1,3] 16 [[3],[3],[24],[1],[26],[25,27],[23,28],[29],[3],[3],[32],[1],[34],[33,35],[31,36],[30,37]] [] [] (by kernel_rfl) (by intro C; conv=>lhs; simp) (by omega) (by simp [Sm.sum,Sm.foot,Sm.tch,Sm.refs]; kernel_rfl) (by intro C; conv=>lhs; simp) (by first | with_reducible exact True.intro | omega | simp | (simp +contextual; omega)) ?_
   refine AW.seq (rgn [] [[],[3,40]] ?_)
   iterate 2 refine op1 tok ?_
   refine qA (cnd ?_ ?_)
   ·intro h40
    try simp at h40
    refine rgn [] [[],[],[2]] ?_
    iterate 3 refine op1 tok ?_
    refine qA ?_
    exact AW.ret (qP (k:=by simp [show ¬ d.scale=0 by omega,h40,hk]))
   intro h40
   try simp at h40
   refine AW.skip (rgn [] [[],[2]] ?_)
   iterate 2 refine op1 tok ?_
   refine qA ?_
   exact AW.ret (qP (k:=by simp [show ¬ d.scale=0 by omega,h40,hk]))
  intro h22
  try simp at h22
  refine AW.skip (AW.seq (rgn [] [[],[3,40]] ?_))
  iterate 2 refine op1 tok ?_
  refine qA (cnd ?_ ?_)
  ·intro h40
   try simp at h40
   refine rgn [] [[],[],[2]] ?_
   iterate 3 refine op1 tok ?_
   refine qA ?_
   exact AW.ret (qP (k:=by simp [show d.scale=0 by omega,h40]))
  intro h40
  try simp at h40
  refine AW.skip (rgn [] [[],[2]] ?_)
  iterate 2 refine op1 tok ?_
  refine qA ?_
  exact AW.ret (qP (k:=by simp [show d.scale=0 by omega,h40]))
end Go.Proofs.YtlmedakhioiahaaGreatDoor
namespace Go.Proofs.YtlmedakhioiahaaGreatDoor.Sy
open Go
section
variable {P:Program} {T:Tab} {G:qR} {st:St}
theorem zGD {o:Oper} {t ty:TypeId} {x:Operand} {p:Prop} (b:Bool) (ho:o.op = .binOp .eql t x (.const .nilIface) ty) (ht:qQR P t=true) (ha:st.arg G x=(p,.p (if b=true then .noerr else .err))) (hp:p):zE P G o st (.p (.bool b)) st:=by
 obtain ⟨ms,ht⟩:=qQQ ht
 intro c M μ tmps w hg r
 have h1:=(qF hg r ha hp).p_inv
 generalize hu:Act.eval ⟨tmps,[]⟩ x=u at h1
 have e1:(execOp (Act.eval ⟨tmps,[]⟩) o).run P w = .ok (.value (.bool b)) w:=by
  cases b with
  | false =>
   simp only [Bool.false_eq_true,if_false] at h1
   cases h1 with
   | @err t' v' =>
   have he:(Op.equal t (.iface t' v') .nilIface).run P w = .ok false w:=zKK 9999 ht t' v' w
   have hg':(eqGuard .eql t x (.const .nilIface) (.iface t' v') .nilIface).run P w = .ok () w:=by simp only [eqGuard]; rfl
   have hb2:(binOp .eql t (.iface t' v') .nilIface).run P w = .ok (.bool false) w:=by
    show (do pure (.bool (← Op.equal t (.iface t' v') .nilIface)):Sem Value).run P w=_
    simp only [Sem.run_bind,he,Result.andThen]; rfl
   simp [execOp,ho,hu,hg',hb2,show Act.eval ⟨tmps,[]⟩ (.const .nilIface) = .nilIface from rfl]
  | true =>
   simp only [if_true] at h1
   cases h1
   have he:(Op.equal t .nilIface .nilIface).run P w = .ok true w:=zEM 9999 ht w
   have hg':(eqGuard .eql t x (.const .nilIface) .nilIface .nilIface).run P w = .ok () w:=by simp only [eqGuard]; simp
   have hb2:(binOp .eql t .nilIface .nilIface).run P w = .ok (.bool true) w:=by
    show (do pure (.bool (← Op.equal t .nilIface .nilIface)):Sem Value).run P w=_
    simp only [Sem.run_bind,he,Result.andThen]; rfl
   simp [execOp,ho,hu,hg',hb2,show Act.eval ⟨tmps,[]⟩ (.const .nilIface) = .nilIface from rfl]
 rw [e1]
 exact ⟨M,μ,r,.p (.bool b)⟩
theorem qKB (hT : TOK P T) {o : Oper} {t : TypeId} {a : Operand} (ho : o.op = .load t a) {ti : TI} (ht : T t = some ti) (hag : ti.k.agg = false) {p : Prop} {id off : Nat} (ha : st.arg G a = (p, .ptr id off)) (hp : p) {e : TypeId} {cs : List V}
  (hb:zW id st.H=some (.vars e cs)) {y:V} (hy:cs[off]?=some y):zE P G o st y st:=by
 have hd:cs.drop off=y::cs.drop (off+1):=by
  obtain ⟨h1,h2⟩:=List.getElem?_eq_some_iff.1 hy
  rw [List.drop_eq_getElem_cons h1,h2]
 refine vA hT (orc:=[]) (orc':=[]) (v:=p∧True) ?_ ⟨hp,trivial⟩
 rw [ho]
 simp only [kO,ha,qLU,ht,hb,hag,hd]
theorem qID (hT : TOK P T) {o : Oper} {t : TypeId} {a x : Operand} (ho : o.op = .store t a x) {ti : TI} (ht : T t = some ti) (hs : ti.size = 1) {p q : Prop} {id off : Nat} (ha : st.arg G a = (p, .ptr id off)) (hp : p) {v : V} (hx : st.arg G x = (q, v)) (hq : q) (hv : v.cells = some [v]) {e : TypeId} {cs : List V}
  (hb:zW id st.H=some (.vars e cs)) (hoff:off<cs.length) {cs':List V} (hc:cs.set off v=cs') {H':List (Nat × Box)} (hH:zZ id (.vars e cs') st.H=H'):zE P G o st .dead { st with H:=H' }:=by
 have h:=qXR hT ho ht ha hp hx hq hb hv (by rw [hs]; rfl) (by simp only [List.length_singleton]; omega)
 rw [qKS _ _ _ hoff,hc,hH] at h
 exact h
end
section
variable {P:Program} {G:qR} {st st' st0:St} {rest:List Oper} {ts:List Nat} {tss:List (List Nat)} {acc:qDG} {o:Oper} {K:qDG→St→Prop}
theorem xD.q (ids : List Nat) (x : V) (hgd : o.guard = none) (y : zE P G o ⟨yL st.tmps ts, ids, [], st.base⟩ x ⟨yL st.tmps ts, ids, [], st.base⟩) (hids : ∀ i ∈ V.ids x, i ∈ ids) (hn : ndB st.H = true)
  (hst:st.after o.dst ⟨x,[],[],ids,[],true⟩=st') (k:xD P G st0 rest tss st' (acc++[(Sm.mk x [] [] ids [] true).sum]) K):xD P G st0 (o::rest) (ts::tss) st acc K:=by
 subst hst
 obtain ⟨sms,st1,e,hk⟩:=k
 have hgood:∀ i∈V.ids x++xL ([]:List (Nat × Box)),i∈ids∨i∈([]:List Nat):=fun i hi => .inl (hids i (by simpa [xL] using hi))
 refine ⟨⟨x,[],[],ids,[],true⟩::sms,st1,.one hgd (yT hn) ⟨fun _=>rfl,hgood,fun i hi=>by simp [qM] at hi,by simp⟩ (by simp) (fun c M μ st' tmps w R K hG rel hle hbox hnw k => ?_) e,by simpa using hk⟩
 exact qCS (s:=⟨x,[],[],ids,[],true⟩) (small:=⟨yL st.tmps ts,ids,[],st.base⟩) (s':=⟨yL st.tmps ts,ids,[],st.base⟩) rfl (by simp) rfl (fun i hi=>hi) (fun i hi=>by simp [qM] at hi) hgood y c M μ st' tmps w R K hG rel hle hbox hnw k
end
end Go.Proofs.YtlmedakhioiahaaGreatDoor.Sy
namespace Go.Proofs.YtlmedakhioiahaaGreatDoor
open Sy Go
set_option maxRecDepth 100000
set_option maxHeartbeats 4000000
set_option linter.unusedSimpArgs false
set_option linter.unusedVariables false
variable {G:qR}
theorem zHB (l:List UInt8) (hl:l.length≤1000000):AX Tryz.prog G 35 [.ms 90] [(90,.row 5 1 (qG l))] (.tuple []) [90] [(90,.row 5 1 (qG l.reverse))]:=by
 refine AX.introU tok 700 Tryz.func35 (by kernel_rfl) rfl rfl ?_
 simp only [Tryz.f35,qO,List.map_cons,List.map_nil]
 refine rgn [] [[],[],[],[],[0,2,3]] ?_
 iterate 5 refine op1 tok ?_
 refine qA (AW.block ?_)
 refine AW.loop (α:=Nat) (fun k=>k≤l.length) (fun k=>⟨zI 28 [(0,.ms 90),(2,.p (.int .i64 k)),(3,.p (.int .i64 ((l.length:Int)-1-k)))],[90],[(90,.row 5 1 (qG (qNA l k)))],700⟩) (fun k=>l.length-k) (0) (by omega) ⟨qE (by simp),rfl,by simp [qZX],by simp⟩ ?_
 rintro k hk
 have hlen:=qAQ l k
 refine AW.seq (rgn [] [[],[],[0,2,3,9]] ?_)
 iterate 3 refine op1 tok ?_
 refine qA (cnd ?_ ?_)
 ·intro h9
  try simp at h9
  have h2:2 * k+1<l.length:=by omega
  have g1:=qAR l k (i:=k) (by omega)
  have g2:=qAR l k (i:=l.length-1-k) (by omega)
  rw [if_neg (by omega)] at g1 g2
  have hst:=qZY l h2
  generalize l.getD k 0=x at *
  generalize l.getD (l.length-1-k) 0=y at *
  generalize qNA l k=R at *
  have hix:((l.length:Int)-1-k).toNat=l.length-1-k:=by omega
  have b1:(qG R)[k]?=some (.int .u8 x.toNat):=qFH g1
  have b2:(qG R)[l.length-1-k]?=some (.int .u8 y.toNat):=qFH g2
  have b3:((qG R).set k (.int .u8 y.toNat))[l.length-1-k]?=some (.int .u8 y.toNat):=by rw [List.getElem?_set_ne (by omega)]; exact b2
  refine AW.skip (AW.seq (AW.block ?_))
  refine AW.drawR mixed 14 [[0],[2],[0],[3],[0],[3],[18,19],[20],[0],[2],[22,23],[24],[14,15],[26,21]] [.int .u8 y.toNat,.int .u8 x.toNat] (by kernel_rfl) ?_
  iterate 2 refine xD.one tok (orc:=[]) (by intro C; conv=>lhs; simp) (by first | with_reducible exact True.intro | (first | (simp [b1,b2,hix,hlen]; done) | (simp [b1,b2,hix,hlen]; omega); done) | omega | simp | (simp +contextual; omega)) rfl (by kernel_rfl) ?_
  refine xD.q [90] (.ms 90) rfl (vA tok (orc:=[]) (orc':=[]) (v:=True) (by conv=>lhs; simp) trivial) (by simp) (by kernel_rfl) (by conv=>lhs; simp) ?_
  iterate 4 refine xD.one tok (orc:=[]) (by intro C; conv=>lhs; simp) (by first | with_reducible exact True.intro | (first | (simp [b1,b2,hix,hlen]; done) | (simp [b1,b2,hix,hlen]; omega); done) | omega | simp | (simp +contextual; omega)) rfl (by kernel_rfl) ?_
  refine xD.one tok (orc:=[.int .u8 y.toNat]) (by intro C; conv=>lhs; simp) (by first | with_reducible exact True.intro | (first | (simp [b1,b2,hix,hlen]; done) | (simp [b1,b2,hix,hlen]; omega); done) | omega | simp | (simp +contextual; omega)) rfl (by kernel_rfl) ?_
  iterate 3 refine xD.one tok (orc:=[]) (by intro C; conv=>lhs; simp) (by first | with_reducible exact True.intro | (first | (simp [b1,b2,hix,hlen]; done) | (simp [b1,b2,hix,hlen]; omega); done) | omega | simp | (simp +contextual; omega)) rfl (by kernel_rfl) ?_
  refine xD.one tok (orc:=[.int .u8 x.toNat]) (by intro C; conv=>lhs; simp) (by first | with_reducible exact True.intro | (first | (simp [b1,b2,hix,hlen]; done) | (simp [b1,b2,hix,hlen]; omega); done) | omega | simp | (simp +contextual; omega)) rfl (by kernel_rfl) ?_
  refine xD.one tok (orc:=[]) (by intro C; conv=>lhs; simp) (by first | with_reducible exact True.intro | (first | (simp [b1,b2,hix,hlen]; done) | (simp [b1,b2,hix,hlen]; omega); done) | omega | simp | (simp +contextual; omega)) rfl (by kernel_rfl) ?_
  refine xD.one tok (orc:=[.int .u8 x.toNat,.int .u8 y.toNat]) (by intro C; conv=>lhs; simp) (by first | with_reducible exact True.intro | (first | (simp [b1,b2,hix,hlen]; done) | (simp [b1,b2,hix,hlen]; omega); done) | omega | simp | (simp +contextual; omega)) rfl (by kernel_rfl) ?_
  refine xD.nil (by kernel_rfl) ⟨by kernel_rfl, ?_⟩
  refine qB.run [[],[0,2,3]] ?_
  iterate 2 refine op1 tok ?_ (hv:=by first | with_reducible exact True.intro | (first | (simp [b3,hix,hlen]; done) | (simp [b3,hix,hlen]; omega); done) | omega | simp | (simp +contextual; omega))
  refine qA (rgz [] [[],[],[],[0,11,13],[],[0,2,3]] ?_)
  iterate 6 refine op1 tok ?_
  refine qA ?_
  exact ⟨k+1,by omega,by omega,qE (by simp [← hst,qDC,show (l.length:Int)-1-k-1=l.length-1-(k+1) from by omega]),rfl,by simp [← hst,qDC,show (l.length:Int)-1-k-1=l.length-1-(k+1) from by omega],by simp [← hst,qDC,show (l.length:Int)-1-k-1=l.length-1-(k+1) from by omega]⟩
 intro h9
 try simp at h9
 have hall:=zCW l (k:=k) (by omega)
 rw [← hall]
 refine AW.exit ?_
 simp
 exact qIW
theorem zBW (n:Int) (h0 : -9223372036854775808≤n) (h1:n≤9223372036854775807):AFn Tryz.prog G 19 [.int .i64 n] ((uM n).enc):=by
 refine AFn.introU tok Tryz.func19 (by kernel_rfl) rfl rfl ?_
 simp only [Tryz.f19,qO,List.map_cons,List.map_nil]
 have hU:n.natAbs<10 ^ 20:=by omega
 have hdl:=qCU 20 n.natAbs hU
 have hmd:=qQM (G:=G) (decide (n<0)) (jE n.natAbs) 0 (by omega) (by omega)
 have hI:uM n=(wI (decide (n<0)) (jE n.natAbs) 0).1:=rfl
 rw [hI]
 generalize wI (decide (n<0)) (jE n.natAbs) 0=r1 at *
 obtain ⟨q1,e1⟩:=r1
 simp only [Dc.enc] at hmd
 refine rgn [] [[]] ?_
 refine op1 tok ?_
 refine qA (rgn [] [[],[],[0,2,3]] ?_)
 iterate 3 refine op1 tok ?_
 refine qA ?_
 refine AW.join (α:=Unit) (fun _=>True) (fun a=>⟨zI 35 [(0,.p (.int .i64 n)),(2,.ptr 2 0),(3,.p (.int .u64 (n.natAbs:Nat)))],[],[(2,.vars 39 [.p (.bool false),.p (.str []),.p (.int .i64 0)])],0⟩) ?_ ?_
 ·
  refine rgn [] [[],[0,2,3,10]] ?_
  iterate 2 refine op1 tok ?_
  refine qA (cnd ?_ ?_)
  ·intro h10
   try simp at h10
   have hw:IntKind.u64.wrap (-(IntKind.u64.wrap n))=(n.natAbs:Nat):=by simp [IntKind.wrap,IntKind.bits,IntKind.signed]; omega
   refine rgz [] [[],[],[0,2,3]] ?_
   iterate 3 refine op1 tok ?_
   refine qA ?_
   exact ⟨(),trivial,qE (by simp [hw]),rfl,by simp [hw],by simp [hw]⟩
  intro h10
  try simp at h10
  have hw:IntKind.u64.wrap n=(n.natAbs:Nat):=by simp [IntKind.wrap,IntKind.bits,IntKind.signed]; omega
  refine AW.skip ?_
  exact ⟨(),trivial,qE (by simp [hw]),rfl,by simp [hw],by simp [hw]⟩
 ·
  rintro a hI
  refine rgn [] [[]] ?_
  refine op1 tok ?_
  refine qA (AW.seq (AW.block ?_))
  refine AW.beginE 4 90 5 1 (by simp) (by simp) (by conv=>lhs; simp) ?_
  refine AW.loop (α:=Nat × List UInt8) (fun s=>jE n.natAbs=jE s.1++s.2.reverse∧s.1≤n.natAbs) (fun s=>⟨zI 35 [(0,.p (.int .i64 n)),(2,.ptr 2 0),(3,.p (.int .u64 (s.1:Nat))),(4,.ms 90)],[],[(2,.vars 39 [.p (.bool false),.p (.str []),.p (.int .i64 0)]),(90,.row 5 1 (qG s.2))],0⟩) (fun s=>s.1) ((n.natAbs,[])) ⟨by simp,Nat.le_refl _⟩ ⟨qE (by simp),rfl,by simp [qG],by simp⟩ ?_
  rintro ⟨u,l⟩ ⟨hu,hle⟩
  simp only at hu hle
  have hll:l.length≤20:=by have:=congrArg List.length hu; simp at this; omega
  refine AW.seq (rgn [] [[],[0,2,3,4,14]] ?_)
  iterate 2 refine op1 tok ?_
  refine qA (cnd ?_ ?_)
  ·intro h14
   try simp at h14
   have hup:0<u:=by omega
   rw [qGM hup,List.append_assoc] at hu
   have hd:u % 10<10:=Nat.mod_lt _ (by decide)
   have dm:(u:Int).tmod 10=((u % 10:Nat):Int):=(Int.ofNat_tmod u 10).symm
   have dc:IntKind.u8.wrap (IntKind.u64.wrap (48+(u:Int) % 10))=((UInt8.ofNat (48+u % 10)).toNat:Int):=by
    rw [show (UInt8.ofNat (48+u % 10)).toNat=48+u % 10 by rw [UInt8.toNat_ofNat']; omega,show (u:Int) % 10=((u % 10:Nat):Int) from rfl]
    simp [IntKind.wrap,IntKind.bits,IntKind.signed]; omega
   have dq:IntKind.u64.wrap ((u:Int) / 10)=((u / 10:Nat):Int):=by simp [IntKind.wrap,IntKind.bits,IntKind.signed]; omega
   generalize UInt8.ofNat (48+u % 10)=D at *
   refine AW.skip (AW.seq (AW.block (rgz [.int .u8 D.toNat] [[],[],[],[],[0,2,3,17,21],[],[],[0,2,3,4]] ?_)))
   iterate 8 refine op1 tok ?_ (h:=by intro C; conv=>lhs; simp [dm,dc]) (hv:=by first | with_reducible exact True.intro | ((simp [dm,dc]); done) | omega | simp | (simp +contextual; omega))
   refine qA (rgz [] [[],[],[0,2,3,4]] ?_)
   iterate 3 refine op1 tok ?_
   refine qA ?_
   exact ⟨(u / 10,l++[D]),⟨by simp only [List.reverse_append,List.reverse_singleton]; exact hu,by simp only; omega⟩,by simp only; omega,qE (by simp [dq,qG]),rfl,by simp [dq,qG],by simp [dq,qG]⟩
  intro h14
  try simp at h14
  obtain rfl:u=0:=by omega
  rw [qBB,List.nil_append] at hu
  have hrv:=zHB (G:=G) l (by omega)
  rw [← hu] at hrv
  refine AW.exit ?_
  simp
  refine rgn [] [[]] ?_
  refine op1 tok ?_
  refine qK ?_
  refine qB.stepK [0,2,4] (zA rfl hrv (by simp)) (by conv=>lhs; simp) rfl ?_
  refine qB.nil ?_
  refine rgn [.str (jE n.natAbs),.nilp,.tup [q1.enc,.int .i64 e1]] [[],[],[],[2,28,30],[],[],[],[2,32,33],[],[],[2,5]] ?_
  iterate 11 refine oq1 tok hmd ?_
  refine qA (rgn [] [[],[2]] ?_)
  iterate 2 refine op1 tok ?_
  exact qA (AW.ret qP)
def xI (s:List UInt8) (i:Nat):Nat→Nat→Int→Option Int
 | 0,_,v=>some v
 | r+1,j,v=>match s[i+j]? with
  | none=>none
  | some c=>if (c.toNat:Int)<128∨192≤(c.toNat:Int) then none else xI s i r (j+1) (64 * v+c.toNat-128)
def kN (c:Int):Nat × Int × Int :=
 if 194≤c∧c<224 then (2,128,c-192) else if 224≤c∧c<240 then (3,2048,c-224) else if 240≤c∧c<245 then (4,65536,c-240) else (0,0,0)
def qLA (low:Int) (need:Nat):Option Int→Int × Int
 | none=>(0,0)
 | some v=>if v<low∨v > 1114111∨(55296≤v∧v<57344) then (0,0) else (v,need)
def kV (s:List UInt8) (i:Nat) (x:Nat × Int × Int):Int × Int:=if x.1=0∨s.length<i+x.1 then (0,0) else qLA x.2.1 x.1 (xI s i (x.1-1) 1 x.2.2)
def wG (s:List UInt8) (i:Nat):Int × Int:=match s[i]? with
 | none=>(0,0)
 | some b=>if (b.toNat:Int)<128 then (b.toNat,1) else kV s i (kN b.toNat)
def rS (s:List UInt8) (i:Nat) (x:Nat × Int × Int):St:=⟨[.p (.str s),.p (.int .i64 i),.dead,.dead,.p (.int .i64 0),.p (.int .i64 0),.dead,.p (.int .i64 x.1),.p (.int .i64 x.2.1),.p (.int .i64 x.2.2)]++List.replicate 86 .dead,[],[],0⟩
def rS2 (s:List UInt8) (i:Nat) (need:Nat) (low:Int) (a:Nat × Int):St:=⟨[.p (.str s),.p (.int .i64 i),.dead,.dead,.p (.int .i64 0),.p (.int .i64 0),.dead,.p (.int .i64 need),.p (.int .i64 low),.p (.int .i64 a.2),.p (.int .i64 a.1)]++List.replicate 85 .dead,[],[],0⟩
theorem zIN (s:List UInt8) (i:Nat) (hi:i<s.length) (hs:s.length≤1000000000):AFn Tryz.prog G 45 [.str s,.int .i64 i] (.tup [.int .i64 (wG s i).1,.int .i64 (wG s i).2]):=by
 refine AFn.intro tok Tryz.func45 (by kernel_rfl) rfl ?_
 simp only [Tryz.f45,St.start]
 obtain ⟨b,hb⟩:∃ b,s[i]?=some b:=⟨s[i],by simp [hi]⟩
 have hblt:b.toNat<256:=b.toNat_lt
 have hrune:wG s i=if (b.toNat:Int)<128 then ((b.toNat:Int),1) else kV s i (kN b.toNat):=by simp only [wG,hb]
 refine AW.seqRun tok [] (by intro C; conv=>lhs; simp) trivial ?_
 refine AW.seqRun tok [.int .u8 b.toNat] (by intro C; conv=>lhs; simp) (by simp [hb]) ?_
 refine AW.seqRun tok [] (by intro C; conv=>lhs; simp) trivial ?_
 refine AW.seqRun tok [] (by intro C; conv=>lhs; simp) trivial ?_
 refine AW.seqRun tok [] (by intro C; conv=>lhs; simp) trivial ?_
 refine AW.join (α:=Nat × Int × Int) (fun x=>wG s i=kV s i x∧x.1≤4∧0≤x.2.2∧x.2.2≤40) (fun x=>rS s i x) ?_ ?_
 ·refine AW.block ?_
  refine AW.seqRun tok [] (by intro C; conv=>lhs; simp) trivial ?_
  refine AW.cond (c := .tmp 16) (by conv=>lhs; simp) trivial ?_ ?_
  ·intro h1
   simp at h1
   refine AW.seqRun tok [] (by intro C; conv=>lhs; simp) trivial ?_
   exact AW.ret ⟨.inr rfl,_,_,by (conv=>lhs; simp),trivial,by rw [hrune,if_pos h1]; simp⟩
  intro h1
  simp at h1
  have hr2:wG s i=kV s i (kN b.toNat):=by rw [hrune,if_neg (by omega)]
  refine AW.seqRun tok [] (by intro C; conv=>lhs; simp) (by simp) ?_
  refine AW.cond (c := .tmp 20) (by conv=>lhs; simp) trivial ?_ ?_
  ·intro h2
   simp at h2
   refine AW.seqRun tok [] (by intro C; conv=>lhs; simp) trivial ?_
   refine AW.seqRun tok [] (by intro C; conv=>lhs; simp) trivial ?_
   refine AW.run tok [] (by intro C; conv=>lhs; simp) (by omega) ?_
   exact ⟨(2,128,b.toNat-192),⟨by rw [hr2]; simp [kN,h2],by simp,by simp; omega,by simp; omega⟩,by simp [rS],rfl,by simp [rS],by simp [rS]⟩
  intro h2
  refine AW.seqRun tok [] (by intro C; conv=>lhs; simp) (by simp) ?_
  refine AW.cond (c := .tmp 29) (by conv=>lhs; simp) trivial ?_ ?_
  ·intro h3
   simp at h3
   refine AW.seqRun tok [] (by intro C; conv=>lhs; simp) trivial ?_
   refine AW.seqRun tok [] (by intro C; conv=>lhs; simp) trivial ?_
   refine AW.run tok [] (by intro C; conv=>lhs; simp) (by omega) ?_
   exact ⟨(3,2048,b.toNat-224),⟨by rw [hr2]; simp [kN,h3,show ¬ ((b.toNat:Int)<224) by omega],by simp,by simp; omega,by simp; omega⟩,by simp [rS],rfl,by simp [rS],by simp [rS]⟩
  intro h3
  refine AW.seqRun tok [] (by intro C; conv=>lhs; simp) (by simp) ?_
  refine AW.cond (c := .tmp 38) (by conv=>lhs; simp) trivial ?_ ?_
  ·intro h4
   simp at h4
   refine AW.seqRun tok [] (by intro C; conv=>lhs; simp) trivial ?_
   refine AW.seqRun tok [] (by intro C; conv=>lhs; simp) trivial ?_
   refine AW.run tok [] (by intro C; conv=>lhs; simp) (by omega) ?_
   exact ⟨(4,65536,b.toNat-240),⟨by rw [hr2]; simp [kN,h4,show ¬ ((b.toNat:Int)<224) by omega,show ¬ ((b.toNat:Int)<240) by omega],by simp,by simp; omega,by simp; omega⟩,by simp [rS],rfl,by simp [rS],by simp [rS]⟩
  intro h4
  simp at h2 h3 h4
  refine AW.skip ?_
  exact ⟨(0,0,0),⟨by rw [hr2]; simp [kN,show ¬ (194≤(b.toNat:Int)∧(b.toNat:Int)<224) by omega,show ¬ (224≤(b.toNat:Int)∧(b.toNat:Int)<240) by omega,show ¬ (240≤(b.toNat:Int)∧(b.toNat:Int)<245) by omega],
   by simp,by simp,by simp⟩,by simp [rS],rfl,by simp [rS],by simp [rS]⟩
 rintro ⟨need,low,v0⟩ ⟨hr,hneed,hv0,hv1⟩
 simp only at hneed hv0 hv1
 simp only [rS]
 rw [hr]
 refine AW.seq ?_
 refine AW.seqRun tok [] (by intro C; conv=>lhs; simp) (by simp +contextual; omega) ?_
 refine AW.cond (c := .tmp 56) (by conv=>lhs; simp) trivial ?_ ?_
 ·intro h1
  simp at h1
  refine AW.seqRun tok [] (by intro C; conv=>lhs; simp) trivial ?_
  exact AW.ret ⟨.inr rfl,_,_,by (conv=>lhs; simp),trivial,by simp [kV,show need=0∨s.length<i+need by omega]⟩
 intro h1
 simp at h1
 have hfit:¬ (need=0∨s.length<i+need):=by omega
 have htl:kV s i (need,low,v0)=qLA low need (xI s i (need-1) 1 v0):=by simp only [kV]; rw [if_neg hfit]
 rw [htl]
 refine AW.skip (AW.seq ?_)
 refine AW.seqRun tok [] (by intro C; conv=>lhs; simp) trivial ?_
 refine AW.block ?_
 refine AW.loop (α:=Nat × Int) (fun a=>1≤a.1∧a.1≤need∧xI s i (need-1) 1 v0=xI s i (need-a.1) a.1 a.2∧0≤a.2∧(a.1=1→a.2≤40)∧(a.1=2→a.2≤3000)∧(a.1=3→a.2≤200000)∧(a.1=4→a.2≤14000000))
  (fun a=>rS2 s i need low a) (fun a=>need-a.1) (1,v0) ⟨by simp,by omega,rfl,hv0,fun _=>hv1,by simp,by simp,by simp⟩ ⟨by simp [rS2],rfl,by simp [rS2],by simp [rS2]⟩ ?_
 rintro ⟨j,v⟩ ⟨hj1,hj2,hlp,hv,hb1,hb2,hb3,hb4⟩
 simp only at hj1 hj2 hlp hv hb1 hb2 hb3 hb4
 simp only [rS2]
 refine AW.seq ?_
 refine AW.seqRun tok [] (by intro C; conv=>lhs; simp) trivial ?_
 refine AW.cond (c := .tmp 59) (by conv=>lhs; simp) trivial ?_ ?_
 ·intro h4
  simp at h4
  obtain ⟨c,hc⟩:∃ c,s[i+j]?=some c:=⟨s[i+j]'(by omega),by simp [show i+j<s.length by omega]⟩
  have hclt:c.toNat<256:=c.toNat_lt
  have hstep:xI s i (need-j) j v=if (c.toNat:Int)<128∨192≤(c.toNat:Int) then none else xI s i (need-(j+1)) (j+1) (64 * v+c.toNat-128):=by
   rw [show need-j=(need-(j+1))+1 by omega]; simp only [xI,hc]
  refine AW.skip (AW.seq (AW.block ?_))
  refine AW.seqRun tok [.int .u8 c.toNat] (by intro C; conv=>lhs; simp) (by rw [show ((i:Int)+j).toNat=i+j by omega]; simp [hc]; omega) ?_
  refine AW.seq ?_
  refine AW.seqRun tok [] (by intro C; conv=>lhs; simp) (by simp) ?_
  refine AW.cond (c := .tmp 73) (by conv=>lhs; simp) trivial ?_ ?_
  ·intro h5
   simp at h5
   refine AW.seqRun tok [] (by intro C; conv=>lhs; simp) trivial ?_
   exact AW.ret ⟨.inr rfl,_,_,by (conv=>lhs; simp),trivial,by rw [hlp,hstep,if_pos (by omega)]; simp [qLA]⟩
  intro h5
  simp at h5
  refine AW.skip ?_
  refine AW.run tok [] (by intro C; conv=>lhs; simp) (by omega) ?_
  refine AW.run tok [] (by intro C; conv=>lhs; simp) (by omega) ?_
  exact ⟨(j+1,64 * v+c.toNat-128),⟨by simp,by simp; omega,by rw [hlp,hstep,if_neg (by omega)],by simp; omega,by simp; omega,by simp; omega,by simp; omega,by simp; omega⟩,by simp; omega,by simp [rS2],rfl,by simp [rS2],by simp [rS2]⟩
 intro h4
 simp at h4
 have hjn:j=need:=by omega
 subst hjn
 rw [hlp]
 simp only [Nat.sub_self,xI]
 refine AW.exit ?_
 simp
 refine AW.seq ?_
 refine AW.seqRun tok [] (by intro C; conv=>lhs; simp) (by omega) ?_
 refine AW.cond (c := .tmp 93) (by conv=>lhs; simp) trivial ?_ ?_
 ·intro h5
  simp at h5
  refine AW.seqRun tok [] (by intro C; conv=>lhs; simp) trivial ?_
  exact AW.ret ⟨.inr rfl,_,_,by (conv=>lhs; simp),trivial,by simp only [qLA]; rw [if_pos (by omega)]; simp⟩
 intro h5
 simp at h5
 refine AW.skip ?_
 refine AW.seqRun tok [] (by intro C; conv=>lhs; simp) trivial ?_
 exact AW.ret ⟨.inr rfl,_,_,by (conv=>lhs; simp),trivial,by simp only [qLA]; rw [if_neg (by omega)]; simp⟩
theorem qNS (s:List UInt8) (i:Nat) (hi:i<s.length):0≤(wG s i).2∧(i:Int)+(wG s i).2≤s.length∧(wG s i).2≤4:=by
 unfold wG
 split
 ·simp; omega
 rename_i b hb
 split
 ·simp; omega
 have h4:(kN b.toNat).1≤4:=by
  unfold kN; split
  ·simp
  split
  ·simp
  split <;> simp
 generalize kN b.toNat=x at h4
 unfold kV
 split
 ·simp; omega
 rename_i h
 have h':i+x.1≤s.length:=by omega
 unfold qLA
 split
 ·simp; omega
 split
 ·simp; omega
 simp only; omega
theorem qXI {s:List UInt8} {j:Nat} {c:UInt8} (h:s[j]?=some c):(⟨s.toArray⟩:ByteArray).get! j=c:=by
 have hj:=(List.getElem?_eq_some_iff.1 h).1
 have hc:=(List.getElem?_eq_some_iff.1 h).2
 show s.toArray[j]! = c
 rw [getElem!_pos s.toArray j (by simpa using hj)]
 simpa using hc
def jF (o:Option UInt8):Nat:=match o with
 | some c=>c.toNat
 | none=>0
def yH (o:Option UInt8):Bool:=match o with
 | some c=>c.toNat / 64 == 2
 | none=>false
def qMJ (b0:Nat) (o1 o2 o3:Option UInt8):Nat × Nat :=
 if b0<0x80 then (b0,1)
 else if b0 / 32 == 6 && yH o1 then
  if (b0 % 32) * 64+jF o1 % 64 ≥ 0x80 then ((b0 % 32) * 64+jF o1 % 64,2) else (65533,1)
 else if b0 / 16 == 14 && yH o1 && yH o2 then
  if (b0 % 16) * 4096+(jF o1 % 64) * 64+jF o2 % 64 ≥ 0x800 && Utf8.valid ((b0 % 16) * 4096+(jF o1 % 64) * 64+jF o2 % 64:Nat) then ((b0 % 16) * 4096+(jF o1 % 64) * 64+jF o2 % 64,3) else (65533,1)
 else if b0 / 8 == 30 && yH o1 && yH o2 && yH o3 then
  if (b0 % 8) * 262144+(jF o1 % 64) * 4096+(jF o2 % 64) * 64+jF o3 % 64 ≥ 0x10000 && Utf8.valid ((b0 % 8) * 262144+(jF o1 % 64) * 4096+(jF o2 % 64) * 64+jF o3 % 64:Nat) then
   ((b0 % 8) * 262144+(jF o1 % 64) * 4096+(jF o2 % 64) * 64+jF o3 % 64,4) else (65533,1)
 else (65533,1)
theorem zEU {s:List UInt8} {i:Nat} {b:UInt8} (h:s[i]?=some b):Utf8.decode ⟨s.toArray⟩ i=qMJ b.toNat s[i+1]? s[i+2]? s[i+3]?:=by
 have hsz:(⟨s.toArray⟩:ByteArray).size=s.length:=by simp [ByteArray.size]
 have cont:∀ k,(decide (i+k<(⟨s.toArray⟩:ByteArray).size) && ((⟨s.toArray⟩:ByteArray).get! (i+k)).toNat / 64 == 2)=yH s[i+k]?:=by
  intro k
  rw [hsz]
  cases hk:s[i+k]? with
  | none =>
   have:¬ i+k<s.length:=by have:=List.getElem?_eq_none_iff.1 hk; omega
   simp [yH,this]
  | some c =>
   have:=(List.getElem?_eq_some_iff.1 hk).1
   simp [yH,this,qXI hk]
 have byt:∀ k,yH s[i+k]?=true→((⟨s.toArray⟩:ByteArray).get! (i+k)).toNat=jF s[i+k]?:=by
  intro k hk
  cases hc:s[i+k]? with
  | none=>rw [hc] at hk; cases hk
  | some c=>rw [qXI hc]; rfl
 have b0:((⟨s.toArray⟩:ByteArray).get! (i+0)).toNat=b.toNat:=by rw [Nat.add_zero,qXI h]
 unfold Utf8.decode qMJ
 simp only [cont,b0]
 by_cases h1:yH s[i+1]?=true
 ·rw [byt 1 h1]
  by_cases h2:yH s[i+2]?=true
  ·rw [byt 2 h2]
   by_cases h3:yH s[i+3]?=true
   ·rw [byt 3 h3]; simp only [h1,h2,h3]; rfl
   simp only [h1,h2,h3,Bool.and_false,Bool.false_eq_true,if_false]; rfl
  simp only [h1,h2,Bool.and_false,Bool.false_and,Bool.false_eq_true,if_false]; rfl
 simp only [h1,Bool.and_false,Bool.false_and,Bool.false_eq_true,if_false]; rfl
theorem zEI (low v : Int) (m k : Nat) (hk : k ≠ 0) (hv : v = (m : Int)) : (if (qLA low k (some v)).2 = 0 then ((65533 : Nat), (1 : Nat)) else ((qLA low k (some v)).1.toNat, (qLA low k (some v)).2.toNat)) =
  if (m:Int)<low∨(m:Int) > 1114111∨(55296≤(m:Int)∧(m:Int)<57344) then (65533,1) else (m,k):=by
 subst hv
 unfold qLA
 by_cases h:(m:Int)<low∨(m:Int) > 1114111∨(55296≤(m:Int)∧(m:Int)<57344)
 ·simp only [h,if_true]
 simp only [h,if_false]
 rw [if_neg (by omega)]
 rfl
theorem qEK (m:Nat):Utf8.valid (m:Int)=decide (¬ ((m:Int) > 1114111∨(55296≤(m:Int)∧(m:Int)<57344))):=by
 rw [Bool.eq_iff_iff]; simp only [Utf8.valid,Bool.or_eq_true,Bool.and_eq_true,decide_eq_true_eq]; omega
theorem isC (c:UInt8):(c.toNat / 64 == 2)=decide (128≤c.toNat∧c.toNat<192):=by rw [Bool.eq_iff_iff]; simp only [beq_iff_eq,decide_eq_true_eq]; omega
theorem wX (c:UInt8):yH (some c)=decide (128≤c.toNat∧c.toNat<192):=isC c
theorem jJ {s:List UInt8} {i r j:Nat} {v:Int} {c:UInt8} (h:s[i+j]?=some c) (hc:128≤c.toNat∧c.toNat<192):xI s i (r+1) j v=xI s i r (j+1) (64 * v+c.toNat-128):=by
 simp only [xI,h]; rw [if_neg (by omega)]
theorem qAP {s:List UInt8} {i r j:Nat} {v:Int} {c:UInt8} (h:s[i+j]?=some c) (hc:¬ (128≤c.toNat∧c.toNat<192)):xI s i (r+1) j v=none:=by
 simp only [xI,h]; rw [if_pos (by omega)]
theorem jO {n : Nat} {o1 o2 o3 : Option UInt8} (h0 : ¬ n < 128) (h : (n / 32 = 6 → yH o1 = true → n % 32 * 64 + jF o1 % 64 < 128) ∧ (n / 16 = 14 → yH o1 = true → yH o2 = false) ∧ (n / 8 = 30 → yH o1 = true → yH o2 = true → yH o3 = true → 1114111 < n % 8 * 262144)) :
  qMJ n o1 o2 o3=(65533,1):=by
 obtain ⟨h1,h2,h3⟩:=h
 unfold qMJ
 rw [if_neg h0]
 by_cases a:n / 32=6
 ·have b:¬ n / 16=14:=by omega
  have c:¬ n / 8=30:=by omega
  cases hc:yH o1 with
  | true=>simp only [a,beq_self_eq_true,Bool.and_self,if_true]; rw [if_neg (by have:=h1 a hc; omega)]
  | false=>simp [a,b,c]
 by_cases b:n / 16=14
 ·have c:¬ n / 8=30:=by omega
  cases hc:yH o1 with
  | true=>simp [a,b,c,h2 b hc]
  | false=>simp [a,b,c]
 by_cases c:n / 8=30
 ·cases hc1:yH o1 with
  | false=>simp [a,b]
  | true =>
   cases hc2:yH o2 with
   | false=>simp [a,b]
   | true =>
    cases hc3:yH o3 with
    | false=>simp [a,b]
    | true =>
     have hb:=h3 c hc1 hc2 hc3
     simp only [a,b,c,beq_iff_eq,beq_self_eq_true,Bool.false_and,Bool.and_self,Bool.and_true,if_false,if_true,Bool.false_eq_true]
     rw [if_neg]
     rw [qEK]
     simp only [Bool.and_eq_true,decide_eq_true_eq]
     omega
 simp [a,b,c]
theorem zKO {n : Nat} {c : UInt8} {o2 o3 : Option UInt8} (h0 : ¬ n < 128) (hn : n / 32 = 6) (hc : 128 ≤ c.toNat ∧ c.toNat < 192) :
  qMJ n (some c) o2 o3=if n % 32 * 64+c.toNat % 64 ≥ 128 then (n % 32 * 64+c.toNat % 64,2) else (65533,1):=by
 have h1:yH (some c)=true:=by rw [wX]; exact decide_eq_true hc
 unfold qMJ
 rw [if_neg h0,if_pos (by rw [h1,hn]; rfl)]
 rfl
theorem zKN {n : Nat} {c d : UInt8} {o3 : Option UInt8} (h0 : ¬ n < 128) (hn : n / 16 = 14) (hc : 128 ≤ c.toNat ∧ c.toNat < 192) (hd : 128 ≤ d.toNat ∧ d.toNat < 192) {m : Nat} (hm : m = n % 16 * 4096 + c.toNat % 64 * 64 + d.toNat % 64) :
  qMJ n (some c) (some d) o3=if (m:Int)<2048∨(m:Int) > 1114111∨(55296≤(m:Int)∧(m:Int)<57344) then (65533,1) else (m,3):=by
 have h1:yH (some c)=true:=by rw [wX]; exact decide_eq_true hc
 have h2:yH (some d)=true:=by rw [wX]; exact decide_eq_true hd
 have e1:¬ n / 32=6:=by omega
 unfold qMJ
 rw [if_neg h0,if_neg (by rw [h1]; simp [e1]),if_pos (by rw [h1,h2,hn]; rfl)]
 simp only [jF,← hm,qEK]
 clear hm
 by_cases hb:(m:Int)<2048∨(m:Int) > 1114111∨55296≤(m:Int)∧(m:Int)<57344
 ·rw [if_pos hb,if_neg]; simp only [Bool.and_eq_true,decide_eq_true_eq]; omega
 rw [if_neg hb,if_pos]; simp only [Bool.and_eq_true,decide_eq_true_eq]; omega
theorem zKM {n : Nat} {c d e : UInt8} (h0 : ¬ n < 128) (hn : n / 8 = 30) (hc : 128 ≤ c.toNat ∧ c.toNat < 192) (hd : 128 ≤ d.toNat ∧ d.toNat < 192) (he : 128 ≤ e.toNat ∧ e.toNat < 192) {m : Nat}
  (hm:m=n % 8 * 262144+c.toNat % 64 * 4096+d.toNat % 64 * 64+e.toNat % 64) :
  qMJ n (some c) (some d) (some e)=if (m:Int)<65536∨(m:Int) > 1114111∨(55296≤(m:Int)∧(m:Int)<57344) then (65533,1) else (m,4):=by
 have h1:yH (some c)=true:=by rw [wX]; exact decide_eq_true hc
 have h2:yH (some d)=true:=by rw [wX]; exact decide_eq_true hd
 have h3:yH (some e)=true:=by rw [wX]; exact decide_eq_true he
 have e1:¬ n / 32=6:=by omega
 have e2:¬ n / 16=14:=by omega
 unfold qMJ
 rw [if_neg h0,if_neg (by rw [h1]; simp [e1]),if_neg (by rw [h1,h2]; simp [e2]),if_pos (by rw [h1,h2,h3,hn]; rfl)]
 simp only [jF,← hm,qEK]
 clear hm
 by_cases hb:(m:Int)<65536∨(m:Int) > 1114111∨55296≤(m:Int)∧(m:Int)<57344
 ·rw [if_pos hb,if_neg]; simp only [Bool.and_eq_true,decide_eq_true_eq]; omega
 rw [if_neg hb,if_pos]; simp only [Bool.and_eq_true,decide_eq_true_eq]; omega
theorem qSX {s:List UInt8} {i:Nat} (hi:i<s.length):Utf8.decode ⟨s.toArray⟩ i=if (wG s i).2=0 then (65533,1) else ((wG s i).1.toNat,(wG s i).2.toNat):=by
 obtain ⟨b,hb⟩:∃ b,s[i]?=some b:=⟨s[i],by simp [hi]⟩
 rw [zEU hb]
 have hblt:b.toNat<256:=b.toNat_lt
 have hr:wG s i=if (b.toNat:Int)<128 then ((b.toNat:Int),1) else kV s i (kN b.toNat):=by simp only [wG,hb]
 have in1:∀ k,s[i+k]?=none↔s.length≤i+k:=fun k=>List.getElem?_eq_none_iff
 have has:∀ k,i+k<s.length→∃ c,s[i+k]?=some c:=fun k hk=>⟨s[i+k],by simp [hk]⟩
 generalize b.toNat=n at hblt hr
 by_cases h0:n<128
 ·rw [if_pos (by omega)] at hr
  rw [hr]
  simp [qMJ,h0]
 rw [if_neg (by omega)] at hr
 rw [hr]
 clear hr
 have tail0:∀ x:Nat × Int × Int,(x.1=0∨s.length<i+x.1)→(if (kV s i x).2=0 then ((65533:Nat),(1:Nat)) else ((kV s i x).1.toNat,(kV s i x).2.toNat))=(65533,1):=by
  intro x hx; unfold kV; rw [if_pos hx]; rfl
 have tailn:∀ x:Nat × Int × Int, ¬ (x.1=0∨s.length<i+x.1)→xI s i (x.1-1) 1 x.2.2=none→(if (kV s i x).2=0 then ((65533:Nat),(1:Nat)) else ((kV s i x).1.toNat,(kV s i x).2.toNat))=(65533,1):=by
  intro x hx hn; unfold kV; rw [if_neg hx,hn]; rfl
 have tails : ∀ (x : Nat × Int × Int) (v : Int) (m : Nat), ¬ (x.1 = 0 ∨ s.length < i + x.1) → xI s i (x.1 - 1) 1 x.2.2 = some v → v = m → (if (kV s i x).2 = 0 then ((65533 : Nat), (1 : Nat)) else ((kV s i x).1.toNat, (kV s i x).2.toNat)) =
   if (m:Int)<x.2.1∨(m:Int) > 1114111∨(55296≤(m:Int)∧(m:Int)<57344) then (65533,1) else (m,x.1):=by
  intro x v m hx hl hv; unfold kV; rw [if_neg hx,hl]; exact zEI _ _ _ _ (by omega) hv
 by_cases hA:194≤n∧n<224
 ·have hrc:kN n=(2,128,(n:Int)-192):=by unfold kN; rw [if_pos (by omega)]
  rw [hrc]
  by_cases hl:s.length<i+2
  ·rw [tail0 _ (Or.inr hl)]
   refine jO h0 ⟨fun _ h => ?_,fun h=>by omega,fun h=>by omega⟩
   rw [(in1 1).2 (by omega)] at h; cases h
  obtain ⟨c,h1⟩:=has 1 (by omega)
  rw [h1]
  by_cases hc:128≤c.toNat∧c.toNat<192
  ·rw [tails (2,128,(n:Int)-192) _ (n % 32 * 64+c.toNat % 64) (by simp; omega) (by rw [show (2:Nat)-1=0+1 from rfl,jJ h1 hc]; rfl) (by simp only []; omega)]
   rw [zKO h0 (by omega) hc,if_pos (by omega),if_neg (by simp only []; omega)]
  rw [tailn _ (by simp; omega) (by rw [show ((2:Nat),(128:Int),(n:Int)-192).1-1=0+1 from rfl,qAP h1 hc])]
  refine jO h0 ⟨fun _ h => ?_,fun h=>by omega,fun h=>by omega⟩
  rw [wX] at h; exact (hc (of_decide_eq_true h)).elim
 by_cases hB:224≤n∧n<240
 ·have hrc:kN n=(3,2048,(n:Int)-224):=by unfold kN; rw [if_neg (by omega),if_pos (by omega)]
  rw [hrc]
  by_cases hl:s.length<i+3
  ·rw [tail0 _ (Or.inr hl)]
   refine jO h0 ⟨fun h=>by omega,fun _ _ => ?_,fun h=>by omega⟩
   rw [(in1 2).2 (by omega)]; rfl
  obtain ⟨c,h1⟩:=has 1 (by omega)
  obtain ⟨d,h2⟩:=has 2 (by omega)
  rw [h1,h2]
  by_cases hc:128≤c.toNat∧c.toNat<192
  ·by_cases hd:128≤d.toNat∧d.toNat<192
   ·rw [tails (3,2048,(n:Int)-224) _ (n % 16 * 4096+c.toNat % 64 * 64+d.toNat % 64) (by simp; omega) (by rw [show (3:Nat)-1=1+1 from rfl,jJ h1 hc,show (1:Nat)=0+1 from rfl,jJ h2 hd]; rfl) (by simp only []; omega)]
    exact zKN h0 (by omega) hc hd rfl
   rw [tailn _ (by simp; omega) (by rw [show ((3:Nat),(2048:Int),(n:Int)-224).1-1=1+1 from rfl,jJ h1 hc,show (1:Nat)=0+1 from rfl,qAP h2 hd])]
   refine jO h0 ⟨fun h=>by omega,fun _ _ => ?_,fun h=>by omega⟩
   rw [wX]; exact decide_eq_false hd
  rw [tailn _ (by simp; omega) (by rw [show ((3:Nat),(2048:Int),(n:Int)-224).1-1=1+1 from rfl,qAP h1 hc])]
  refine jO h0 ⟨fun h=>by omega,fun _ h => ?_,fun h=>by omega⟩
  rw [wX] at h; exact (hc (of_decide_eq_true h)).elim
 by_cases hC:240≤n∧n<245
 ·have hrc:kN n=(4,65536,(n:Int)-240):=by unfold kN; rw [if_neg (by omega),if_neg (by omega),if_pos (by omega)]
  rw [hrc]
  by_cases hl:s.length<i+4
  ·rw [tail0 _ (Or.inr hl)]
   refine jO h0 ⟨fun h=>by omega,fun h=>by omega,fun _ _ _ h => ?_⟩
   rw [(in1 3).2 (by omega)] at h; cases h
  obtain ⟨c,h1⟩:=has 1 (by omega)
  obtain ⟨d,h2⟩:=has 2 (by omega)
  obtain ⟨e,h3⟩:=has 3 (by omega)
  rw [h1,h2,h3]
  by_cases hc:128≤c.toNat∧c.toNat<192
  ·by_cases hd:128≤d.toNat∧d.toNat<192
   ·by_cases he:128≤e.toNat∧e.toNat<192
    ·rw [tails (4,65536,(n:Int)-240) _ (n % 8 * 262144+c.toNat % 64 * 4096+d.toNat % 64 * 64+e.toNat % 64) (by simp; omega)
      (by rw [show (4:Nat)-1=2+1 from rfl,jJ h1 hc,show (2:Nat)=1+1 from rfl,jJ h2 hd,show (1:Nat)=0+1 from rfl,jJ h3 he]; rfl) (by simp only []; omega)]
     exact zKM h0 (by omega) hc hd he rfl
    rw [tailn _ (by simp; omega) (by rw [show ((4:Nat),(65536:Int),(n:Int)-240).1-1=2+1 from rfl,jJ h1 hc,show (2:Nat)=1+1 from rfl,jJ h2 hd,show (1:Nat)=0+1 from rfl,qAP h3 he])]
    refine jO h0 ⟨fun h=>by omega,fun h=>by omega,fun _ _ _ h => ?_⟩
    rw [wX] at h; exact (he (of_decide_eq_true h)).elim
   rw [tailn _ (by simp; omega) (by rw [show ((4:Nat),(65536:Int),(n:Int)-240).1-1=2+1 from rfl,jJ h1 hc,show (2:Nat)=1+1 from rfl,qAP h2 hd])]
   refine jO h0 ⟨fun h=>by omega,fun h=>by omega,fun _ _ h => ?_⟩
   rw [wX] at h; exact (hd (of_decide_eq_true h)).elim
  rw [tailn _ (by simp; omega) (by rw [show ((4:Nat),(65536:Int),(n:Int)-240).1-1=2+1 from rfl,qAP h1 hc])]
  refine jO h0 ⟨fun h=>by omega,fun h=>by omega,fun _ h => ?_⟩
  rw [wX] at h; exact (hc (of_decide_eq_true h)).elim
 have hrc:kN n=(0,0,0):=by unfold kN; rw [if_neg (by omega),if_neg (by omega),if_neg (by omega)]
 rw [hrc,tail0 _ (.inl rfl)]
 refine jO h0 ⟨fun h _ => ?_,fun h=>by omega,fun h _ _ _=>by omega⟩
 have:jF s[i+1]? % 64<64:=Nat.mod_lt _ (by omega)
 omega
theorem qVX (s:List UInt8) (i:Nat):wG s i=wG (s.drop i) 0:=by
 have h:∀ k,(s.drop i)[k]?=s[i+k]?:=fun k=>by rw [List.getElem?_drop]
 have hl:∀ (f:Nat) (j:Nat) (v:Int),xI s i f j v=xI (s.drop i) 0 f j v:=by
  intro f
  induction f with
  | zero=>intro j v; rfl
  | succ f ih =>
   intro j v
   simp only [xI,Nat.zero_add,h,ih]
 unfold wG
 rw [h 0,Nat.add_zero]
 cases hb:s[i]? with
 | none=>rfl
 | some b =>
  have hi:=(List.getElem?_eq_some_iff.1 hb).1
  simp only [kV,hl,List.length_drop]
  have e:(s.length<i+(kN ↑b.toNat).1)↔(s.length-i<0+(kN ↑b.toNat).1):=by omega
  simp only [e]
@[simp] def Val.cells (v:Val):List V:=[.p (.int .i64 v.kind),.p (.int .u64 v.mask),.p (.bool v.num.neg),.p (.str v.num.digits),.p (.int .i64 v.num.scale),.p (.str v.text),.p (.sl 1 (v.keys.map PD.str)),.p (.sl 9 (v.kids.map Val.enc)),.p (.int .i64 v.code)]
def xE (s:List UInt8):Bool:=decide ((s.length:Int)≤4096) && Lib.validD s
def kY (l:List (List UInt8)):Bool:=l.all xE && decide l.Nodup
theorem zAY {l:List (List UInt8)} {k:Nat} {s:List UInt8} (h:l[k]?=some s) (hb:xE s=false∨s∈l.take k):kY l=false:=by
 unfold kY
 rcases hb with hb | hb
 ·rw [List.all_eq_false.2 ⟨s,List.mem_of_getElem? h,by simp [hb]⟩]; rfl
 have:¬ l.Nodup:=fun hn=>by
  obtain ⟨j,hj,hjs⟩:=List.mem_iff_getElem.1 hb
  have hk:=(List.getElem?_eq_some_iff.1 h)
  rw [List.getElem_take] at hjs
  have hjk:j<k:=by simp at hj; omega
  exact (List.pairwise_iff_getElem.1 hn) j k (by simp at hj; omega) hk.1 hjk (by rw [hjs,hk.2])
 simp [this]
theorem qWS {l:List (List UInt8)} {k:Nat} {s:List UInt8} (h:l[k]?=some s) (h1:kY (l.take k)=true) (h2:xE s=true) (h3:s ∉ l.take k):kY (l.take (k+1))=true:=by
 unfold kY at h1 ⊢
 rw [List.take_add_one,h]
 simp only [Bool.and_eq_true,decide_eq_true_eq] at h1 ⊢
 refine ⟨by rw [List.all_append,h1.1]; simp [h2], ?_⟩
 rw [List.nodup_append]
 exact ⟨h1.2,by simp,by intro a ha b hb; simp at hb; subst hb; rintro rfl; exact h3 ha⟩
def qJL (v:Val):Bool:=if v.kind=4 then wH v.num else decide (v.num.neg=false∧v.num.digits=[]∧v.num.scale=0)
def qEC (v:Val):Bool:=if v.kind=5 then xE v.text else decide (v.text=[])
def qHK (v:Val):Bool:=if v.kind=7 then decide ((v.keys.length:Int)=v.kids.length) && kY v.keys else decide (v.keys=[])
def qOM (v:Val):Bool:=decide (v.kids=[]) || decide (v.kind=6) || decide (v.kind=7)
def qCY (v:Val):Bool:=decide (decide (v.kind=8) = !decide (v.code=0))
def vN (v:Val):Bool:=qCY v && qJL v && qEC v && qHK v && qOM v
def vF (v:Val):Bool:=decide (1≤v.kind∧v.kind≤8∧v.kids.length≤200)
mutual
def wC:Val→Bool
 | .mk k m n t ks vs c=>vF (.mk k m n t ks vs c) && vN (.mk k m n t ks vs c) && qTZ vs
def qTZ:List Val→Bool
 | []=>true
 | v::vs=>wC v && qTZ vs
end
theorem qOG:∀ l,qTZ l=l.all wC
 | []=>by simp [qTZ]
 | v::vs=>by simp [qTZ,qOG vs]
theorem qGF (v:Val):wC v=(vF v && vN v && v.kids.all wC):=by
 cases v; simp only [wC,qOG,Val.kids]
theorem zNZ {α:Type} {l:List α}:((l.length:Int)=0)=(l=[]):=by rw [← List.length_eq_zero_iff]; exact propext (by omega)
theorem qGE {v k:Val} (h:wC v=true) (hk:k∈v.kids):wC k=true:=by
 rw [qGF] at h; simp only [Bool.and_eq_true,List.all_eq_true] at h; exact h.2 k hk
theorem qYT {v:Val} (h:wC v=true) (h4:v.kind=4):wH v.num=true:=by
 rw [qGF] at h
 simp only [Bool.and_eq_true,vN,qJL] at h
 obtain ⟨⟨h1,⟨⟨⟨⟨_,h2⟩,_⟩,_⟩,_⟩⟩,_⟩:=h
 rw [if_pos h4] at h2; exact h2
theorem qMT (hG:U8 G) (s:List UInt8):AFn Tryz.prog G 136 [.str s] (.bool (Lib.validD s)):=by
 refine AFn.of_calls (jB Tryz.func136 (by kernel_rfl) rfl) fun M w vs hg hmem hsz hrd => ?_
 obtain ⟨b,rfl,rfl,hm⟩:=qRM hsz hrd
 refine (Any.utf8_ValidString Tryz.lays196 b w hm (qXZ hG hg hmem)).mono ?_
 rintro e w' ⟨rfl,hb⟩
 exact ⟨_,rfl,.bool _,hb⟩
theorem qMS (hG:U8 G) (s:List UInt8):AFn Tryz.prog G 103 [.str s] (.bool (Lib.validD s)):=by
 refine AFn.introU tok Tryz.func103 (by kernel_rfl) rfl rfl ?_
 simp only [Tryz.f103,qO,List.map_cons,List.map_nil]
 refine rgn [] [[0]] ?_
 refine op1 tok ?_
 refine qA (rgn [.nilp,.bool (Lib.validD s)] [[],[],[2]] ?_)
 iterate 3 refine op1 tok ?_ (hv:=by first | with_reducible exact True.intro | (exact qMT hG s; done) | omega | simp | (simp +contextual; omega))
 exact qA (AW.ret qP)
theorem qFK (hG:U8 G) (s:List UInt8):AFn Tryz.prog G 69 [.str s] (.bool (xE s)):=by
 refine AFn.introU tok Tryz.func69 (by kernel_rfl) rfl rfl ?_
 simp only [Tryz.f69,qO,List.map_cons,List.map_nil]
 refine rgn [] [[0]] ?_
 refine op1 tok ?_
 refine qA (rgn [.nilp,.bool (Lib.validD s)] [[],[],[],[],[6,7],[],[],[2]] ?_)
 iterate 4 refine op1 tok ?_ (hv:=by first | with_reducible exact True.intro | (((repeat' (first | with_reducible apply And.intro | intro _)) <;> first | exact (qMS hG s) | assumption | omega | contradiction | simp_all); done) | omega | simp | (simp +contextual; omega))
 iterate 2 refine op2 tok ?_ (hv:=by first | with_reducible exact True.intro | (((repeat' (first | with_reducible apply And.intro | intro _)) <;> first | exact (qMS hG s) | assumption | omega | contradiction | simp_all); done) | omega | simp | (simp +contextual; omega))
 iterate 2 refine op1 tok ?_ (hv:=by first | with_reducible exact True.intro | (((repeat' (first | with_reducible apply And.intro | intro _)) <;> first | exact (qMS hG s) | assumption | omega | contradiction | simp_all); done) | omega | simp | (simp +contextual; omega))
 refine qA ?_
 exact AW.ret (qP (k:=by simp [xE]))
theorem zDY (hG:U8 G) (l:List (List UInt8)):AFn Tryz.prog G 70 [.sl 1 (l.map PD.str)] (.bool (kY l)):=by
 refine AFn.introU tok Tryz.func70 (by kernel_rfl) rfl rfl ?_
 simp only [Tryz.f70,qO,List.map_cons,List.map_nil]
 refine rgn [] [[0]] ?_
 refine op1 tok ?_
 refine qA (rgn [] [[],[0,3]] ?_)
 iterate 2 refine op1 tok ?_
 refine qA (AW.seq (rgn [] [[],[],[3,7,8,9]] ?_))
 iterate 3 refine op1 tok ?_
 refine qA (AW.block ?_)
 refine AW.intFactU (i:=8) rfl (by decide) ?_; intro hlen; simp at hlen
 refine AW.loop (α:=Nat) (fun k=>k≤l.length∧kY (l.take k)=true) (fun k=>⟨zI 24 [(3,.ms 6),(7,.p (.sl 1 (l.map PD.str))),(8,.p (.int .i64 l.length)),(9,.p (.int .i64 k))],[],[(6,.mp (l.take k) (List.replicate k (.p (.bool true))))],0⟩) (fun k=>l.length-k) (0) ⟨by omega,rfl⟩ ⟨qE (by simp),rfl,by simp,by simp⟩ ?_
 rintro k ⟨hk,hall⟩
 refine rgn [] [[]] ?_
 refine op1 tok ?_
 refine qA (AW.seq (cnd ?_ ?_))
 ·intro h10
  try simp at h10
  obtain ⟨s,hs⟩:∃ s,l[k]?=some s:=⟨l[k],by simp [h10]⟩
  have hlt:(l.take k).length=k:=by simp; omega
  have hin:∀ i:Nat,(l.take k)[i]?=some s→(List.replicate k (V.p (.bool true)))[i]?=some (.p (.bool (decide (s∈l.take k)))):=by
   intro i hi
   have h1:=(List.getElem?_eq_some_iff.1 hi).1
   rw [decide_eq_true (List.mem_of_getElem? hi),List.getElem?_replicate,if_pos (by rw [hlt] at h1; exact h1)]
  refine AW.skip (AW.seq (AW.block (rgn [.str s] [[],[],[3,5,7,8,9]] ?_)))
  iterate 3 refine op1 tok ?_ (hv:=by first | with_reducible exact True.intro | (simp [hs]; done) | omega | simp | (simp +contextual; omega))
  refine qA (AW.seq (rgn [.nilp,.bool (xE s),.bool (decide (s∈l.take k))] [[],[],[],[],[],[],[3,5,7,8,9,16,19],[3,5,7,8,9,20]] ?_))
  iterate 4 refine op1 tok ?_ (hv:=by first | with_reducible exact True.intro | (((repeat' (first | with_reducible apply And.intro | intro _)) <;> first | exact (qFK hG s) | exact (hin) | assumption | omega | contradiction | simp_all); done) | omega | simp | (simp +contextual; omega))
  iterate 3 refine op2 tok ?_ (hv:=by first | with_reducible exact True.intro | (((repeat' (first | with_reducible apply And.intro | intro _)) <;> first | exact (qFK hG s) | exact (hin) | assumption | omega | contradiction | simp_all); done) | omega | simp | (simp +contextual; omega))
  refine op1 tok ?_ (hv:=by first | with_reducible exact True.intro | (((repeat' (first | with_reducible apply And.intro | intro _)) <;> first | exact (qFK hG s) | exact (hin) | assumption | omega | contradiction | simp_all); done) | omega | simp | (simp +contextual; omega))
  refine qA (cnd ?_ ?_)
  ·intro h20
   try simp at h20
   have hb:kY l=false:=zAY hs (by simpa using h20)
   refine rgn [] [[]] ?_
   refine op1 tok ?_
   refine qA ?_
   exact AW.ret (qP (k:=by simp [hb]))
  intro h20
  try simp at h20
  refine AW.skip (rgz [] [[],[],[3,7,8,9]] ?_)
  iterate 3 refine op1 tok ?_ (hv:=by first | with_reducible exact True.intro | (exact h20.2; done) | omega | simp | (simp +contextual; omega))
  refine qA (rgz [] [[],[3,7,8,9]] ?_)
  iterate 2 refine op1 tok ?_
  refine qA ?_
  exact ⟨k+1,⟨by omega,qWS hs hall h20.1 h20.2⟩,by omega,qE (by simp [show l.take (k+1)=l.take k++[s] from by (rw [List.take_add_one,hs]; rfl),List.replicate_succ']),rfl,by simp [show l.take (k+1)=l.take k++[s] from by (rw [List.take_add_one,hs]; rfl),List.replicate_succ'],by simp [show l.take (k+1)=l.take k++[s] from by (rw [List.take_add_one,hs]; rfl),List.replicate_succ']⟩
 intro h10
 try simp at h10
 rw [List.take_of_length_le h10] at hall
 refine AW.exit ?_
 simp
 refine rgn [] [[]] ?_
 refine op1 tok ?_
 refine qA ?_
 exact AW.ret (qP (k:=by simp [hall]))
theorem zAH (hG:U8 G) (v:Val):AFn Tryz.prog G 37 [v.enc] (.bool (vN v)):=by
 refine AFn.introU tok Tryz.func37 (by kernel_rfl) rfl rfl ?_
 simp only [Tryz.f37,qO,List.map_cons,List.map_nil]
 have hd:=zEY (G:=G) v.num
 have hw:=qFK hG v.text
 have hk:=zDY hG v.keys
 refine rgn [] [[],[1]] ?_
 iterate 2 refine op1 tok ?_
 refine qA (rgn [] [[],[],[],[],[],[1,6,9],[],[1,3]] ?_)
 iterate 8 refine op1 tok ?_
 refine qA ?_
 refine AW.join (α:=Unit) (fun _=>True) (fun a=>⟨zI 83 [(1,.ptr 1 0),(3,.p (.bool (qCY v && qJL v)))],[],[(1,.vars 42 v.cells)],0⟩) ?_ ?_
 ·
  refine rgn [] [[],[],[1,3,13]] ?_
  iterate 3 refine op1 tok ?_
  refine qA (cnd ?_ ?_)
  ·intro h13
   try simp at h13
   refine rgz [.nilp,.bool (wH v.num)] [[],[],[],[],[1,15,18],[],[1,3]] ?_
   iterate 2 refine op1 tok ?_ (hv:=by first | with_reducible exact True.intro | (((repeat' (first | with_reducible apply And.intro | intro _)) <;> first | exact (hd) | assumption | omega | contradiction | simp_all); done) | omega | simp | (simp +contextual; omega))
   iterate 3 refine op2 tok ?_ (hv:=by first | with_reducible exact True.intro | (((repeat' (first | with_reducible apply And.intro | intro _)) <;> first | exact (hd) | assumption | omega | contradiction | simp_all); done) | omega | simp | (simp +contextual; omega))
   iterate 2 refine op1 tok ?_ (hv:=by first | with_reducible exact True.intro | (((repeat' (first | with_reducible apply And.intro | intro _)) <;> first | exact (hd) | assumption | omega | contradiction | simp_all); done) | omega | simp | (simp +contextual; omega))
   refine qA ?_
   exact ⟨(),trivial,qE (by simp [qCY,qJL,h13]),rfl,by simp [qCY,qJL,h13],by simp [qCY,qJL,h13]⟩
  intro h13
  try simp at h13
  refine rgz [] [[],[],[],[],[],[1,21,25],[],[1,3]] ?_
  iterate 2 refine op1 tok ?_
  iterate 4 refine op2 tok ?_
  iterate 2 refine op1 tok ?_
  refine qA ?_
  exact ⟨(),trivial,qE (by simp [qCY,qJL,h13]),rfl,by simp [qCY,qJL,h13],by simp [qCY,qJL,h13]⟩
 ·
  rintro a hI
  refine AW.join (α:=Unit) (fun _=>True) (fun a=>⟨zI 83 [(1,.ptr 1 0),(3,.p (.bool (qCY v && qJL v && qEC v)))],[],[(1,.vars 42 v.cells)],0⟩) ?_ ?_
  ·
   refine rgn [] [[],[],[1,3,29]] ?_
   iterate 3 refine op1 tok ?_
   refine qA (cnd ?_ ?_)
   ·intro h29
    try simp at h29
    refine rgz [.nilp,.bool (xE v.text)] [[],[],[],[],[1,31,34],[],[1,3]] ?_
    iterate 2 refine op1 tok ?_ (hv:=by first | with_reducible exact True.intro | (((repeat' (first | with_reducible apply And.intro | intro _)) <;> first | exact (hw) | assumption | omega | contradiction | simp_all); done) | omega | simp | (simp +contextual; omega))
    iterate 3 refine op2 tok ?_ (hv:=by first | with_reducible exact True.intro | (((repeat' (first | with_reducible apply And.intro | intro _)) <;> first | exact (hw) | assumption | omega | contradiction | simp_all); done) | omega | simp | (simp +contextual; omega))
    iterate 2 refine op1 tok ?_ (hv:=by first | with_reducible exact True.intro | (((repeat' (first | with_reducible apply And.intro | intro _)) <;> first | exact (hw) | assumption | omega | contradiction | simp_all); done) | omega | simp | (simp +contextual; omega))
    refine qA ?_
    exact ⟨(),trivial,qE (by simp [qEC,h29]),rfl,by simp [qEC,h29],by simp [qEC,h29]⟩
   intro h29
   try simp at h29
   refine rgz [] [[],[],[],[],[1,37,40],[],[1,3]] ?_
   iterate 2 refine op1 tok ?_
   iterate 3 refine op2 tok ?_
   iterate 2 refine op1 tok ?_
   refine qA ?_
   exact ⟨(),trivial,qE (by simp [qEC,h29]),rfl,by simp [qEC,h29],by simp [qEC,h29]⟩
  ·
   rintro a hI
   refine AW.seq (rgn [] [[],[1,3,43]] ?_)
   iterate 2 refine op1 tok ?_
   refine qA (AW.block (rgn [] [[],[1,3,43,44]] ?_))
   iterate 2 refine op1 tok ?_
   refine qA (cnd ?_ ?_)
   ·intro h44
    try simp at h44
    refine rgn [.nilp,.bool (kY v.keys)] [[],[],[],[],[1,47,50],[],[],[],[1,47,54],[],[],[56,57],[],[],[60],[2]] ?_
    iterate 16 first | refine op1 tok ?_ (hv:=by first | with_reducible exact True.intro | (((repeat' (first | with_reducible apply And.intro | intro _)) <;> first | exact (hk) | assumption | omega | contradiction | simp_all); done) | omega | simp | (simp +contextual; omega)) | refine op2 tok ?_ (hv:=by first | with_reducible exact True.intro | (((repeat' (first | with_reducible apply And.intro | intro _)) <;> first | exact (hk) | assumption | omega | contradiction | simp_all); done) | omega | simp | (simp +contextual; omega))
    refine qA ?_
    exact AW.ret (qP (k:=by simp [vN,qHK,qOM,h44,Bool.and_assoc]))
   intro h44
   try simp at h44
   refine rgn [] [[],[1,3,61]] ?_
   iterate 2 refine op1 tok ?_
   refine qA (cnd ?_ ?_)
   ·intro h61
    try simp at h61
    refine rgn [] [[],[],[],[64,66],[],[],[69],[2]] ?_
    iterate 2 refine op1 tok ?_
    iterate 4 refine op2 tok ?_
    iterate 2 refine op1 tok ?_
    refine qA ?_
    exact AW.ret (qP (k:=by simp [vN,qHK,qOM,h44,h61,zNZ]))
   intro h61
   try simp at h61
   refine AW.skip (rgn [] [[],[],[],[],[1,71,74],[],[],[1,77],[],[],[],[77,81],[],[2]] ?_)
   iterate 14 first | refine op1 tok ?_ | refine op2 tok ?_
   refine qA ?_
   exact AW.ret (qP (k:=by simp [vN,qHK,qOM,h44,h61,zNZ]))
theorem zAZ (l:List Val) (g:FuncId) (p:Val→Bool) (hg:∀ v∈l,AFn Tryz.prog G g [v.enc] (.bool (p v))):AFn Tryz.prog G 71 [.sl 9 (l.map Val.enc),.fn g] (.int .i64 (match l.findIdx? p with | some i=>(i:Int) | none => -1)):=by
 refine AFn.introU tok Tryz.func71 (by kernel_rfl) rfl rfl ?_
 simp only [Tryz.f71,qO,List.map_cons,List.map_nil]
 refine rgn [] [[0,1]] ?_
 refine op1 tok ?_
 refine qA (AW.seq (rgn [] [[],[],[0,1,7,8]] ?_))
 iterate 3 refine op1 tok ?_
 refine qA (AW.block ?_)
 refine AW.intFactU (i:=7) rfl (by decide) ?_; intro hlen; simp at hlen
 refine AW.loop (α:=Nat) (fun k=>k≤l.length∧(l.take k).all (fun v => !p v)=true) (fun k=>⟨zI 19 [(0,.p (.sl 9 (l.map Val.enc))),(1,.p (.fn g)),(7,.p (.int .i64 l.length)),(8,.p (.int .i64 k))],[],[],0⟩) (fun k=>l.length-k) (0) ⟨by omega,rfl⟩ ⟨qE (by simp),rfl,by simp,by simp⟩ ?_
 rintro k ⟨hk,hall⟩
 refine rgn [] [[]] ?_
 refine op1 tok ?_
 refine qA (AW.seq (cnd ?_ ?_))
 ·intro h9
  try simp at h9
  obtain ⟨v,hv⟩:∃ v,l[k]?=some v:=⟨l[k],by simp [h9]⟩
  have hgv:=hg v (List.mem_of_getElem? hv)
  refine AW.skip (AW.seq (AW.block (rgn [] [[],[0,1,5,7,8]] ?_)))
  iterate 2 refine op1 tok ?_
  refine qA (rgn [v.enc,.tup [v.enc],.bool (p v)] [[],[],[],[],[],[0,1,5,7,8,16]] ?_)
  iterate 6 refine op1 tok ?_ (hv:=by first | with_reducible exact True.intro | (first | (simp [hv]; done) | (simp at hgv ⊢; exact hgv); done) | omega | simp | (simp +contextual; omega))
  refine qA (cnd ?_ ?_)
  ·intro h16
   try simp at h16
   have hf:l.findIdx? p=some k:=by
    rw [List.findIdx?_eq_some_iff_getElem]
    have h9':=h9
    refine ⟨h9, ?_,fun j hj => ?_⟩
    ·rw [List.getElem?_eq_getElem h9] at hv; cases hv; exact h16
    have:=List.all_eq_true.1 hall (l[j]'(by omega)) (List.mem_iff_getElem.2 ⟨j,by simp; omega,by simp⟩)
    simpa using this
   refine rgn [] [[],[4]] ?_
   iterate 2 refine op1 tok ?_
   refine qA ?_
   exact AW.ret (qP (k:=by simp [hf]))
  intro h16
  try simp at h16
  refine AW.skip (rgz [] [[],[0,1,7,8]] ?_)
  iterate 2 refine op1 tok ?_
  refine qA ?_
  exact ⟨k+1,⟨by omega,by rw [List.take_add_one,hv,List.all_append,hall]; simpa using h16⟩,by omega,qE (by simp),rfl,by simp,by simp⟩
 intro h9
 try simp at h9
 rw [List.take_of_length_le h9] at hall
 have hf:l.findIdx? p=none:=by
  rw [List.findIdx?_eq_none_iff]; intro x hx; simpa using List.all_eq_true.1 hall x hx
 refine AW.exit ?_
 simp
 refine rgn [] [[]] ?_
 refine op1 tok ?_
 refine qA ?_
 exact AW.ret (qP (k:=by simp [hf]))
theorem qRG (l:List Val) (g:FuncId) (p:Val→Bool) (hg:∀ v∈l,AFn Tryz.prog G g [v.enc] (.bool (p v))):AFn Tryz.prog G 38 [.sl 9 (l.map Val.enc),.fn g] (.bool (l.any p)):=by
 refine AFn.introU tok Tryz.func38 (by kernel_rfl) rfl rfl ?_
 simp only [Tryz.f38,qO,List.map_cons,List.map_nil]
 have hi:=zAZ l g p hg
 have ha:l.any p=decide (0≤(match l.findIdx? p with | some i=>(i:Int) | none => -1)):=by
  cases h:l.findIdx? p with
  | none=>simp; intro x hx; simpa using List.findIdx?_eq_none_iff.1 h x hx
  | some i =>
   obtain ⟨h1,h2,_⟩:=List.findIdx?_eq_some_iff_getElem.1 h
   simp; exact ⟨_,List.getElem_mem h1,h2⟩
 rw [ha]
 generalize (match l.findIdx? p with | some i=>(i:Int) | none => -1)=n at *
 refine rgn [] [[0,1]] ?_
 refine op1 tok ?_
 refine qA (rgn [.nilp,.int .i64 n] [[],[],[7],[],[4]] ?_)
 iterate 5 refine oq1 tok hi ?_
 exact qA (AW.ret qP)
theorem zHK (v:Val) (h:AFn Tryz.prog G 21 [v.enc] (.bool (wC v))):AFn Tryz.prog G 39 [v.enc] (.bool (!wC v)):=by
 refine AFn.introU tok Tryz.func39 (by kernel_rfl) rfl rfl ?_
 simp only [Tryz.f39,qO,List.map_cons,List.map_nil]
 refine rgn [] [[],[1]] ?_
 iterate 2 refine op1 tok ?_
 refine qA (rgn [.nilp,.bool (wC v)] [[],[],[],[2]] ?_)
 iterate 4 refine op1 tok ?_ (hv:=by first | with_reducible exact True.intro | (first | exact h | (simp at h ⊢; exact h); done) | omega | simp | (simp +contextual; omega))
 exact qA (AW.ret qP)
theorem zAU (hG:U8 G) (v:Val) (ih:∀ k∈v.kids,AFn Tryz.prog G 21 [k.enc] (.bool (wC k))):AFn Tryz.prog G 21 [v.enc] (.bool (wC v)):=by
 refine AFn.introU tok Tryz.func21 (by kernel_rfl) rfl rfl ?_
 simp only [Tryz.f21,qO,List.map_cons,List.map_nil]
 have hp:=zAH hG v
 have hc:=qRG (G:=G) v.kids 39 (fun k => !wC k) (fun k hk=>zHK k (ih k hk))
 have hca:v.kids.any (fun k => !wC k) = !v.kids.all wC:=by simp [List.all_eq_not_any_not]
 rw [hca] at hc
 rw [qGF]
 refine rgn [] [[],[1]] ?_
 iterate 2 refine op1 tok ?_
 refine qA (AW.seq (rgn [.nilp,.bool (vN v)] [[],[],[],[],[],[1,6,8],[],[],[1,11],[],[],[],[],[1,16],[],[],[],[],[1,21]] ?_))
 iterate 19 first | refine op1 tok ?_ (hv:=by first | with_reducible exact True.intro | (first | ((repeat' (first | with_reducible apply And.intro | intro _)) <;> first | exact (hp) | assumption | omega | contradiction | simp_all) | (simp at hp ⊢; ((repeat' (first | with_reducible apply And.intro | intro _)) <;> first | exact (hp) | assumption | omega | contradiction | simp_all)); done) | omega | simp | (simp +contextual; omega)) | refine op2 tok ?_ (hv:=by first | with_reducible exact True.intro | (first | ((repeat' (first | with_reducible apply And.intro | intro _)) <;> first | exact (hp) | assumption | omega | contradiction | simp_all) | (simp at hp ⊢; ((repeat' (first | with_reducible apply And.intro | intro _)) <;> first | exact (hp) | assumption | omega | contradiction | simp_all)); done) | omega | simp | (simp +contextual; omega))
 refine qA (cnd ?_ ?_)
 ·intro h21
  try simp at h21
  have hno:(vF v && vN v && v.kids.all wC)=false:=by
   rcases h21 with h | h
   ·have:vF v=false:=by simp [vF]; omega
    rw [this]; rfl
   rw [h]; simp
  rw [hno]
  refine rgn [] [[]] ?_
  refine op1 tok ?_
  exact qA (AW.ret qP)
 intro h21
 try simp at h21
 have hyes:(vF v && vN v)=true:=by
  have:vF v=true:=by simp [vF]; omega
  rw [this,h21.2]; rfl
 rw [hyes]
 refine AW.skip (rgn [.nilp,.bool (!v.kids.all wC)] [[],[],[],[25],[2]] ?_)
 iterate 5 refine oq1 tok hc ?_
 exact qA (AW.ret qP)
theorem qYU (hG:U8 G) (v:Val):AFn Tryz.prog G 21 [v.enc] (.bool (wC v)):=Val.induct (fun v ih=>zAU hG v ih) v
def zFH (u:Bool):V:=if u then .ptr 2 0 else .p .nilp
def qCD (u:Bool) (bs:List UInt8):List (Nat × Box):=[(2,.vars 111 [zFH u,.ms 3]),(3,.row 5 1 (qG bs))]
theorem qUZ:(Tryz.prog.info? 111).map (·.size)=some 2:=by kernel_rfl
theorem zFG:liesAt Tryz.prog Tryz.prog.depth 111 (2 / Tryz.prog.cellsOf 111) 0 111 1=true:=by kernel_rfl
section
set_option maxHeartbeats 1000000 in
theorem zID (b : Nat) (w : World) (h0 : w.cell? ⟨b, 0, none⟩ = some (.pointer (some ⟨b, 0, none⟩))) :
  Calls Tryz.prog 107 #[.pointer (some ⟨b,0,none⟩)] w fun e w'=>e = .returned (.tuple #[])∧w'=w:=by
 obtain ⟨j,hj,_⟩:=Option.map_eq_some_iff.1 qUZ
 go_enter Tryz.func107,Tryz.ntmps107
 go_wp2
 rw [Lib.run_neq_ptr_same w _ Tryz.underlying109 hj]
 go_wp2
 go_end0
 exact ⟨rfl,rfl⟩
set_option maxHeartbeats 1000000 in
theorem zFA (b : Nat) (w : World) (h0 : w.cell? ⟨b, 0, none⟩ = some (.pointer none)) (hsh : w.shape? b = some (111, 2)) (hfz : w.frozen? ⟨b, 0, none⟩ = false) :
  Calls Tryz.prog 107 #[.pointer (some ⟨b,0,none⟩)] w fun e w'=>e = .returned (.tuple #[])∧w'=w.setCell ⟨b,0,none⟩ (.pointer (some ⟨b,0,none⟩)):=by
 obtain ⟨j,hj,hjs⟩:=Option.map_eq_some_iff.1 qUZ
 go_enter Tryz.func107,Tryz.ntmps107
 go_wp2
 rw [Lib.run_to_unsafe w ⟨b,0,none⟩ Tryz.underlying109 Tryz.underlying166 hj (by rw [hjs]; decide) hsh (Nat.zero_lt_succ 1)]
 simp only [Result.andThen]
 rw [Oper.upon_value]
 go_wp2
 rw [run_callFunc_extern Tryz.func140 (by kernel_rfl) (by kernel_rfl) (by kernel_rfl) (e:=Extern.AbiNoEscape.same) (by kernel_rfl)]
 rw [Lib.run_noEscape]
 simp only [Result.andThen]
 rw [Oper.upon_value]
 go_wp2
 rw [Lib.run_from_unsafe w ⟨b,0,none⟩ Tryz.underlying166 Tryz.underlying109 hj hsh zFG]
 simp only [Result.andThen]
 rw [Oper.upon_value]
 go_wp2
 go_end0
 exact ⟨rfl,rfl⟩
end
theorem qGQ (u:Bool) (bs:List UInt8):AX Tryz.prog G 107 [.ptr 2 0] (qCD u bs) (.tuple []) [2,3] (qCD true bs):=by
 refine ⟨jB Tryz.func107 (by kernel_rfl) rfl,fun M μ w vs hg rel => ?_⟩
 obtain ⟨l⟩:=vs
 have hsz:l.length=1:=by simpa using rel.slots.1
 match l,hsz with
 | [v],_ =>
 have hv:=rel.slots.2 0 v (.ptr 2 0) rfl rfl
 cases hv with
 | @ptr _ _ b hb =>
 have hbx:=rel.box 2 (.vars 111 [zFH u,.ms 3]) (by simp [qCD])
 cases hbx with
 | @vars _ _ b' arr h0 hh hs ho hc =>
 rw [hb] at h0; cases h0
 obtain ⟨x,y,rfl⟩:∃ x y,arr = #[x,y]:=by
  obtain ⟨l⟩:=arr
  match l,hs with
  | [x,y],_=>exact ⟨x,y,rfl⟩
 have hx:=hc 0 x (zFH u) rfl rfl
 have hy:=hc 1 y (.ms 3) rfl rfl
 have hfin : ∀ w', Rel ⟨w.heap.size, w, M, μ, yA μ (qCD u bs)⟩ M μ ⟨[.ptr 2 0], (qCD u bs).map (·.1), qCD true bs, 0⟩ #[.pointer (some ⟨b, 0, none⟩)] w' →
   ∃ v M' μ',(Ending.returned (.tuple #[]):Ending) = .returned v∧Rel ⟨w.heap.size,w,M,μ,yA μ (qCD u bs)⟩ M' μ' ⟨[.tuple []],[2,3],qCD true bs,0⟩ #[v] w':=by
  intro w' r
  refine ⟨_,M,μ,rfl,{ r with slots:=⟨rfl,fun i u x hu hx => ?_⟩,pins:=fun _ _=>rfl }⟩
  cases i with
  | zero=>simp at hu hx; subst hu; subst hx; exact .tuple rfl fun i u x hu=>by simp at hu
  | succ i=>simp at hx
 cases u with
 | true =>
  obtain rfl:x = .pointer (some ⟨b,0,none⟩):=by
   cases hx with
   | ptr h=>rw [hb] at h; cases h; rfl
  refine (zID b w (by rw [yC hh]; rfl)).mono ?_
  rintro e w' ⟨rfl,rfl⟩
  exact hfin _ rel
 | false =>
  obtain rfl:x = .pointer none:=by
   cases hx with
   | p h=>cases h; rfl
  refine (zFA b w (by rw [yC hh]; rfl) (by simp [World.shape?,hh]) (by simp [World.frozen?,hh])).mono ?_
  rintro e w' ⟨rfl,rfl⟩
  refine hfin _ ?_
  have ht:Turned w (w.setCell ⟨b,0,none⟩ (.pointer (some ⟨b,0,none⟩))) b :=
   ⟨rfl,rfl,rfl,by simp [World.setCell],fun k hk=>RowKit.Below.heap_setCell w ⟨b,0,none⟩ _ k hk⟩
  have:=rel.write (id:=2) (bx := .vars 111 [zFH true,.ms 3]) (by simp [qM,qCD]) hb ht (.vars (arr := #[.pointer (some ⟨b,0,none⟩),y]) hb (by simp only [World.setCell,Array.getElem?_modify,if_pos,hh]; simp) rfl (fun i u hu => ?_) (fun i u x hu hx => ?_))
  ·simpa [qCD,zZ] using this
  ·match i,hu with
   | 0,hu=>simp at hu; subst hu; rfl
   | 1,hu=>exact ho 1 u (by simpa using hu)
   | i+2,hu=>simp at hu
  match i,hu,hx with
  | 0,hu,hx=>simp at hu hx; subst hu; subst hx; exact .ptr hb
  | 1,hu,hx=>simp at hu hx; subst hu; subst hx; exact hy
  | i+2,hu,hx=>simp at hu
theorem qXF (bs:List UInt8):AX Tryz.prog G 107 [.ptr 2 0] [(2,.vars 111 [.p .nilp,.ms 3]),(3,.row 5 1 (qG bs))] (.tuple []) [2,3] [(2,.vars 111 [.ptr 2 0,.ms 3]),(3,.row 5 1 (qG bs))]:=qGQ false bs
theorem zFB (bs:List UInt8):AX Tryz.prog G 107 [.ptr 2 0] [(2,.vars 111 [.ptr 2 0,.ms 3]),(3,.row 5 1 (qG bs))] (.tuple []) [2,3] [(2,.vars 111 [.ptr 2 0,.ms 3]),(3,.row 5 1 (qG bs))]:=qGQ true bs
open Go.Shelf Go.RowKit
section
variable {P:Program} {ρ:Ren}
abbrev qNI (g:Nat) (w w':World):Prop:=Kept (fun k=>k=g∨w.heap.size≤k) w w'
theorem qHL (g:Nat) (w:World):qNI g w w.drew:=⟨rfl,rfl,rfl,Nat.le_refl _,fun _ _=>rfl⟩
theorem qTX (g:Nat) (w:World) (n:Nat):qNI g w (w.drew.freeze ⟨g,0,none⟩ n):=by
 unfold World.freeze
 split
 ·exact qHL g w
 exact ⟨rfl,rfl,rfl,by simp only [Array.size_modify]; exact Nat.le_refl _,fun k hk=>by
  simp only [Array.getElem?_modify]
  rw [if_neg (by omega)]; rfl⟩
theorem qLQ (g:Nat) (w:World) (o:Obj):qNI g w (w.alloc o).drew:=⟨rfl,rfl,rfl,by show w.heap.size≤(w.heap.push o).size; simp,fun k hk=>by
 show (w.heap.push o)[k]?=_
 rw [Array.getElem?_push,if_neg (by omega)]⟩
theorem qTY (g:Nat) (w:World) (o:Obj):qNI g w (w.drew.alloc o):=qLQ g w o
set_option maxHeartbeats 1000000 in
theorem zIH (L : Lays.n169 P ρ) (X : Builder.Extra P ρ) (b g cap : Nat) (p : Value) (cur : Array Value) (l : List UInt8) (w : World) (hbk : w.heap[b]? = some (.cells #[p, .slice (some ⟨g, 0, none⟩) l.length cap] (ρ.t 72) (0, 0)))
  (hg:w.heap[g]?=some (.cells cur (ρ.t 5) (0,0))) (hnc:l.length≤cap) (hcm:cap≤maxLen) (hcs:cur.size=cap) (hcells:∀ (j:Nat) (x:UInt8),l[j]?=some x→cur[j]?=some (Value.int .u8 x.toNat)) (h0:l≠[]) :
  Calls P (ρ.f 169) #[.pointer (some ⟨b,0,none⟩)] w fun e w'=>e = .returned (.string ⟨l.toArray⟩)∧qNI g w w':=by
 have hl0:l.length≠0:=by simpa using h0
 have c1:w.drew.cell? ⟨b,1,none⟩=some (.slice (some ⟨g,0,none⟩) l.length cap):=by
  have:w.drew.heap[b]?=some (.cells #[p,.slice (some ⟨g,0,none⟩) l.length cap] (ρ.t 72) (0,0)):=hbk
  rw [Lib.cell_of_heap this]; rfl
 have hSD:(Builtin.unsafeSliceData_ #[(ρ.t 37)] (ρ.t 127) #[.slice (some ⟨g,0,none⟩) l.length cap]).run P w.drew = .ok (.pointer (some ⟨g,0,none⟩)) w.drew :=
  Lib.run_unsafeSliceData_row _ _ _ _ _ _ (by omega)
 have hUS:(Builtin.unsafeString_ #[(ρ.t 127),(ρ.t 3)] (ρ.t 9) #[.pointer (some ⟨g,0,none⟩),.int .i64 l.length]).run P w.drew = .ok (.string ⟨l.toArray⟩) (w.drew.freeze ⟨g,0,none⟩ l.length):=by
  refine Lib.run_unsafeString_row w.drew (ρ.t 127) (ρ.t 3) (ρ.t 9) (ρ.t 5) L.t127 X.cellsByte g cur.size (by have hg':w.drew.heap[g]?=some (.cells cur (ρ.t 5) (0,0)):=hg; simp [World.shape?,hg']) l h0 (by omega) (by unfold maxLen at hcm; omega) ?_
  intro j x hx
  have hg':w.drew.heap[g]?=some (.cells cur (ρ.t 5) (0,0)):=hg
  rw [vP,Nat.zero_add,Lib.cell_of_heap hg']
  exact hcells j x hx
 have mixed:=L.mixed
 have t72:=L.t72; have a72:=L.a72; have z72:=L.z72; have v72:=L.v72; have u72:=run_underlying L.t72
 have t70:=L.t70; have a70:=L.a70; have z70:=L.z70; have v70:=L.v70; have u70:=run_underlying L.t70
 have t37:=L.t37; have a37:=L.a37; have z37:=L.z37; have v37:=L.v37; have u37:=run_underlying L.t37
 have t127:=L.t127; have a127:=L.a127; have z127:=L.z127; have v127:=L.v127; have u127:=run_underlying L.t127
 have t3:=L.t3; have a3:=L.a3; have z3:=L.z3; have v3:=L.v3; have u3:=run_underlying L.t3
 have t9:=L.t9; have a9:=L.a9; have z9:=L.z9; have v9:=L.v9; have u9:=run_underlying L.t9
 have t5:=X.t5; have a5:=X.a5; have z5:=X.z5; have v5:=X.v5; have u5:=run_underlying X.t5
 go_enter L.f169,Body.n169_ntmps ρ
 go_wp2
 go_region_o
 all_goals (go_wp2; go_ret; exact ⟨rfl,qTX g w _⟩)
set_option maxHeartbeats 2000000 in
theorem zII (L : Lays.n169 P ρ) (X : Builder.Extra P ρ) (b : Nat) (p : Value) (w : World) (hbk : w.heap[b]? = some (.cells #[p, .slice none 0 0] (ρ.t 72) (0, 0))) :
  Calls P (ρ.f 169) #[.pointer (some ⟨b,0,none⟩)] w fun e w'=>e = .returned (.string ⟨#[]⟩)∧qNI w.heap.size w w':=by
 have hUS:=Any.unsafeString_none L X
 have c1:w.drew.cell? ⟨b,1,none⟩=some (.slice none 0 0):=by
  have:w.drew.heap[b]?=some (.cells #[p,.slice none 0 0] (ρ.t 72) (0,0)):=hbk
  rw [Lib.cell_of_heap this]; rfl
 have hSD:(Builtin.unsafeSliceData_ #[(ρ.t 37)] (ρ.t 127) #[.slice none 0 0]).run P w.drew = .ok (.pointer none) w.drew:=rfl
 have mixed:=L.mixed
 have t72:=L.t72; have a72:=L.a72; have z72:=L.z72; have v72:=L.v72; have u72:=run_underlying L.t72
 have t70:=L.t70; have a70:=L.a70; have z70:=L.z70; have v70:=L.v70; have u70:=run_underlying L.t70
 have t37:=L.t37; have a37:=L.a37; have z37:=L.z37; have v37:=L.v37; have u37:=run_underlying L.t37
 have t127:=L.t127; have a127:=L.a127; have z127:=L.z127; have v127:=L.v127; have u127:=run_underlying L.t127
 have t3:=L.t3; have a3:=L.a3; have z3:=L.z3; have v3:=L.v3; have u3:=run_underlying L.t3
 have t9:=L.t9; have a9:=L.a9; have z9:=L.z9; have v9:=L.v9; have u9:=run_underlying L.t9
 have t5:=X.t5; have a5:=X.a5; have z5:=X.z5; have v5:=X.v5; have u5:=run_underlying X.t5
 go_enter L.f169,Body.n169_ntmps ρ
 go_wp2
 go_region_o
 all_goals (go_wp2; go_ret; exact ⟨rfl,qHL _ w⟩)
set_option maxHeartbeats 2000000 in
theorem zFF (L : Lays.n169 P ρ) (X : Builder.Extra P ρ) (b g : Nat) (p : Value) (cur : Array Value) (w : World) (hlt : b < w.heap.size) (hbk : w.heap[b]? = some (.cells #[p, .slice (some ⟨g, 0, none⟩) 0 0] (ρ.t 72) (0, 0))) (hg : w.heap[g]? = some (.cells cur (ρ.t 5) (0, 0))) :
  Calls P (ρ.f 169) #[.pointer (some ⟨b,0,none⟩)] w fun e w'=>e = .returned (.string ⟨#[]⟩)∧qNI g w w':=by
 have hUS:=Any.unsafeString_none L X
 have c1:w.drew.cell? ⟨b,1,none⟩=some (.slice (some ⟨g,0,none⟩) 0 0):=by
  have:w.drew.heap[b]?=some (.cells #[p,.slice (some ⟨g,0,none⟩) 0 0] (ρ.t 72) (0,0)):=hbk
  rw [Lib.cell_of_heap this]; rfl
 have hSD:(Builtin.unsafeSliceData_ #[(ρ.t 37)] (ρ.t 127) #[.slice (some ⟨g,0,none⟩) 0 0]).run P w.drew = .ok (.pointer (some ⟨w.drew.heap.size,0,none⟩)) (w.drew.alloc (.view ⟨g,0,none⟩ (ρ.t 5))) :=
  Lib.run_unsafeSliceData_zero w.drew _ _ (ρ.t 5) L.t127 ⟨g,0,none⟩ 0 ((ρ.t 5),cur.size) (by have hg':w.drew.heap[g]?=some (.cells cur (ρ.t 5) (0,0)):=hg; simp [World.shape?,hg'])
 have c2:(w.drew.alloc (.view ⟨g,0,none⟩ (ρ.t 5))).cell? ⟨b,1,none⟩=some (.slice (some ⟨g,0,none⟩) 0 0):=by
  have:(w.drew.alloc (.view ⟨g,0,none⟩ (ρ.t 5))).heap[b]?=_:=(Lib.alloc_old w.drew _ b hlt).trans hbk
  rw [Lib.cell_of_heap this]; rfl
 have c3:(w.alloc (.view ⟨g,0,none⟩ (ρ.t 5))).drew.cell? ⟨b,1,none⟩=some (.slice (some ⟨g,0,none⟩) 0 0):=c2
 have c0:w.cell? ⟨b,1,none⟩=some (.slice (some ⟨g,0,none⟩) 0 0):=c1
 have mixed:=L.mixed
 have t72:=L.t72; have a72:=L.a72; have z72:=L.z72; have v72:=L.v72; have u72:=run_underlying L.t72
 have t70:=L.t70; have a70:=L.a70; have z70:=L.z70; have v70:=L.v70; have u70:=run_underlying L.t70
 have t37:=L.t37; have a37:=L.a37; have z37:=L.z37; have v37:=L.v37; have u37:=run_underlying L.t37
 have t127:=L.t127; have a127:=L.a127; have z127:=L.z127; have v127:=L.v127; have u127:=run_underlying L.t127
 have t3:=L.t3; have a3:=L.a3; have z3:=L.z3; have v3:=L.v3; have u3:=run_underlying L.t3
 have t9:=L.t9; have a9:=L.a9; have z9:=L.z9; have v9:=L.v9; have u9:=run_underlying L.t9
 have t5:=X.t5; have a5:=X.a5; have z5:=X.z5; have v5:=X.v5; have u5:=run_underlying X.t5
 go_enter L.f169,Body.n169_ntmps ρ
 go_wp2
 go_region_o
 all_goals (go_wp2; go_ret; first | exact ⟨rfl,qLQ g w _⟩ | exact ⟨rfl,qTY g w _⟩)
set_option maxHeartbeats 2000000 in
theorem zFE (L : Lays.n169 P ρ) (X : Builder.Extra P ρ) (b g cap : Nat) (p : Value) (w : World) (hc0 : cap ≠ 0) (hbk : w.heap[b]? = some (.cells #[p, .slice (some ⟨g, 0, none⟩) 0 cap] (ρ.t 72) (0, 0))) :
  Calls P (ρ.f 169) #[.pointer (some ⟨b,0,none⟩)] w fun e w'=>e = .returned (.string ⟨#[]⟩)∧qNI g w w':=by
 have hUS:=Any.unsafeString_none L X
 have c1:w.drew.cell? ⟨b,1,none⟩=some (.slice (some ⟨g,0,none⟩) 0 cap):=by
  have:w.drew.heap[b]?=some (.cells #[p,.slice (some ⟨g,0,none⟩) 0 cap] (ρ.t 72) (0,0)):=hbk
  rw [Lib.cell_of_heap this]; rfl
 have hSD:(Builtin.unsafeSliceData_ #[(ρ.t 37)] (ρ.t 127) #[.slice (some ⟨g,0,none⟩) 0 cap]).run P w.drew = .ok (.pointer (some ⟨g,0,none⟩)) w.drew :=
  Lib.run_unsafeSliceData_row _ _ _ _ _ _ hc0
 clear hc0
 have mixed:=L.mixed
 have t72:=L.t72; have a72:=L.a72; have z72:=L.z72; have v72:=L.v72; have u72:=run_underlying L.t72
 have t70:=L.t70; have a70:=L.a70; have z70:=L.z70; have v70:=L.v70; have u70:=run_underlying L.t70
 have t37:=L.t37; have a37:=L.a37; have z37:=L.z37; have v37:=L.v37; have u37:=run_underlying L.t37
 have t127:=L.t127; have a127:=L.a127; have z127:=L.z127; have v127:=L.v127; have u127:=run_underlying L.t127
 have t3:=L.t3; have a3:=L.a3; have z3:=L.z3; have v3:=L.v3; have u3:=run_underlying L.t3
 have t9:=L.t9; have a9:=L.a9; have z9:=L.z9; have v9:=L.v9; have u9:=run_underlying L.t9
 have t5:=X.t5; have a5:=X.a5; have z5:=X.z5; have v5:=X.v5; have u5:=run_underlying X.t5
 go_enter L.f169,Body.n169_ntmps ρ
 go_wp2
 go_region_o
 all_goals (go_wp2; go_ret; exact ⟨rfl,qHL _ w⟩)
end
theorem qBS:Builder.Extra Tryz.prog Tryz.lays169_ren where
 sizeBuilder:=by kernel_rfl
 liesBuilder:=by kernel_rfl
 t5:=Tryz.underlying5
 a5:=Tryz.isAgg5
 z5:=Tryz.sizeOf5
 v5:=Tryz.zeroValue5
 infoByte:=by kernel_rfl
 cellsByte:=by kernel_rfl
 sizeByte:=by kernel_rfl
 neB5:=by decide
theorem qEF (u:Bool) (bs:List UInt8):AX Tryz.prog G 76 [.ptr 2 0] (qCD u bs) (.p (.str bs)) [] []:=by
 refine ⟨jB Tryz.func76 (by kernel_rfl) rfl,fun M μ w vs hg rel => ?_⟩
 obtain ⟨l⟩:=vs
 have hsz:l.length=1:=by simpa using rel.slots.1
 match l,hsz with
 | [v],_ =>
 have hv:=rel.slots.2 0 v (.ptr 2 0) rfl rfl
 cases hv with
 | @ptr _ _ b hb =>
 have hbx:=rel.box 2 (.vars 111 [zFH u,.ms 3]) (by simp [qCD])
 cases hbx with
 | @vars _ _ b' arr h0 hh hs ho hc =>
 rw [hb] at h0; cases h0
 obtain ⟨x,y,rfl⟩:∃ x y,arr = #[x,y]:=by
  obtain ⟨l⟩:=arr
  match l,hs with
  | [x,y],_=>exact ⟨x,y,rfl⟩
 have hy:=hc 1 y (.ms 3) rfl rfl
 have hblt:b<w.heap.size:=(Array.getElem?_eq_some_iff.1 hh).1
 have hfin : ∀ (g : Nat) (w' : World), (g < w.heap.size → yA μ (qCD u bs) g ∧ ∀ o, M g o = none) → bs.length ≤ maxLen → qNI g w w' →
   ∃ v M' μ',(Ending.returned (.string ⟨bs.toArray⟩):Ending) = .returned v∧Rel ⟨w.heap.size,w,M,μ,yA μ (qCD u bs)⟩ M' μ' ⟨[.p (.str bs)],[],[],0⟩ #[v] w':=by
  intro g w' hl hm hk
  refine ⟨_,M,μ,rfl, ?_⟩
  have hko:∀ k,k<w.heap.size→k≠g→w'.heap[k]?=w.heap[k]?:=fun k h1 h2=>hk.block k (by omega)
  refine ⟨fun b o v hv => ?_,fun _ _ _ h=>h,fun _ _ _=>rfl,⟨rfl,fun i u x hu hx => ?_⟩,fun _ h=>(by cases h),fun _ _ h=>(by cases h),by simp,fun _ _ _ h=>by simp [qM] at h,fun _ _ h=>by simp [qM] at h,hk.size, ?_⟩
  ·have h1:=rel.mem b o v hv
   have hlt:=xV h1
   exact (World.cell?_of_block (w:=w) (hko b hlt (by rintro rfl; rw [(hl hlt).2 o] at hv; cases hv))).trans h1
  ·cases i with
   | zero=>simp at hu hx; subst hu; subst hx; exact .p (.str (by simp) hm)
   | succ i=>simp at hx
  refine ⟨hk.os,hk.tape,hk.output,hk.size,fun k h => ?_⟩
  have h1:k<w.heap.size:=Nat.not_le.1 fun h'=>h (.inl h')
  exact hko k h1 (by rintro rfl; exact h (.inr (hl h1).1))
 have hrow:=rel.box 3 (.row 5 1 (qG bs)) (by simp [qCD])
 have key:∃ g,(g<w.heap.size→yA μ (qCD u bs) g∧∀ o,M g o=none)∧bs.length≤maxLen∧Calls Tryz.prog 76 #[.pointer (some ⟨b,0,none⟩)] w fun e w'=>e = .returned (.string ⟨bs.toArray⟩)∧qNI g w w':=by
  rcases hrow.cells with ⟨he,hn,hval⟩ | ⟨g,cap,cur,hg0,hval,hgh,hcs,hlc,hcm,hone,hro⟩
  ·obtain rfl:bs=[]:=by simpa [qG] using he
   have hy':y = .slice none 0 0:=by cases hy with | ms h _=>rw [h,hval]
   subst hy'
   exact ⟨w.heap.size,fun h=>absurd h (Nat.lt_irrefl _),by simp,zII Tryz.lays169 qBS b x w hh⟩
  have hy':y = .slice (some ⟨g,0,none⟩) bs.length cap:=by cases hy with | ms h _=>rw [h,hval]; simp [qG]
  subst hy'
  have hown:=rel.own 3 g (by simp [qM,qCD]) hg0
  refine ⟨g,fun h=>⟨⟨3,by simp [qM,qCD],hg0⟩,hown.2.2⟩,by simp [qG] at hlc; omega, ?_⟩
  by_cases hbs:bs=[]
  ·subst hbs
   by_cases hc0:cap=0
   ·subst hc0; exact zFF Tryz.lays169 qBS b g x cur w hblt hh hgh
   exact zFE Tryz.lays169 qBS b g cap x w hc0 hh
  refine zIH Tryz.lays169 qBS b g cap x cur bs w hh hgh (by simpa [qG] using hlc) hcm (by simpa using hcs) (fun j z hz => ?_) hbs
  have hjl:=(List.getElem?_eq_some_iff.1 hz).1
  have hj:j<cur.size:=by rw [hcs]; simp [qG] at hlc; omega
  have:=hro.get j (.int .u8 z.toNat) 0 (.int .u8 z.toNat) cur[j] (by simp [qG,hz]) rfl (by simp [qG,List.getElem?_take,hjl,hj])
  rw [Array.getElem?_eq_getElem hj]
  generalize cur[j]=q at this
  cases this
  rfl
 obtain ⟨g,h1,h2,h3⟩:=key
 refine h3.mono ?_
 rintro e w' ⟨rfl,hk⟩
 exact hfin g w' h1 h2 hk
theorem qPH (bs:List UInt8):AX Tryz.prog G 76 [.ptr 2 0] [(2,.vars 111 [.ptr 2 0,.ms 3]),(3,.row 5 1 (qG bs))] (.p (.str bs)) [] []:=qEF true bs
theorem qXO (bs:List UInt8):AX Tryz.prog G 76 [.ptr 2 0] [(2,.vars 111 [.p .nilp,.ms 3]),(3,.row 5 1 (qG bs))] (.p (.str bs)) [] []:=qEF false bs
open Go
open Go.Lib
def xB (n:Nat):UInt8:=if n<10 then UInt8.ofNat (48+n) else UInt8.ofNat (87+n)
def qb (b:UInt8):List UInt8 :=
 if b=34∨b=92 then [92,b] else if b=10 then [92,110] else if b=13 then [92,114] else if b=9 then [92,116]
 else if b<32∨b=127 then [92,117,48,48,xB (b.toNat / 16),xB (b.toNat % 16)] else [b]
def wL (s:List UInt8):List UInt8:=s.flatMap qb
def zQ (s:List UInt8):List UInt8:=34::(wL s++[34])
def qCP (c:UInt8):Option Nat:=if 48≤c∧c≤57 then some (c.toNat-48) else if 97≤c∧c≤102 then some (c.toNat-87) else if 65≤c∧c≤70 then some (c.toNat-55) else none
def qBO:List UInt8→Nat→Option Nat
 | [],x=>some x
 | c::l,x=>match qCP c with
  | none=>none
  | some k=>qBO l (16 * x+k)
def wQ (s:List UInt8):Option Nat:=if s.length<6∨s.take 2≠[92,117] then none else qBO ((s.drop 2).take 4) 0
def xS (c:UInt8):Option Nat:=if c=34 then some 34 else if c=92 then some 92 else if c=47 then some 47 else if c=98 then some 8 else if c=102 then some 12 else if c=110 then some 10 else if c=114 then some 13 else if c=116 then some 9 else none
def qHU (u w:Option Nat):Nat × Nat × Bool :=
 if u.isSome=false∨u.getD 0 / 1024≠54 then (u.getD 0,6,u.isSome && decide (u.getD 0 / 1024≠55)) else (65536+u.getD 0 % 1024 * 1024+w.getD 0 % 1024,12,w.isSome && decide (w.getD 0 / 1024=55))
def yJ (s:List UInt8):Nat × Nat × Bool:=match s with
 | _::c::_=>match xS c with
  | some v=>(v,2,true)
  | none=>qHU (wQ s) (wQ (s.drop 6))
 | _=>(0,0,false)
def qHV (s:List UInt8):Option (Nat × Nat):=if (yJ s).2.2=true then some ((yJ s).1,(yJ s).2.1) else none
def wU:Nat→List UInt8→Nat→List UInt8→List UInt8 × Nat × Int
 | 0,_,_,_=>([],0,6)
 | f+1,s,at',out=>if s=[] then ([],0,6)
  else if (decodeL s).1=34 then (if 4096<out.length then ([],0,3) else (out,at'+1,0))
  else if (decodeL s).1<32∨((decodeL s).1=65533∧(decodeL s).2=1) then ([],0,6)
  else if (decodeL s).1=92 then (match qHV s with
   | none=>([],0,6)
   | some (c,n)=>wU f (s.drop n) (at'+n) (out++encodeRune c))
  else wU f (s.drop (decodeL s).2) (at'+(decodeL s).2) (out++encodeRune (decodeL s).1)
def qU (s:List UInt8):List UInt8 × Nat × Int:=if s.head?=some 34 then wU s.length (s.drop 1) 1 [] else ([],0,6)
theorem jV {b:UInt8} {t:List UInt8} (h:b.toNat<128):decodeL (b::t)=(b.toNat,1):=by
 unfold decodeL
 rw [decode_at]
 have e:(⟨(b::t).toArray⟩:ByteArray).get! 0=b:=rfl
 rw [e]
 unfold decodeN
 rw [if_pos h]
theorem qFZ {b:UInt8} (h:b.toNat<128):encodeRune (b.toNat:Int)=[b]:=by
 simp only [encodeRune,encodeRuneZ_one (r:=(b.toNat:Int)) (by omega) (by omega),List.map_cons,List.map_nil]
 congr 1
 simp
theorem vJ (l:List UInt8):decodeL l=decodeN l.length (l.getD 0 0).toNat (l.getD 1 0).toNat (l.getD 2 0).toNat (l.getD 3 0).toNat:=by
 unfold decodeL
 rw [decode_at]
 have e:∀ k,(⟨l.toArray⟩:ByteArray).get! k=l.getD k 0:=by
  intro k
  show l.toArray[k]! = _
  simp [List.getD_eq_getElem?_getD]
  rfl
 simp only [e]
 rfl
set_option maxRecDepth 100000 in
set_option maxHeartbeats 2000000 in
theorem qRE (n b0 b1 b2 b3 n' b1' b2' b3' : Nat) (hv : ¬ ((decodeN n b0 b1 b2 b3).1 = 65533 ∧ (decodeN n b0 b1 b2 b3).2 = 1)) (h : (decodeN n b0 b1 b2 b3).2 ≤ n')
  (h1:1<(decodeN n b0 b1 b2 b3).2→b1'=b1) (h2:2<(decodeN n b0 b1 b2 b3).2→b2'=b2) (h3:3<(decodeN n b0 b1 b2 b3).2→b3'=b3):decodeN n' b0 b1' b2' b3'=decodeN n b0 b1 b2 b3:=by
 revert hv h h1 h2 h3
 generalize e:decodeN n b0 b1 b2 b3=p
 obtain ⟨r,w⟩:=p
 intro hv h h1 h2 h3
 simp only at hv h h1 h2 h3
 unfold decodeN at e
 by_cases c0:b0<128
 ·rw [if_pos c0] at e
  unfold decodeN; rw [if_pos c0]; exact e
 rw [if_neg c0] at e
 by_cases c1:b0 / 32=6∧(1<n∧b1 / 64=2)
 ·rw [if_pos c1] at e
  split at e
  ·rename_i k
   cases e
   have e1:=h1 (by omega)
   subst e1
   unfold decodeN; rw [if_neg c0,if_pos ⟨c1.1,by omega,c1.2.2⟩,if_pos k]
  cases e; exact absurd ⟨rfl,rfl⟩ hv
 rw [if_neg c1] at e
 by_cases c2:b0 / 16=14∧(1<n∧b1 / 64=2)∧(2<n∧b2 / 64=2)
 ·rw [if_pos c2] at e
  split at e
  ·rename_i k
   cases e
   have e1:=h1 (by omega)
   have e2:=h2 (by omega)
   subst e1; subst e2
   unfold decodeN; rw [if_neg c0,if_neg (by omega),if_pos ⟨c2.1,⟨by omega,c2.2.1.2⟩,by omega,c2.2.2.2⟩,if_pos k]
  cases e; exact absurd ⟨rfl,rfl⟩ hv
 rw [if_neg c2] at e
 split at e
 ·rename_i c3
  split at e
  ·rename_i k
   cases e
   have e1:=h1 (by omega)
   have e2:=h2 (by omega)
   have e3:=h3 (by omega)
   subst e1; subst e2; subst e3
   unfold decodeN; rw [if_neg c0,if_neg (by omega),if_neg (by omega),if_pos ⟨c3.1,⟨by omega,c3.2.1.2⟩,⟨by omega,c3.2.2.1.2⟩,by omega,c3.2.2.2.2⟩,if_pos k]
  cases e; exact absurd ⟨rfl,rfl⟩ hv
 cases e; exact absurd ⟨rfl,rfl⟩ hv
theorem uW (l:List UInt8) (hne:l≠[]):1≤(decodeL l).2:=by
 rw [vJ l]
 unfold decodeN
 repeat' split
 all_goals simp
theorem qRF (l t:List UInt8) (hne:l≠[]) (hv:¬ ((decodeL l).1=65533∧(decodeL l).2=1)):decodeL (l.take (decodeL l).2++t)=decodeL l:=by
 have hle:=decodeL_le l hne
 have hpos:=uW l hne
 have e:=vJ l
 generalize hk:(decodeL l).2=k at *
 have g:∀ j,j<k→(l.take k++t).getD j 0=l.getD j 0:=by
  intro j hj
  rw [List.getD_eq_getElem?_getD,List.getD_eq_getElem?_getD,List.getElem?_append_left (by simp; omega),List.getElem?_take,if_pos hj]
 rw [vJ (l.take k++t),e,g 0 (by omega)]
 rw [e] at hk hv
 refine qRE _ _ _ _ _ _ _ _ _ (by rw [hk]; exact hv) ?_ ?_ ?_ ?_
 ·rw [hk]; simp; omega
 ·rw [hk]; intro h; rw [g 1 h]
 ·rw [hk]; intro h; rw [g 2 h]
 rw [hk]; intro h; rw [g 3 h]
theorem qIA (l:List UInt8) (hne:l≠[]) (hv:¬ ((decodeL l).1=65533∧(decodeL l).2=1)) (hb:128≤(l.getD 0 0).toNat):(∀ b∈l.take (decodeL l).2,128≤b.toNat)∧128≤(decodeL l).1:=by
 have hr:=vJ l
 have hle:=decodeL_le l hne
 have hlen:0<l.length:=by cases l with
  | nil=>exact absurd rfl hne
  | cons a l=>simp
 unfold decodeN at hr
 rw [if_neg (by omega)] at hr
 split at hr
 ·rename_i c
  split at hr
  ·rw [hr] at hv hle ⊢
   simp only at hle ⊢
   rw [takeB l (by omega)]
   refine ⟨fun b hb' => ?_,by omega⟩
   simp at hb'
   rcases hb' with h | h <;> (subst h; simp at hb c; omega)
  rw [hr] at hv; exact absurd ⟨rfl,rfl⟩ hv
 split at hr
 ·rename_i c
  split at hr
  ·rw [hr] at hv hle ⊢
   simp only at hle ⊢
   rw [takeC l (by omega)]
   refine ⟨fun b hb' => ?_,by omega⟩
   simp at hb'
   rcases hb' with h | h | h <;> (subst h; simp at hb c; omega)
  rw [hr] at hv; exact absurd ⟨rfl,rfl⟩ hv
 split at hr
 ·rename_i c
  split at hr
  ·rw [hr] at hv hle ⊢
   simp only at hle ⊢
   rw [takeD l (by omega)]
   refine ⟨fun b hb' => ?_,by omega⟩
   simp at hb'
   rcases hb' with h | h | h | h <;> (subst h; simp at hb c; omega)
  rw [hr] at hv; exact absurd ⟨rfl,rfl⟩ hv
 rw [hr] at hv; exact absurd ⟨rfl,rfl⟩ hv
theorem qOB {l:List UInt8} (h:∀ b∈l,128≤b.toNat):wL l=l:=by
 induction l with
 | nil=>rfl
 | cons b l ih =>
  have hb:=h b (by simp)
  have h1:qb b=[b]:=by
   unfold qb
   have ne:∀ c:UInt8,c.toNat<128→b≠c:=fun c hc e=>by subst e; omega
   rw [if_neg (by rintro (e | e) <;> exact ne _ (by decide) e),if_neg (ne _ (by decide)),if_neg (ne _ (by decide)),if_neg (ne _ (by decide)),if_neg]
   rintro (e | e)
   ·rw [UInt8.lt_iff_toNat_lt] at e
    simp at e; omega
   exact ne _ (by decide) e
  show qb b++wL l=_
  rw [h1,ih fun b hb=>h b (List.mem_cons_of_mem _ hb)]
  rfl
theorem qBH (a b:List UInt8):wL (a++b)=wL a++wL b:=by simp [wL]
theorem zCI (b:UInt8) (hb:b.toNat<128) (f:Nat) (at':Nat) (out t:List UInt8):wU (f+1) (qb b++t) at' out=wU f t (at'+(qb b).length) (out++[b]):=by
 have esc:∀ (x:UInt8) (l:List UInt8) (c:UInt8),c.toNat<128→qHV (92::x::(l++t))=some (c.toNat,l.length+2)→wU (f+1) (92::x::l++t) at' out=wU f t (at'+(92::x::l).length) (out++[c]):=by
  intro x l c hc he
  show wU (f+1) (92::x::(l++t)) at' out=_
  simp only [wU]
  rw [if_neg (by simp),jV (show (92:UInt8).toNat<128 by decide),if_neg (by decide),if_neg (by decide),if_pos (by decide),he]
  simp only
  rw [qFZ hc]
  rw [show (92::x::(l++t)).drop (l.length+2)=t by simp]
  simp
 unfold qb
 split
 ·rename_i h
  rcases h with rfl | rfl
  ·exact esc 34 [] 34 (by decide) rfl
  exact esc 92 [] 92 (by decide) rfl
 rename_i h0
 split
 ·rename_i h; subst h; exact esc 110 [] 10 (by decide) rfl
 split
 ·rename_i h; subst h; exact esc 114 [] 13 (by decide) rfl
 split
 ·rename_i h; subst h; exact esc 116 [] 9 (by decide) rfl
 split
 ·rename_i h
  refine esc 117 [48,48,xB (b.toNat / 16),xB (b.toNat % 16)] b hb ?_
  have hex:∀ k:Fin 128,k.val<32∨k.val=127→qBO [48,48,xB (k.val / 16),xB (k.val % 16)] 0=some k.val:=by decide +kernel
  have h':b.toNat<32∨b.toNat=127:=by
   rcases h with h | h
   ·rw [UInt8.lt_iff_toNat_lt] at h; exact .inl h
   subst h; exact .inr rfl
  have h2:=hex ⟨b.toNat,hb⟩ h'
  simp only at h2
  have h3:wQ (92::117::([48,48,xB (b.toNat / 16),xB (b.toNat % 16)]++t))=some b.toNat:=by
   unfold wQ
   rw [if_neg (by simp)]
   exact h2
  have h4:qHV (92::117::([48,48,xB (b.toNat / 16),xB (b.toNat % 16)]++t))=some (b.toNat,6):=by
   have h5:yJ (92::117::([48,48,xB (b.toNat / 16),xB (b.toNat % 16)]++t))=(b.toNat,6,true):=by
    unfold yJ
    simp only [show xS 117=none by decide,h3,qHU,Option.isSome_some,Option.getD_some]
    rw [if_pos (by right; omega)]
    simp; omega
   unfold qHV
   rw [h5]; rfl
  exact h4
 rename_i h1 h2 h3 h4
 have n34:b.toNat≠34:=fun e=>h0 (.inl (UInt8.toNat_inj.1 e))
 have n92:b.toNat≠92:=fun e=>h0 (.inr (UInt8.toNat_inj.1 e))
 have n32:¬ b.toNat<32:=fun e=>h4 (.inl (by rw [UInt8.lt_iff_toNat_lt]; exact e))
 show wU (f+1) (b::t) at' out=_
 simp only [wU]
 rw [if_neg (by simp),jV hb,if_neg (by simpa using n34),if_neg (by simp; omega),if_neg (by simpa using n92)]
 simp only
 rw [qFZ hb]
 simp
theorem zJQ (b : UInt8) : 1 ≤ (qb b).length := by
  unfold qb
  repeat' split
  all_goals simp
theorem qKI : ∀ (n : Nat) (s : List UInt8), s.length ≤ n → validD s = true → ∀ (f at' : Nat) (out rest : List UInt8), s.length < f → (out ++ s).length ≤ 4096 →
  wU f (wL s++34::rest) at' out=(out++s,at'+(wL s).length+1,0)
 | n,[],_,_,f,at',out,rest,hf,hl=>by
  obtain ⟨f,rfl⟩:∃ g,f=g+1:=⟨f-1,by omega⟩
  simp only [wL,List.flatMap_nil,List.nil_append,wU]
  rw [if_neg (by simp),jV (show (34:UInt8).toNat<128 by decide)]
  simp only [List.append_nil] at hl
  rw [if_pos (show ((34:UInt8).toNat,1).1=34 from rfl),if_neg (by omega)]
  simp
 | 0,b::s,h,_,_,_,_,_,_,_=>by simp at h
 | n+1,b::s,h,hv,f,at',out,rest,hf,hl=>by
  obtain ⟨f,rfl⟩:∃ g,f=g+1:=⟨f-1,by omega⟩
  by_cases hb:b.toNat<128
  ·rw [validD_cons b s hb] at hv
   have e:wL (b::s)=qb b++wL s:=rfl
   rw [e,List.append_assoc,zCI b hb,qKI n s (by simp at h; omega) hv f _ _ rest (by simp at hf; omega) (by simpa using hl)]
   simp; omega
  have hne:(b::s)≠[]:=by simp
  rw [validD_step _ hne] at hv
  split at hv
  ·cases hv
  rename_i hok
  obtain ⟨h1,h2⟩:=qIA (b::s) hne hok (by simpa using by omega)
  have hpos:=uW (b::s) hne
  have hle:=decodeL_le (b::s) hne
  have hmore:=qRF (b::s)
  have henc:=encode_decode (b::s) hne hok
  generalize hk:decodeL (b::s)=p at *
  obtain ⟨r,k⟩:=p
  simp only at *
  have hsplit:(b::s)=(b::s).take k++(b::s).drop k:=(List.take_append_drop k _).symm
  have hb2:wL (b::s)=(b::s).take k++wL ((b::s).drop k):=by
   conv=>lhs; rw [hsplit]
   rw [qBH,qOB h1]
  have htl:((b::s).take k).length=k:=by rw [List.length_take]; omega
  have hx:∀ u,decodeL ((b::s).take k++u)=(r,k):=fun u=>hmore u hne hok
  generalize hA:(b::s).take k=A at *
  generalize hD:(b::s).drop k=D at *
  have hlenAD:(b::s).length=A.length+D.length:=by rw [hsplit]; simp
  rw [hb2,List.append_assoc]
  simp only [wU,hx]
  rw [if_neg (by intro e; have:=congrArg List.length e; simp at this),if_neg (by omega),if_neg (by omega),if_neg (by omega),henc]
  rw [show (A++(wL D++34::rest)).drop k=wL D++34::rest by rw [← htl,List.drop_left]]
  rw [qKI n D (by omega) hv f _ _ rest (by omega) (by rw [List.append_assoc,← hsplit]; exact hl)]
  rw [hsplit]
  simp; omega
theorem qOA:∀ s:List UInt8,s.length≤(wL s).length
 | []=>Nat.le_refl _
 | b::s=>by
  have h1:=zJQ b
  have h2:=qOA s
  show s.length+1≤(qb b++wL s).length
  rw [List.length_append]; omega
theorem qPO (s rest:List UInt8) (hv:validD s=true) (hl:s.length≤4096):qU (zQ s++rest)=(s,(zQ s).length,0):=by
 unfold qU zQ
 simp only [List.cons_append,List.head?_cons,if_true,List.drop_succ_cons,List.drop_zero,List.append_assoc,List.singleton_append,List.nil_append]
 have hb:=qOA s
 rw [qKI s.length s (Nat.le_refl _) hv _ 1 [] rest (by simp; omega) (by simpa using hl)]
 simp; omega
@[simp] theorem zKQ (a s:List UInt8):qG (a++s)=qG a++s.map fun b => .int .u8 b.toNat:=by simp [qG]
theorem qNH (bs:List UInt8) (c:UInt8) (hb:bs.length≤100000000000):AX Tryz.prog G 73 [.ptr 2 0,.p (.int .u8 c.toNat)] [(2,.vars 111 [.p .nilp,.ms 3]),(3,.row 5 1 (qG bs))] (.dead) [2] [(2,.vars 111 [.ptr 2 0,.ms 3]),(3,.row 5 1 (qG (bs++[c])))]:=by
 refine AX.introU tok 900 Tryz.func73 (by kernel_rfl) rfl rfl ?_
 simp only [Tryz.f73,qO,List.map_cons,List.map_nil]
 refine rgn [] [[0,1]] ?_
 refine op1 tok ?_
 refine qA (rgn [] [[]] ?_)
 refine op1 tok ?_
 refine qK ?_
 refine qB.stepK [0,1] (zA rfl (qXF bs) (by simp)) (by conv=>lhs; simp) rfl ?_
 refine qB.nil ?_
 refine rgn [.int .u8 c.toNat] [[],[],[],[],[1,7,11],[],[],[7,14],[],[],[17]] ?_
 iterate 11 refine op1 tok ?_
 refine qA (rgn [] [[]] ?_)
 refine op1 tok ?_
 refine qA ?_
 exact AW.ret qV
theorem zBX (bs s:List UInt8) (hb:bs.length≤100000000000) (hs:s.length≤100000000000):AX Tryz.prog G 75 [.ptr 2 0,.p (.str s)] [(2,.vars 111 [.p .nilp,.ms 3]),(3,.row 5 1 (qG bs))] (.dead) [2] [(2,.vars 111 [.ptr 2 0,.ms 3]),(3,.row 5 1 (qG (bs++s)))]:=by
 refine AX.introU tok 900 Tryz.func75 (by kernel_rfl) rfl rfl ?_
 simp only [Tryz.f75,qO,List.map_cons,List.map_nil]
 refine rgn [] [[],[0,1]] ?_
 iterate 2 refine op1 tok ?_
 refine qA (rgn [] [[]] ?_)
 refine op1 tok ?_
 refine qK ?_
 refine qB.stepK [0,1] (zA rfl (qXF bs) (by simp)) (by conv=>lhs; simp) rfl ?_
 refine qB.nil ?_
 refine rgn [] [[],[],[],[],[1,8,12],[],[],[],[1,14,16],[1]] ?_
 iterate 10 refine op1 tok ?_
 refine qA (rgn [] [[],[],[],[4,5]] ?_)
 iterate 4 refine op1 tok ?_
 refine qA ?_
 exact AW.ret qV
theorem xR (bs:List UInt8) (c:UInt8) (hb:bs.length≤100000000000):AX Tryz.prog G 73 [.ptr 2 0,.p (.int .u8 c.toNat)] [(2,.vars 111 [.ptr 2 0,.ms 3]),(3,.row 5 1 (qG bs))] (.dead) [2] [(2,.vars 111 [.ptr 2 0,.ms 3]),(3,.row 5 1 (qG (bs++[c])))]:=by
 refine AX.introU tok 900 Tryz.func73 (by kernel_rfl) rfl rfl ?_
 simp only [Tryz.f73,qO,List.map_cons,List.map_nil]
 refine rgn [] [[0,1]] ?_
 refine op1 tok ?_
 refine qA (rgn [] [[]] ?_)
 refine op1 tok ?_
 refine qK ?_
 refine qB.stepK [0,1] (zA rfl (zFB bs) (by simp)) (by conv=>lhs; simp) rfl ?_
 refine qB.nil ?_
 refine rgn [.int .u8 c.toNat] [[],[],[],[],[1,7,11],[],[],[7,14],[],[],[17]] ?_
 iterate 11 refine op1 tok ?_
 refine qA (rgn [] [[]] ?_)
 refine op1 tok ?_
 refine qA ?_
 exact AW.ret qV
theorem xP (bs s:List UInt8) (hb:bs.length≤100000000000) (hs:s.length≤100000000000):AX Tryz.prog G 75 [.ptr 2 0,.p (.str s)] [(2,.vars 111 [.ptr 2 0,.ms 3]),(3,.row 5 1 (qG bs))] (.dead) [2] [(2,.vars 111 [.ptr 2 0,.ms 3]),(3,.row 5 1 (qG (bs++s)))]:=by
 refine AX.introU tok 900 Tryz.func75 (by kernel_rfl) rfl rfl ?_
 simp only [Tryz.f75,qO,List.map_cons,List.map_nil]
 refine rgn [] [[],[0,1]] ?_
 iterate 2 refine op1 tok ?_
 refine qA (rgn [] [[]] ?_)
 refine op1 tok ?_
 refine qK ?_
 refine qB.stepK [0,1] (zA rfl (zFB bs) (by simp)) (by conv=>lhs; simp) rfl ?_
 refine qB.nil ?_
 refine rgn [] [[],[],[],[],[1,8,12],[],[],[],[1,14,16],[1]] ?_
 iterate 10 refine op1 tok ?_
 refine qA (rgn [] [[],[],[],[4,5]] ?_)
 iterate 4 refine op1 tok ?_
 refine qA ?_
 exact AW.ret qV
@[simp] theorem zKP:qG []=[]:=rfl
theorem zBH (r:Int) (l:List Int) (h:Lib.encodeRuneZ r=l):qG (Lib.encodeRune r)=l.map (PD.int .u8):=by
 subst h
 simp only [qG,Lib.encodeRune,List.map_map]
 apply List.map_congr_left
 intro x hx
 obtain ⟨h0,h1⟩:=Lib.encodeRuneZ_byte r x hx
 simp [Function.comp]
 omega
theorem qQW {k:Nat} {n:Int} (h:0≤n∧n<k):∃ x:Fin k,n=x.val:=⟨⟨n.toNat,by omega⟩,by simp; omega⟩
theorem zIU (n:Int) (h:0≤n):IntKind.u8.wrap n=n % 256:=by simp [IntKind.wrap,IntKind.bits,IntKind.signed]
theorem zHR (n:Int) (h:0≤n∧n<32):IntKind.u8.wrap ↑(192 % 2 ^ IntKind.u8.bits ||| (IntKind.u8.wrap n % 2 ^ IntKind.u8.bits).toNat)=192+n:=by
 obtain ⟨x,rfl⟩:=qQW h; revert x; decide +kernel
theorem qYW (n:Int) (h:0≤n∧n<16):IntKind.u8.wrap ↑(224 % 2 ^ IntKind.u8.bits ||| (IntKind.u8.wrap n % 2 ^ IntKind.u8.bits).toNat)=224+n:=by
 obtain ⟨x,rfl⟩:=qQW h; revert x; decide +kernel
theorem qYV (n:Int) (h:0≤n∧n<8):IntKind.u8.wrap ↑(240 % 2 ^ IntKind.u8.bits ||| (IntKind.u8.wrap n % 2 ^ IntKind.u8.bits).toNat)=240+n:=by
 obtain ⟨x,rfl⟩:=qQW h; revert x; decide +kernel
theorem zIC:∀ x:Fin 256,IntKind.u8.wrap ↑(128 % 2 ^ IntKind.u8.bits ||| (IntKind.u8.wrap ↑((((x.val:Nat):Int) % 2 ^ IntKind.u8.bits).toNat &&& 63 % 2 ^ IntKind.u8.bits) % 2 ^ IntKind.u8.bits).toNat)=128+((x.val:Nat):Int) % 64:=by decide +kernel
theorem qCX (n:Int) (h:0≤n):IntKind.u8.wrap ↑(128 % 2 ^ IntKind.u8.bits ||| (IntKind.u8.wrap ↑((IntKind.u8.wrap n % 2 ^ IntKind.u8.bits).toNat &&& 63 % 2 ^ IntKind.u8.bits) % 2 ^ IntKind.u8.bits).toNat)=128+n % 64:=by
 rw [zIU n h]
 obtain ⟨x,hx⟩:=qQW (k:=256) (n:=n % 256) (by omega)
 rw [hx,zIC x,← hx]
 omega
theorem zCR (r:Int):r.fdiv (2 ^ min 6 IntKind.i32.bits)=r / 64:=Int.fdiv_eq_ediv_of_nonneg _ (by decide)
theorem qSO (r:Int):r.fdiv (2 ^ min 12 IntKind.i32.bits)=r / 4096:=Int.fdiv_eq_ediv_of_nonneg _ (by decide)
theorem qSN (r:Int):r.fdiv (2 ^ min 18 IntKind.i32.bits)=r / 262144:=Int.fdiv_eq_ediv_of_nonneg _ (by decide)
theorem qRN (bs:List UInt8) (r:Int) (hb:bs.length≤100000000000) (h0:128≤r) (h1:r≤1114111) (h2:r<55296∨57343<r):AX Tryz.prog G 141 [.ms 3,.p (.int .i32 r)] [(3,.row 5 1 (qG bs))] (.ms 3) [] [(3,.row 5 1 (qG bs++qG (Lib.encodeRune r)))]:=by
 refine AX.introU tok 900 Tryz.func141 (by kernel_rfl) rfl rfl ?_
 simp only [Tryz.f141,qO,List.map_cons,List.map_nil]
 have hw:IntKind.u32.wrap r=r:=by simp [IntKind.wrap,IntKind.bits,IntKind.signed]; omega
 refine rgn [] [[0,1]] ?_
 refine op1 tok ?_
 refine qA (rgn [] [[],[],[0,1,5]] ?_)
 iterate 3 refine op1 tok ?_
 refine qA (AW.block (rgn [] [[],[],[0,1,5,11]] ?_))
 iterate 3 refine op1 tok ?_
 refine qA (cnd ?_ ?_)
 ·intro h11
  try simp at h11
  rw [zBH r _ (Lib.encodeRuneZ_two (by omega) (by omega))]
  refine rgn [.int .u8 (192+r / 64),.int .u8 (128+r % 64)] [[],[],[],[],[1,14,18],[],[],[],[14,18,22],[],[24],[4]] ?_
  iterate 12 refine op1 tok ?_ (hv:=by first | with_reducible exact True.intro | (simp only [zCR,qSO,qSN]; exact ⟨zHR _ (by omega),qCX _ (by omega)⟩; done) | omega | simp | (simp +contextual; omega))
  refine qA ?_
  exact AW.ret qV
 intro h11
 try simp at h11
 refine AW.seq (rgn [] [[],[],[0,1,5,25]] ?_)
 iterate 3 refine op1 tok ?_
 refine qA (cnd ?_ ?_)
 ·intro h25
  try simp at h25
  refine AW.skip (cnd ?_ ?_)
  ·intro h25
   try simp at h25
   rw [zBH r _ (Lib.encodeRuneZ_three (by omega))]
   refine rgn [.int .u8 (224+r / 4096),.int .u8 (128+r / 64 % 64),.int .u8 (128+r % 64)] [[],[],[],[],[1,34,38],[],[],[],[],[1,34,38,43],[],[],[],[34,38,43,47],[],[49],[4]] ?_
   iterate 17 refine op1 tok ?_ (hv:=by first | with_reducible exact True.intro | (simp only [zCR,qSO,qSN]; exact ⟨qYW _ (by omega),qCX _ (by omega),qCX _ (by omega)⟩; done) | omega | simp | (simp +contextual; omega))
   refine qA ?_
   exact AW.ret qV
  intro h25
  try simp at h25
  refine rgn [] [[],[],[],[],[0,1,53,55],[],[0,1,50]] ?_
  iterate 3 refine op1 tok ?_
  iterate 2 refine op2 tok ?_
  iterate 2 refine op1 tok ?_
  refine qA (cnd ?_ ?_)
  ·intro h50
   try simp at h50
   rw [zBH r _ (Lib.encodeRuneZ_four (by omega) (by omega))]
   refine rgn [.int .u8 (240+r / 262144),.int .u8 (128+r / 4096 % 64),.int .u8 (128+r / 64 % 64),.int .u8 (128+r % 64)] [[],[],[],[],[1,57,61],[],[],[],[],[1,57,61,66],[],[],[],[],[1,57,61,66,71],[],[],[],[57,61,66,71,75],[57,76],[],[4]] ?_
   iterate 22 refine op1 tok ?_ (hv:=by first | with_reducible exact True.intro | (simp only [zCR,qSO,qSN]; exact ⟨qYV _ (by omega),qCX _ (by omega),qCX _ (by omega),qCX _ (by omega)⟩; done) | omega | simp | (simp +contextual; omega))
   refine qA ?_
   exact AW.ret qV
  intro h50
  try simp at h50
  omega
 intro h25
 try simp at h25
 refine rgz [] [[],[],[],[],[],[0,1,5,33],[0,1,5,25]] ?_
 iterate 3 refine op1 tok ?_
 iterate 2 refine op2 tok ?_
 iterate 2 refine op1 tok ?_
 refine qA (cnd ?_ ?_)
 ·intro h25
  try simp at h25
  rw [zBH r _ (Lib.encodeRuneZ_three (by omega))]
  refine rgn [.int .u8 (224+r / 4096),.int .u8 (128+r / 64 % 64),.int .u8 (128+r % 64)] [[],[],[],[],[1,34,38],[],[],[],[],[1,34,38,43],[],[],[],[34,38,43,47],[],[49],[4]] ?_
  iterate 17 refine op1 tok ?_ (hv:=by first | with_reducible exact True.intro | (simp only [zCR,qSO,qSN]; exact ⟨qYW _ (by omega),qCX _ (by omega),qCX _ (by omega)⟩; done) | omega | simp | (simp +contextual; omega))
  refine qA ?_
  exact AW.ret qV
 intro h25
 try simp at h25
 refine rgn [] [[],[],[],[],[0,1,53,55],[],[0,1,50]] ?_
 iterate 3 refine op1 tok ?_
 iterate 2 refine op2 tok ?_
 iterate 2 refine op1 tok ?_
 refine qA (cnd ?_ ?_)
 ·intro h50
  try simp at h50
  rw [zBH r _ (Lib.encodeRuneZ_four (by omega) (by omega))]
  refine rgn [.int .u8 (240+r / 262144),.int .u8 (128+r / 4096 % 64),.int .u8 (128+r / 64 % 64),.int .u8 (128+r % 64)] [[],[],[],[],[1,57,61],[],[],[],[],[1,57,61,66],[],[],[],[],[1,57,61,66,71],[],[],[],[57,61,66,71,75],[57,76],[],[4]] ?_
  iterate 22 refine op1 tok ?_ (hv:=by first | with_reducible exact True.intro | (simp only [zCR,qSO,qSN]; exact ⟨qYV _ (by omega),qCX _ (by omega),qCX _ (by omega),qCX _ (by omega)⟩; done) | omega | simp | (simp +contextual; omega))
  refine qA ?_
  exact AW.ret qV
 intro h50
 try simp at h50
 omega
theorem qEI (bs:List UInt8) (r:Int) (hb:bs.length≤100000000000) (h0:0≤r) (h1:r≤1114111) (h2:r<55296∨57343<r):AX Tryz.prog G 108 [.ms 3,.p (.int .i32 r)] [(3,.row 5 1 (qG bs))] (.ms 3) [] [(3,.row 5 1 (qG bs++qG (Lib.encodeRune r)))]:=by
 refine AX.introU tok 900 Tryz.func108 (by kernel_rfl) rfl rfl ?_
 simp only [Tryz.f108,qO,List.map_cons,List.map_nil]
 have hw:IntKind.u32.wrap r=r:=by simp [IntKind.wrap,IntKind.bits,IntKind.signed]; omega
 have hw8:=zIU r h0
 refine rgn [] [[0,1]] ?_
 refine op1 tok ?_
 refine qA (AW.seq (rgn [] [[],[],[0,1,7]] ?_))
 iterate 3 refine op1 tok ?_
 refine qA (cnd ?_ ?_)
 ·intro h7
  try simp at h7
  rw [zBH r _ (Lib.encodeRuneZ_one (by omega) (by omega))]
  refine rgn [.int .u8 r] [[],[],[],[8,11],[],[4]] ?_
  iterate 6 refine op1 tok ?_ (hv:=by first | with_reducible exact True.intro | ((rw [hw8]; omega); done) | omega | simp | (simp +contextual; omega))
  refine qA ?_
  exact AW.ret qV
 intro h7
 try simp at h7
 refine AW.skip (rgn [] [[],[]] ?_)
 iterate 2 refine op1 tok ?_
 refine qK ?_
 refine qB.stepK [15] (zA rfl (qRN bs r hb (by omega) h1 h2) (by simp)) (by conv=>lhs; simp) rfl ?_
 refine qB.run [[4]] ?_
 refine op1 tok ?_
 refine qA ?_
 exact AW.ret qV
theorem qEG (bs:List UInt8) (r:Int) (hb:bs.length≤100000000000) (h0:0≤r) (h1:r≤1114111) (h2:r<55296∨57343<r):AX Tryz.prog G 74 [.ptr 2 0,.p (.int .i32 r)] [(2,.vars 111 [.p .nilp,.ms 3]),(3,.row 5 1 (qG bs))] (.dead) [2] [(2,.vars 111 [.ptr 2 0,.ms 3]),(3,.row 5 1 (qG bs++qG (Lib.encodeRune r)))]:=by
 refine AX.introU tok 900 Tryz.func74 (by kernel_rfl) rfl rfl ?_
 simp only [Tryz.f74,qO,List.map_cons,List.map_nil]
 have hel:(Lib.encodeRune r).length≤4:=by simp only [Lib.encodeRune,List.length_map]; exact (Lib.encodeRuneZ_length r).2
 refine rgn [] [[],[0,1]] ?_
 iterate 2 refine op1 tok ?_
 refine qA (rgn [] [[]] ?_)
 refine op1 tok ?_
 refine qK ?_
 refine qB.stepK [0,1] (zA rfl (qXF bs) (by simp)) (by conv=>lhs; simp) rfl ?_
 refine qB.nil ?_
 refine rgn [] [[],[],[],[],[0,1,13],[0,1,6]] ?_
 iterate 6 refine op1 tok ?_
 refine qA (rgn [] [[],[],[],[],[],[0,6,14,18,19]] ?_)
 iterate 6 refine op1 tok ?_
 refine qK ?_
 refine qB.stepK [0,6,14,20] (zA rfl (qEI bs r hb h0 h1 h2) (by simp)) (by conv=>lhs; simp) rfl ?_
 refine qB.run [[],[],[0,6]] ?_
 iterate 3 refine op1 tok ?_
 refine qA (rgn [] [[],[],[],[6,26],[],[],[29],[],[4,5]] ?_)
 iterate 9 refine op1 tok ?_
 refine qA ?_
 exact AW.ret qV
theorem xQ (bs:List UInt8) (r:Int) (hb:bs.length≤100000000000) (h0:0≤r) (h1:r≤1114111) (h2:r<55296∨57343<r):AX Tryz.prog G 74 [.ptr 2 0,.p (.int .i32 r)] [(2,.vars 111 [.ptr 2 0,.ms 3]),(3,.row 5 1 (qG bs))] (.dead) [2] [(2,.vars 111 [.ptr 2 0,.ms 3]),(3,.row 5 1 (qG bs++qG (Lib.encodeRune r)))]:=by
 refine AX.introU tok 900 Tryz.func74 (by kernel_rfl) rfl rfl ?_
 simp only [Tryz.f74,qO,List.map_cons,List.map_nil]
 have hel:(Lib.encodeRune r).length≤4:=by simp only [Lib.encodeRune,List.length_map]; exact (Lib.encodeRuneZ_length r).2
 refine rgn [] [[],[0,1]] ?_
 iterate 2 refine op1 tok ?_
 refine qA (rgn [] [[]] ?_)
 refine op1 tok ?_
 refine qK ?_
 refine qB.stepK [0,1] (zA rfl (zFB bs) (by simp)) (by conv=>lhs; simp) rfl ?_
 refine qB.nil ?_
 refine rgn [] [[],[],[],[],[0,1,13],[0,1,6]] ?_
 iterate 6 refine op1 tok ?_
 refine qA (rgn [] [[],[],[],[],[],[0,6,14,18,19]] ?_)
 iterate 6 refine op1 tok ?_
 refine qK ?_
 refine qB.stepK [0,6,14,20] (zA rfl (qEI bs r hb h0 h1 h2) (by simp)) (by conv=>lhs; simp) rfl ?_
 refine qB.run [[],[],[0,6]] ?_
 iterate 3 refine op1 tok ?_
 refine qA (rgn [] [[],[],[],[6,26],[],[],[29],[],[4,5]] ?_)
 iterate 9 refine op1 tok ?_
 refine qA ?_
 exact AW.ret qV
theorem zFW (bs:List UInt8):AX Tryz.prog G 106 [.ptr 2 0] [(2,.vars 111 [.p .nilp,.ms 3]),(3,.row 5 1 (qG bs))] (.p (.int .i64 bs.length)) [2,3] [(2,.vars 111 [.p .nilp,.ms 3]),(3,.row 5 1 (qG bs))]:=by
 refine AX.introU tok 900 Tryz.func106 (by kernel_rfl) rfl rfl ?_
 simp only [Tryz.f106,qO,List.map_cons,List.map_nil]
 refine rgn [] [[0]] ?_
 refine op1 tok ?_
 refine qA (rgn [] [[],[],[],[6],[],[2]] ?_)
 iterate 6 refine op1 tok ?_
 refine qA ?_
 exact AW.ret qV
theorem zIR (bs:List UInt8):AX Tryz.prog G 106 [.ptr 2 0] [(2,.vars 111 [.ptr 2 0,.ms 3]),(3,.row 5 1 (qG bs))] (.p (.int .i64 bs.length)) [2,3] [(2,.vars 111 [.ptr 2 0,.ms 3]),(3,.row 5 1 (qG bs))]:=by
 refine AX.introU tok 900 Tryz.func106 (by kernel_rfl) rfl rfl ?_
 simp only [Tryz.f106,qO,List.map_cons,List.map_nil]
 refine rgn [] [[0]] ?_
 refine op1 tok ?_
 refine qA (rgn [] [[],[],[],[6],[],[2]] ?_)
 iterate 6 refine op1 tok ?_
 refine qA ?_
 exact AW.ret qV
theorem uX (l:List UInt8):(Lib.decodeL l).1≤1114111:=qGO _ _
theorem qEH (hG:U8 G) (s:List UInt8) (hs:s≠[]):AFn Tryz.prog G 87 [.str s] (.tup [.int .i32 (Lib.decodeL s).1,.int .i64 (Lib.decodeL s).2]):=by
 refine AFn.of_calls (jB Tryz.func87 (by kernel_rfl) rfl) fun M w vs hg hmem hsz hrd => ?_
 obtain ⟨b,rfl,rfl,hm⟩:=qRM hsz hrd
 refine (Any.utf8_DecodeRuneInString Tryz.lays197 b w (qXZ hG hg hmem)).mono ?_
 rintro e w' ⟨rfl,hb⟩
 have h0:b.size≠0:=fun h=>hs (List.eq_nil_of_length_eq_zero (by simpa using h))
 have e:Lib.decodeGo b=Lib.decodeL b.data.toList:=by
  unfold Lib.decodeGo Lib.decodeL
  rw [if_neg h0]
 rw [e]
 have h1:=uX b.data.toList
 have h2:=Lib.decodeL_le b.data.toList hs
 have h3:b.data.toList.length≤maxLen:=by simpa using hm
 refine ⟨_,rfl,.tup rfl fun i u d hu hd => ?_,hb⟩
 match i,hu,hd with
 | 0,hu,hd=>simp at hu hd; subst hu; subst hd; exact .int (by rw [jD]; simp only [kH]; omega) (by rw [kQ]; simp only [kI]; omega)
 | 1,hu,hd=>simp at hu hd; subst hu; subst hd; exact .int (by rw [jD]; simp only [kH]; omega) (by rw [kQ]; simp only [kI]; unfold maxLen at h3; omega)
 | i+2,hu,hd=>simp at hu
theorem zBI (s:List UInt8) (pos:Nat):vX s pos=Lib.decodeL (s.drop pos):=by
 unfold vX Lib.decodeL
 rw [Lib.decode_at,Lib.decode_at]
 have g:∀ k,(⟨s.toArray⟩:ByteArray).get! (pos+k)=(⟨(s.drop pos).toArray⟩:ByteArray).get! (0+k):=by
  intro k
  show s.toArray[pos+k]! = (s.drop pos).toArray[0+k]!
  simp
 have g0:=g 0
 have g1:=g 1
 have g2:=g 2
 have g3:=g 3
 simp only [Nat.add_zero,Nat.zero_add] at g0 g1 g2 g3
 have hsz:(⟨s.toArray⟩:ByteArray).size-pos=(⟨(s.drop pos).toArray⟩:ByteArray).size-0:=by simp [ByteArray.size]
 rw [hsz,g0,g1,g2,g3]
def qC (r:Nat):List UInt8 :=
 if r=34∨r=92 then 92::Lib.encodeRune r else if r=10 then [92,110] else if r=13 then [92,114] else if r=9 then [92,116]
 else if 32≤r∧r≠127 then Lib.encodeRune r else [92,117,48,48,xB (r / 16),xB (r % 16)]
theorem qFF (l:List UInt8):(Lib.decodeL l).1<55296∨57343<(Lib.decodeL l).1:=by
 rw [vJ l]
 unfold Lib.decodeN
 have:=(l.getD 0 0).toNat_lt
 repeat' split
 all_goals simp only
 all_goals omega
theorem zNT (b:UInt8) (h:b.toNat<128):qC b.toNat=qb b:=by
 have henc:=qFZ h
 have key:∀ k:Fin 128,(k.val=34∨k.val=92)=(UInt8.ofNat k.val=34∨UInt8.ofNat k.val=92)∧(k.val=10)=(UInt8.ofNat k.val=10)∧(k.val=13)=(UInt8.ofNat k.val=13)∧(k.val=9)=(UInt8.ofNat k.val=9)∧(¬ (32≤k.val∧k.val≠127))=(UInt8.ofNat k.val<32∨UInt8.ofNat k.val=127):=by decide +kernel
 have k:=key ⟨b.toNat,h⟩
 simp only [UInt8.ofNat_toNat] at k
 obtain ⟨k1,k2,k3,k4,k5⟩:=k
 unfold qC qb
 rw [henc]
 simp only [k1,k2,k3,k4,← k5]
 split
 ·rfl
 split
 ·rfl
 split
 ·rfl
 split
 ·rfl
 split
 ·rfl
 rfl
theorem zJS (r:Nat) (h:128≤r):qC r=Lib.encodeRune r:=by
 unfold qC
 rw [if_neg (by omega),if_neg (by omega),if_neg (by omega),if_neg (by omega),if_pos (by omega)]
theorem qWA {l:List UInt8} (hne:l≠[]) (hv:Lib.validD l=true):wL l=qC (Lib.decodeL l).1++wL (l.drop (Lib.decodeL l).2)∧Lib.validD (l.drop (Lib.decodeL l).2)=true:=by
 obtain ⟨b,t,rfl⟩:∃ b t,l=b::t:=by cases l with
  | nil=>exact absurd rfl hne
  | cons b t=>exact ⟨b,t,rfl⟩
 by_cases hb:b.toNat<128
 ·rw [jV hb,zNT b hb]
  rw [Lib.validD_cons b t hb] at hv
  exact ⟨rfl,hv⟩
 rw [Lib.validD_step _ hne] at hv
 split at hv
 ·cases hv
 rename_i hok
 obtain ⟨h1,h2⟩:=qIA (b::t) hne hok (by simpa using by omega)
 have henc:=Lib.encode_decode (b::t) hne hok
 refine ⟨?_,hv⟩
 rw [zJS _ h2,henc]
 conv=>lhs; rw [← List.take_append_drop (Lib.decodeL (b::t)).2 (b::t)]
 rw [qBH,qOB h1]
theorem zJR (r:Nat):(qC r).length≤6:=by
 have:=(Lib.encodeRuneZ_length r).2
 unfold qC
 have h:(Lib.encodeRune r).length≤4:=by simpa only [Lib.encodeRune,List.length_map] using this
 repeat' split
 all_goals simp <;> omega
theorem zOB:∀ k:Fin 16,([48,49,50,51,52,53,54,55,56,57,97,98,99,100,101,102]:List UInt8)[k.val]?=some (xB k.val):=by decide +kernel
theorem zOI:∀ k:Fin 128,IntKind.i32.wrap ↑(k.val % 2 ^ IntKind.i32.bits &&& 15 % 2 ^ IntKind.i32.bits)=((k.val % 16:Nat):Int):=by decide +kernel
theorem zPU (r:Nat):(r:Int).fdiv (2 ^ min 4 IntKind.i32.bits)=((r / 16:Nat):Int):=(Int.fdiv_eq_ediv_of_nonneg _ (by decide)).trans (by show (r:Int) / 16=_; omega)
theorem qVG (s:List UInt8) (hv:Lib.validD s=true) (hs:s.length≤1000000000):AFn Tryz.prog G 41 [.str s] (.str (zQ s)):=by
 refine AFn.introU tok Tryz.func41 (by kernel_rfl) rfl rfl ?_
 simp only [Tryz.f41,qO,List.map_cons,List.map_nil]
 refine rgn [] [[0]] ?_
 refine op1 tok ?_
 refine qA (rgn [] [[]] ?_)
 refine op1 tok ?_
 refine qA ?_
 refine AW.renE 3 2 (by simp) (by conv=>lhs; simp) ?_
 refine AW.beginBox 2 3 1 5 1 (by simp; exact ⟨rfl,rfl⟩) (by simp) (by simp) (by conv=>lhs; simp) ?_
 refine AW.seqRegionO [] ?_
 refine qB.stepK [0,3] (zA rfl (qNH [] 34 (by simp)) (by simp)) (by conv=>lhs; simp) rfl ?_
 refine qB.nil ?_
 refine AW.seq (rgn [] [[],[3,8]] ?_)
 iterate 2 refine op1 tok ?_
 refine qA (AW.block ?_)
 refine AW.loop (α:=Nat × List UInt8) (fun a=>a.1≤s.length∧Lib.validD (s.drop a.1)=true∧zQ s=a.2++(wL (s.drop a.1)++[34])∧a.2.length≤6 * a.1+1) (fun a=>⟨zI 47 [(3,.ptr 2 0),(8,.it 8)],[],[(2,.vars 111 [.ptr 2 0,.ms 3]),(3,.row 5 1 (qG a.2)),(8,.iter s a.1)],0⟩) (fun a=>s.length-a.1) ((0,[34])) ⟨by simp,by simpa using hv,by simp [zQ],by simp⟩ ⟨qE (by simp),rfl,by simp,by simp⟩ ?_
 rintro ⟨pos,out⟩ ⟨hp,hvp,hq,hol⟩
 simp only at hp hvp hq hol
 by_cases hs4:pos<s.length
 ·
  refine rgn [.bool true] [[],[]] ?_
  iterate 2 refine oq1 tok hs4 ?_
  refine qA (AW.seq (cnd ?_ ?_))
  ·intro h10
   try simp at h10
   have hne:s.drop pos≠[]:=by intro e; have:=congrArg List.length e; simp at this; omega
   obtain ⟨hst,hvn⟩:=qWA hne hvp
   have hok:=qFF (s.drop pos)
   have hmx:=uX (s.drop pos)
   have hwl:=Lib.decodeL_le (s.drop pos) hne
   rw [← zBI] at hst hvn hok hmx hwl
   rw [List.length_drop] at hwl
   rw [List.drop_drop] at hst hvn
   have hdp:=qGP hs4
   generalize vX s pos=p at *
   obtain ⟨r,w⟩:=p
   simp only at *
   have hlen:=zJR r
   have hnext:zQ s=out++qC r++(wL (s.drop (pos+w))++[34]):=by rw [hq,hst]; simp
   refine AW.skip (AW.block (rgn [] [[],[3,5,8]] ?_))
   iterate 2 refine op1 tok ?_
   refine qA (rgn [] [[]] ?_)
   refine op1 tok ?_
   refine qA (AW.block (AW.seq (rgn [] [[],[3,5,8,12,30]] ?_)))
   iterate 2 refine op1 tok ?_
   refine qA (cnd ?_ ?_)
   ·intro h30
    try simp at h30
    refine AW.skip (cnd ?_ ?_)
    ·intro h30
     try simp at h30
     refine AW.seqRegionO [] ?_
     refine qB.stepK [3,5,8] (zA rfl (xR out 92 (by omega)) (by simp)) (by conv=>lhs; simp) rfl ?_
     refine qB.nil ?_
     have hqc:qC r=92::Lib.encodeRune r:=by unfold qC; rw [if_pos (by omega)]
     refine rgz [] [[]] ?_
     refine op1 tok ?_
     refine qK ?_
     refine qB.stepK [3,8] (zA rfl (xQ (out++[92]) r (by simp; omega) (by omega) (by omega) (by omega)) (by simp)) (by conv=>lhs; simp) rfl ?_
     refine qB.nil ?_
     exact ⟨(pos+w,out++qC r),⟨by simp only []; omega,hvn,hnext,by simp; omega⟩,by simp only []; omega,qE (by simp [hqc,qG]),rfl,by simp [hqc,qG],by simp [hqc,qG]⟩
    intro h30
    try simp at h30
    omega
   intro h30
   try simp at h30
   refine rgz [] [[],[3,5,8,12,30]] ?_
   iterate 2 refine op1 tok ?_
   refine qA (cnd ?_ ?_)
   ·intro h30
    try simp at h30
    refine AW.seqRegionO [] ?_
    refine qB.stepK [3,5,8] (zA rfl (xR out 92 (by omega)) (by simp)) (by conv=>lhs; simp) rfl ?_
    refine qB.nil ?_
    have hqc:qC r=92::Lib.encodeRune r:=by unfold qC; rw [if_pos (by omega)]
    refine rgz [] [[]] ?_
    refine op1 tok ?_
    refine qK ?_
    refine qB.stepK [3,8] (zA rfl (xQ (out++[92]) r (by simp; omega) (by omega) (by omega) (by omega)) (by simp)) (by conv=>lhs; simp) rfl ?_
    refine qB.nil ?_
    exact ⟨(pos+w,out++qC r),⟨by simp only []; omega,hvn,hnext,by simp; omega⟩,by simp only []; omega,qE (by simp [hqc,qG]),rfl,by simp [hqc,qG],by simp [hqc,qG]⟩
   intro h30
   try simp at h30
   refine rgn [] [[],[3,5,8,12,36]] ?_
   iterate 2 refine op1 tok ?_
   refine qA (cnd ?_ ?_)
   ·intro h36
    try simp at h36
    have hqc:qC r=[92,110]:=by unfold qC; rw [if_neg (by omega),if_pos (by omega)]
    refine AW.regionO [] ?_
    refine qB.stepK [3,8] (zA rfl (xP out [92,110] (by omega) (by simp)) (by simp)) (by conv=>lhs; simp) rfl ?_
    refine qB.nil ?_
    exact ⟨(pos+w,out++qC r),⟨by simp only []; omega,hvn,hnext,by simp; omega⟩,by simp only []; omega,qE (by simp [hqc,qG]),rfl,by simp [hqc,qG],by simp [hqc,qG]⟩
   intro h36
   try simp at h36
   refine rgn [] [[],[3,5,8,12,39]] ?_
   iterate 2 refine op1 tok ?_
   refine qA (cnd ?_ ?_)
   ·intro h39
    try simp at h39
    have hqc:qC r=[92,114]:=by unfold qC; rw [if_neg (by omega),if_neg (by omega),if_pos (by omega)]
    refine AW.regionO [] ?_
    refine qB.stepK [3,8] (zA rfl (xP out [92,114] (by omega) (by simp)) (by simp)) (by conv=>lhs; simp) rfl ?_
    refine qB.nil ?_
    exact ⟨(pos+w,out++qC r),⟨by simp only []; omega,hvn,hnext,by simp; omega⟩,by simp only []; omega,qE (by simp [hqc,qG]),rfl,by simp [hqc,qG],by simp [hqc,qG]⟩
   intro h39
   try simp at h39
   refine rgn [] [[],[3,5,8,42]] ?_
   iterate 2 refine op1 tok ?_
   refine qA (cnd ?_ ?_)
   ·intro h42
    try simp at h42
    have hqc:qC r=[92,116]:=by unfold qC; rw [if_neg (by omega),if_neg (by omega),if_neg (by omega),if_pos (by omega)]
    refine AW.regionO [] ?_
    refine qB.stepK [3,8] (zA rfl (xP out [92,116] (by omega) (by simp)) (by simp)) (by conv=>lhs; simp) rfl ?_
    refine qB.nil ?_
    exact ⟨(pos+w,out++qC r),⟨by simp only []; omega,hvn,hnext,by simp; omega⟩,by simp only []; omega,qE (by simp [hqc,qG]),rfl,by simp [hqc,qG],by simp [hqc,qG]⟩
   intro h42
   try simp at h42
   refine AW.seq (rgn [] [[],[],[],[],[],[3,5,8,18]] ?_)
   iterate 3 refine op1 tok ?_
   iterate 2 refine op2 tok ?_
   refine op1 tok ?_
   refine qA (cnd ?_ ?_)
   ·intro h18
    try simp at h18
    have hqc:qC r=Lib.encodeRune r:=by unfold qC; rw [if_neg (by omega),if_neg (by omega),if_neg (by omega),if_neg (by omega),if_pos (by omega)]
    refine rgn [] [[]] ?_
    refine op1 tok ?_
    refine qK ?_
    refine qB.stepK [3,8] (zA rfl (xQ out r (by omega) (by omega) (by omega) (by omega)) (by simp)) (by conv=>lhs; simp) rfl ?_
    refine qB.nil ?_
    refine AW.exit ?_
    simp
    exact ⟨pos+w,out++qC r,⟨by omega,hvn,by simpa using hnext,by simp; omega⟩,by omega,qE (by simp [hqc,qG]),rfl,by simp [hqc,qG],by simp [hqc,qG]⟩
   intro h18
   try simp at h18
   refine AW.skip ?_
   have hqc:qC r=[92,117,48,48,xB (r / 16),xB (r % 16)]:=by unfold qC; rw [if_neg (by omega),if_neg (by omega),if_neg (by omega),if_neg (by omega),if_neg (by omega)]
   refine AW.seqRegionO [] ?_
   refine qB.stepK [3,5,8] (zA rfl (xP out [92,117,48,48] (by omega) (by simp)) (by simp)) (by conv=>lhs; simp) rfl ?_
   refine qB.nil ?_
   refine rgn [.int .u8 (xB (r / 16)).toNat] [[],[],[]] ?_
   iterate 3 refine op1 tok ?_ (hv:=by first | with_reducible exact True.intro | (rw [zPU]; exact ⟨by omega,_,zOB ⟨r / 16,by omega⟩,rfl⟩; done) | omega | simp | (simp +contextual; omega))
   refine qK ?_
   refine qB.stepK [3,5,8] (zA rfl (xR (out++[92,117,48,48]) (xB (r / 16)) (by simp; omega)) (by simp)) (by conv=>lhs; simp) rfl ?_
   refine qB.nil ?_
   refine rgz [.int .u8 (xB (r % 16)).toNat] [[],[],[]] ?_
   iterate 3 refine op1 tok ?_ (hv:=by first | with_reducible exact True.intro | (rw [zOI ⟨r,by omega⟩]; exact ⟨by omega,_,zOB ⟨r % 16,by omega⟩,rfl⟩; done) | omega | simp | (simp +contextual; omega))
   refine qK ?_
   refine qB.stepK [3,8] (zA rfl (xR (out++[92,117,48,48,xB (r / 16)]) (xB (r % 16)) (by simp; omega)) (by simp)) (by conv=>lhs; simp) rfl ?_
   refine qB.nil ?_
   exact ⟨(pos+w,out++qC r),⟨by simp only []; omega,hvn,hnext,by simp; omega⟩,by simp only []; omega,qE (by simp [hqc,qG]),rfl,by simp [hqc,qG],by simp [hqc,qG]⟩
  intro h10
  try simp at h10
 ·
  refine rgn [.bool false] [[],[]] ?_
  iterate 2 refine oq1 tok hs4 ?_
  refine qA (AW.seq (cnd ?_ ?_))
  ·intro h10
   try simp at h10
  intro h10
  try simp at h10
  refine AW.exit ?_
  simp
  obtain rfl:pos=s.length:=by omega
  simp only [List.drop_length,wL,List.flatMap_nil,List.nil_append] at hq
  refine AW.seqRegionO [] ?_
  refine qB.stepK [3] (zA rfl (xR out 34 (by omega)) (by simp)) (by conv=>lhs; simp) rfl ?_
  refine qB.nil ?_
  refine AW.seqRegionO [] ?_
  refine qB.stepK [46] (zA rfl (qPH (out++[34])) (by simp)) (by conv=>lhs; simp) rfl ?_
  refine qB.run [[2]] ?_
  refine op1 tok ?_
  refine qA ?_
  exact AW.ret (qP (k:=by simp [hq]))
def upC (c:UInt8):UInt8:=if 65≤c∧c≤70 then c+32 else c
def zBC:List UInt8:=[48,49,50,51,52,53,54,55,56,57,97,98,99,100,101,102]
theorem zHU:∀ k:Fin 256,Lib.indexByte zBC (upC (UInt8.ofNat k.val))=match qCP (UInt8.ofNat k.val) with | none => -1 | some n=>(n:Int):=by decide +kernel
theorem zEE (c:UInt8):Lib.indexByte zBC (upC c)=match qCP c with | none => -1 | some n=>(n:Int):=by
 have:=zHU ⟨c.toNat,c.toNat_lt⟩
 simpa using this
theorem qYZ {c:UInt8} {n:Nat} (h:qCP c=some n):n<16:=by
 unfold qCP at h
 have h0:=c.toNat_lt
 split at h
 ·rename_i h1; cases h; rw [UInt8.le_iff_toNat_le,UInt8.le_iff_toNat_le] at h1; simp at h1; omega
 split at h
 ·rename_i h1; cases h; rw [UInt8.le_iff_toNat_le,UInt8.le_iff_toNat_le] at h1; simp at h1; omega
 split at h
 ·rename_i h1; cases h; rw [UInt8.le_iff_toNat_le,UInt8.le_iff_toNat_le] at h1; simp at h1; omega
 cases h
theorem zCF {c:UInt8} (h:65≤(c.toNat:Int)∧(c.toNat:Int)≤70):IntKind.u8.wrap ((c.toNat:Int)+32)=((upC c).toNat:Int):=by
 have key:∀ k:Fin 256,65≤k.val∧k.val≤70→IntKind.u8.wrap ((k.val:Int)+32)=((upC (UInt8.ofNat k.val)).toNat:Int):=by decide +kernel
 have:=key ⟨c.toNat,c.toNat_lt⟩ (by simp only []; omega)
 simpa using this
theorem zCG {c:UInt8} (h:¬ (65≤(c.toNat:Int)∧(c.toNat:Int)≤70)):upC c=c:=by
 unfold upC
 rw [if_neg]
 rw [UInt8.le_iff_toNat_le,UInt8.le_iff_toNat_le]
 simp; omega
theorem qWH {x k:Nat} (hx:x<4096) (hk:k<16):IntKind.i32.wrap ↑((IntKind.i32.wrap (↑x * 2 ^ min 4 IntKind.i32.bits) % 2 ^ IntKind.i32.bits).toNat ||| (IntKind.i32.wrap ↑k % 2 ^ IntKind.i32.bits).toNat)=((16 * x+k:Nat):Int):=by
 have hw:∀ n:Nat,n<70000→IntKind.i32.wrap (n:Int)=n:=fun n h=>by simp [IntKind.wrap,IntKind.bits,IntKind.signed]; omega
 have e1:(x:Int) * 2 ^ min 4 IntKind.i32.bits=((16 * x:Nat):Int):=by show (x:Int) * 16=_; omega
 have e2:∀ n:Nat,n<70000→(((n:Int)) % 2 ^ IntKind.i32.bits).toNat=n:=fun n h=>by show ((n:Int) % 4294967296).toNat=n; omega
 rw [e1,hw (16 * x) (by omega),hw k (by omega),e2 (16 * x) (by omega),e2 k (by omega)]
 have:16 * x ||| k=16 * x+k:=by
  have:=Nat.shiftLeft_add_eq_or_of_lt (i:=4) (b:=k) hk x
  rw [Nat.shiftLeft_eq] at this
  rw [show 16 * x=x * 2 ^ 4 by omega]
  exact this.symm
 rw [this,hw (16 * x+k) (by omega)]
theorem qXY (s:List UInt8):AFn Tryz.prog G 164 [.str s] (.tup [.int .i32 ((wQ s).getD 0:Nat),.bool (wQ s).isSome]):=by
 refine AFn.introU tok Tryz.func164 (by kernel_rfl) rfl rfl ?_
 simp only [Tryz.f164,qO,List.map_cons,List.map_nil]
 have hw32:∀ n:Int,0≤n→n≤1000000→IntKind.i32.wrap n=n:=fun n h1 h2=>by simp [IntKind.wrap,IntKind.bits,IntKind.signed]; omega
 refine rgn [] [[],[0]] ?_
 iterate 2 refine op1 tok ?_
 refine qA (AW.seq (rgn [] [[],[],[],[],[],[0,11,13],[],[0,15]] ?_))
 iterate 4 refine op1 tok ?_
 iterate 3 refine op2 tok ?_
 refine op1 tok ?_
 refine qA (cnd ?_ ?_)
 ·intro h15
  try simp at h15
  have hu:wQ s=none:=by
   unfold wQ; rw [if_pos (h15.imp (fun h=>by omega) id)]
  refine rgn [] [[],[]] ?_
  iterate 2 refine op1 tok ?_
  refine qA ?_
  exact AW.ret (qP (k:=by simp [hu]))
 intro h15
 try simp at h15
 have hu:wQ s=qBO ((s.drop 2).take 4) 0:=by
  unfold wQ; rw [if_neg (fun h=>h.elim (fun h=>by omega) (fun h=>h h15.2))]
 rw [hu]
 have htl:(s.take 6).drop 2=(s.drop 2).take 4:=by rw [List.drop_take]
 have hlen:((s.drop 2).take 4).length=4:=by simp; omega
 refine AW.skip (rgn [] [[]] ?_)
 refine op1 tok ?_
 refine qA (AW.seq (rgn [] [[],[],[],[],[4,18,19,20]] ?_))
 iterate 5 refine op1 tok ?_ (hv:=by first | with_reducible exact True.intro | (omega; done) | omega | simp | (simp +contextual; omega))
 refine qA (AW.block ?_)
 rw [htl]; generalize (s.drop 2).take 4=tl at *
 refine AW.loop (α:=Nat × Nat) (fun a=>a.1≤4∧qBO (tl.drop a.1) a.2=qBO tl 0∧a.2<16 ^ a.1) (fun a=>⟨zI 43 [(4,.p (.int .i32 a.2)),(18,.p (.sl 1 (qG tl))),(19,.p (.int .i64 4)),(20,.p (.int .i64 a.1))],[],[],0⟩) (fun a=>4-a.1) ((0,0)) ⟨by omega,rfl,by decide⟩ ⟨qE (by simp; omega),rfl,by simp,by simp⟩ ?_
 rintro ⟨i,x⟩ ⟨hi,hx,hxl⟩
 simp only at hi hx hxl
 have hix:i<4→tl[i]?=some (tl.getD i 0):=fun h=>by simp [List.getD_eq_getElem?_getD,show i<tl.length by omega]
 refine rgn [] [[]] ?_
 refine op1 tok ?_
 refine qA (AW.seq (cnd ?_ ?_))
 ·intro h21
  try simp at h21
  have hxl2:x<4096:=Nat.lt_of_lt_of_le hxl (Nat.pow_le_pow_right (by omega) (show i≤3 by omega))
  have hc:=hix (by omega)
  generalize tl.getD i 0=c at *
  have hcl:=c.toNat_lt
  have hdr:tl.drop i=c::tl.drop (i+1):=by
   rw [List.drop_eq_getElem_cons (by omega)]; congr 1
   have:=List.getElem?_eq_getElem (l:=tl) (i:=i) (by omega)
   rw [hc] at this; exact (Option.some.inj this).symm
  have hstep:qBO tl 0=(match qCP c with | none=>none | some k=>qBO (tl.drop (i+1)) (16 * x+k)):=by rw [← hx,hdr]; rfl
  have hi2:=zEE c
  have hIB:AFn Tryz.prog G 146 [.str zBC,.int .u8 (upC c).toNat] (.int .i64 (Lib.indexByte zBC (upC c))):=by
   have:=qGZ (G:=G) zBC ((upC c).toNat)
   simpa using this
  refine AW.skip (AW.seq (AW.block (rgn [.int .u8 c.toNat] [[],[],[4,6,18,19,20]] ?_)))
  iterate 3 refine op1 tok ?_ (hv:=by first | with_reducible exact True.intro | (simp [qG,hc]; done) | omega | simp | (simp +contextual; omega))
  refine qA ?_
  refine AW.join (α:=Unit) (fun _=>True) (fun a=>⟨zI 43 [(4,.p (.int .i32 x)),(6,.p (.int .u8 (upC c).toNat)),(18,.p (.sl 1 (qG tl))),(19,.p (.int .i64 4)),(20,.p (.int .i64 i))],[],[],0⟩) ?_ ?_
  ·
   refine rgn [] [[],[],[],[],[],[4,6,18,19,20,29]] ?_
   iterate 3 refine op1 tok ?_
   iterate 2 refine op2 tok ?_
   refine op1 tok ?_
   refine qA (cnd ?_ ?_)
   ·intro h29
    try simp at h29
    refine rgz [] [[],[],[4,6,18,19,20]] ?_
    iterate 3 refine op1 tok ?_
    refine qA ?_
    exact ⟨(),trivial,qE (by simp [zCF h29]),rfl,by simp [zCF h29],by simp [zCF h29]⟩
   intro h29
   try simp at h29
   refine AW.skip ?_
   exact ⟨(),trivial,qE (by simp [zCG (c:=c) (by omega)]),rfl,by simp [zCG (c:=c) (by omega)],by simp [zCG (c:=c) (by omega)]⟩
  ·
   rintro a hI
   refine rgn [.nilp,.int .i64 (Lib.indexByte zBC (upC c))] [[],[],[4,7,18,19,20]] ?_
   iterate 3 refine oq1 tok hIB ?_
   refine qA (AW.seq (rgn [] [[],[4,7,18,19,20,35]] ?_))
   iterate 2 refine op1 tok ?_
   refine qA (cnd ?_ ?_)
   ·intro h35
    try simp at h35
    have hn:qBO tl 0=none:=by
     rw [hstep]
     cases hk:qCP c with
     | none=>rfl
     | some k=>rw [hk] at hi2; simp only at hi2; omega
    refine rgn [] [[],[]] ?_
    iterate 2 refine op1 tok ?_
    refine qA ?_
    exact AW.ret (qP (k:=by simp [hn]))
   intro h35
   try simp at h35
   obtain ⟨k,hk⟩:∃ k,qCP c=some k:=by
    cases hk:qCP c with
    | none=>rw [hk] at hi2; simp only at hi2; omega
    | some k=>exact ⟨k,rfl⟩
   have hk16:=qYZ hk
   rw [hk] at hi2 hstep
   simp only at hi2 hstep
   rw [hi2]
   refine AW.skip (rgz [] [[],[],[],[18,19,20,37,39],[],[4,18,19,20]] ?_)
   iterate 6 refine op1 tok ?_
   refine qA (rgz [] [[],[4,18,19,20]] ?_)
   iterate 2 refine op1 tok ?_
   refine qA ?_
   exact ⟨(i+1,16 * x+k),⟨by simp only []; omega,hstep.symm,by simp only []; rw [Nat.pow_succ]; omega⟩,by simp only []; omega,qE (by simp [qWH hxl2 hk16]),rfl,by simp [qWH hxl2 hk16],by simp [qWH hxl2 hk16]⟩
 intro h21
 try simp at h21
 obtain rfl:i=4:=by omega
 have hfin:qBO tl 0=some x:=by rw [← hx,List.drop_of_length_le (by omega)]; rfl
 refine AW.exit ?_
 simp
 refine rgn [] [[],[],[2,3]] ?_
 iterate 3 refine op1 tok ?_
 refine qA ?_
 exact AW.ret (qP (k:=by simp [hfin]))
def qJO:List UInt8:=[34,92,47,98,102,110,114,116]
def zOD:List UInt8:=[34,92,47,8,12,10,13,9]
theorem zHY:∀ k:Fin 256,if (xS (UInt8.ofNat k.val)).isSome=true then 0≤Lib.indexByte qJO (UInt8.ofNat k.val)∧(Lib.indexByte qJO (UInt8.ofNat k.val)).toNat<8∧zOD[(Lib.indexByte qJO (UInt8.ofNat k.val)).toNat]?=some (UInt8.ofNat ((xS (UInt8.ofNat k.val)).getD 0))∧(xS (UInt8.ofNat k.val)).getD 0<256 else Lib.indexByte qJO (UInt8.ofNat k.val) = -1:=by decide +kernel
theorem zEK (c:UInt8):if (xS c).isSome=true then 0≤Lib.indexByte qJO c∧(Lib.indexByte qJO c).toNat<8∧zOD[(Lib.indexByte qJO c).toNat]?=some (UInt8.ofNat ((xS c).getD 0))∧(xS c).getD 0<256 else Lib.indexByte qJO c = -1:=by
 have:=zHY ⟨c.toNat,c.toNat_lt⟩
 simpa only [UInt8.ofNat_toNat] using this
theorem qQT:∀ (l:List UInt8) (x n:Nat),qBO l x=some n→n<(x+1) * 16 ^ l.length
 | [],x,n,h=>by simp [qBO] at h; subst h; simp
 | c::l,x,n,h=>by
  simp only [qBO] at h
  split at h
  ·cases h
  rename_i k hk
  have h1:=qQT l _ n h
  have h2:=qYZ hk
  rw [List.length_cons,Nat.pow_succ]
  calc n<(16 * x+k+1) * 16 ^ l.length:=h1
   _≤(16 * (x+1)) * 16 ^ l.length:=Nat.mul_le_mul_right _ (by omega)
   _=(x+1) * (16 ^ l.length * 16):=by rw [Nat.mul_comm 16,Nat.mul_assoc,Nat.mul_comm 16]
theorem qKK (s:List UInt8):(wQ s).getD 0<65536:=by
 cases h:wQ s with
 | none=>simp
 | some n =>
  unfold wQ at h
  split at h
  ·cases h
  have h1:=qQT _ _ _ h
  have h2:((s.drop 2).take 4).length≤4:=by simp; omega
  have h3:16 ^ ((s.drop 2).take 4).length≤16 ^ 4:=Nat.pow_le_pow_right (by omega) h2
  simp only [Option.getD_some]; omega
theorem zIV (r:Nat):(r:Int).fdiv (2 ^ min 10 IntKind.i32.bits)=((r / 1024:Nat):Int):=(Int.fdiv_eq_ediv_of_nonneg _ (by decide)).trans (by show (r:Int) / 1024=_; omega)
theorem qSQ (x:Nat):((x:Int).fdiv (2 ^ min 10 IntKind.i32.bits)=54)=(x / 1024=54):=by rw [zIV]; exact propext (by omega)
theorem qSP (x:Nat):((x:Int).fdiv (2 ^ min 10 IntKind.i32.bits)=55)=(x / 1024=55):=by rw [zIV]; exact propext (by omega)
theorem qZJ {x:Nat} (h:x<65536):IntKind.i32.wrap ↑(x % 2 ^ IntKind.i32.bits &&& 1023 % 2 ^ IntKind.i32.bits)=((x % 1024:Nat):Int):=by
 have e1:x % 2 ^ IntKind.i32.bits=x:=Nat.mod_eq_of_lt (by show x<4294967296; omega)
 have e2:1023 % 2 ^ IntKind.i32.bits=2 ^ 10-1:=rfl
 rw [e1,e2,Nat.and_two_pow_sub_one_eq_mod]
 simp [IntKind.wrap,IntKind.bits,IntKind.signed]; omega
theorem zNM (x:Nat):IntKind.i32.wrap (((x % 1024:Nat):Int) * 2 ^ min 10 IntKind.i32.bits)=((x % 1024 * 1024:Nat):Int):=by
 have e:((x % 1024:Nat):Int) * 2 ^ min 10 IntKind.i32.bits=((x % 1024 * 1024:Nat):Int):=by show ((x % 1024:Nat):Int) * 1024=_; omega
 rw [e]
 simp [IntKind.wrap,IntKind.bits,IntKind.signed]; omega
theorem qOZ (s:List UInt8) (hs:s.length≤1000000000000):AFn Tryz.prog G 143 [.str s] (.tup [.int .i32 (yJ s).1,.int .i64 (yJ s).2.1,.bool (yJ s).2.2]):=by
 refine AFn.introU tok Tryz.func143 (by kernel_rfl) rfl rfl ?_
 simp only [Tryz.f143,qO,List.map_cons,List.map_nil]
 have hu1:=qXY (G:=G) s
 have hu2:=qXY (G:=G) (s.drop 6)
 have hl1:=qKK s
 have hl2:=qKK (s.drop 6)
 have hIB:∀ c:UInt8,AFn Tryz.prog G 146 [.str qJO,.int .u8 c.toNat] (.int .i64 (Lib.indexByte qJO c)):=fun c=>by
  have:=qGZ (G:=G) qJO c.toNat
  simpa using this
 refine rgn [] [[],[],[0]] ?_
 iterate 3 refine op1 tok ?_
 refine qA (AW.seq (rgn [] [[],[],[0,11]] ?_))
 iterate 3 refine op1 tok ?_
 refine qA (cnd ?_ ?_)
 ·intro h11
  try simp at h11
  have he:yJ s=(0,0,false):=by
   match s,h11 with
   | [],_=>rfl
   | [a],_=>rfl
   | a::b::t,h=>simp at h; omega
  refine rgn [] [[],[],[]] ?_
  iterate 3 refine op1 tok ?_
  refine qA ?_
  exact AW.ret (qP (k:=by simp [he]))
 intro h11
 try simp at h11
 obtain ⟨a,c,t,rfl⟩:∃ a c t,s=a::c::t:=by
  match s,h11 with
  | [],h=>simp at h
  | [a],h=>simp at h
  | a::c::t,_=>exact ⟨a,c,t,rfl⟩
 have hat:=zEK c
 refine AW.skip (AW.seq (rgn [.int .u8 c.toNat,.nilp,.int .i64 (Lib.indexByte qJO c)] [[],[],[],[0,5]] ?_))
 iterate 4 refine op1 tok ?_ (hv:=by first | with_reducible exact True.intro | (first | exact hIB c | simp; done) | omega | simp | (simp +contextual; omega))
 refine qA (rgn [] [[],[0,5,16]] ?_)
 iterate 2 refine op1 tok ?_
 refine qA (cnd ?_ ?_)
 ·intro h16
  try simp at h16
  obtain ⟨v,hv⟩:∃ v,xS c=some v:=by
   cases hv:xS c with
   | none=>rw [hv] at hat; simp at hat; omega
   | some v=>exact ⟨v,rfl⟩
  rw [hv] at hat
  simp only [Option.isSome_some,if_true,Option.getD_some] at hat
  have he:yJ (a::c::t)=(v,2,true):=by unfold yJ; simp only [hv]
  have hvn:((UInt8.ofNat v).toNat:Int)=v:=by simp; omega
  refine rgn [.int .u8 (UInt8.ofNat v).toNat] [[],[],[],[2],[],[]] ?_
  iterate 6 refine op1 tok ?_ (hv:=by first | with_reducible exact True.intro | (first | exact ⟨hat.1,_,hat.2.2.1,rfl⟩ | simp; done) | omega | simp | (simp +contextual; omega))
  refine qA ?_
  exact AW.ret (qP (k:=by simp [he]; omega))
 intro h16
 try simp at h16
 have hv:xS c=none:=by
  cases hv:xS c with
  | none=>rfl
  | some v=>rw [hv] at hat; simp at hat; omega
 have he:yJ (a::c::t)=qHU (wQ (a::c::t)) (wQ ((a::c::t).drop 6)):=by unfold yJ; simp only [hv]
 rw [he]
 unfold qHU
 have hlen6:(wQ (a::c::t)).isSome=true→6≤(a::c::t).length:=by
  unfold wQ; split
  ·intro h; cases h
  intro _; omega
 generalize wQ (a::c::t)=A at *
 generalize wQ ((a::c::t).drop 6)=B at *
 generalize A.getD 0=x at *
 generalize B.getD 0=y at *
 refine AW.skip (rgn [.nilp,.tup [.int .i32 x,.bool A.isSome]] [[],[],[],[],[],[0,6,24],[0,6,7]] ?_)
 iterate 7 refine oq1 tok hu1 ?_
 refine qA (AW.seq (rgn [] [[],[],[],[],[],[0,6,7,27,30],[0,6,7,31]] ?_))
 iterate 3 refine op1 tok ?_
 iterate 3 refine op2 tok ?_
 refine op1 tok ?_
 refine qA (cnd ?_ ?_)
 ·intro h31
  try simp at h31
  rw [qSQ] at h31
  have hc:A.isSome=false∨x / 1024≠54:=h31.imp (fun h=>by rw [h]; rfl) id
  rw [if_pos hc]
  refine rgn [] [[],[],[],[],[32,34,36],[],[],[2,38],[],[2,3,4]] ?_
  iterate 3 refine op1 tok ?_
  iterate 3 refine op2 tok ?_
  iterate 4 refine op1 tok ?_
  refine qA ?_
  exact AW.ret (qP (k:=by simp [qSP]))
 intro h31
 try simp at h31
 rw [qSQ] at h31
 have hA:A.isSome=true:=by
  cases A with
  | none=>exact absurd rfl h31.1
  | some v=>rfl
 rw [if_neg (fun h=>h.elim (fun h=>by rw [hA] at h; cases h) (fun h=>h h31.2))]
 have h6:=hlen6 hA
 have ht:List.take ((t.length:Int)+1+1).toNat (a::c::t)=a::c::t:=List.take_of_length_le (by simp; omega)
 have e1:=qZJ hl1
 have e2:=qZJ hl2
 have e3:=zNM x
 refine AW.skip (rgn [.nilp,.tup [.int .i32 y,.bool B.isSome]] [[],[],[],[6,39],[],[],[],[6,7,8]] ?_)
 iterate 8 refine op1 tok ?_ (hv:=by first | with_reducible exact True.intro | (first | (rw [ht]; exact hu2) | (simp at h6; omega); done) | omega | simp | (simp +contextual; omega))
 refine qA (rgn [] [[],[],[],[7,8,48],[],[],[],[8,51,52],[],[],[],[51,53,56],[],[],[],[2,3,4]] ?_)
 iterate 9 refine op1 tok ?_ (hv:=by first | with_reducible exact True.intro | (simp only [e1,e2,e3]; omega; done) | omega | simp | (simp +contextual; omega))
 iterate 3 refine op2 tok ?_ (hv:=by first | with_reducible exact True.intro | (simp only [e1,e2,e3]; omega; done) | omega | simp | (simp +contextual; omega))
 iterate 4 refine op1 tok ?_ (hv:=by first | with_reducible exact True.intro | (simp only [e1,e2,e3]; omega; done) | omega | simp | (simp +contextual; omega))
 refine qA ?_
 exact AW.ret (qP (k:=by simp [qSP,e1,e2]; simpa using e3))
theorem qQZ {s:List UInt8} (h:(yJ s).2.2=true):(yJ s).1≤1114111∧((yJ s).1<55296∨57343<(yJ s).1)∧2≤(yJ s).2.1∧(yJ s).2.1≤12:=by
 match s with
 | []=>simp [yJ] at h
 | [a]=>simp [yJ] at h
 | a::c::t =>
  have hat:=zEK c
  have h1:=qKK (a::c::t)
  unfold yJ at h ⊢
  cases hv:xS c with
  | some v =>
   simp only [hv,Option.isSome_some,if_true,Option.getD_some] at hat h ⊢
   omega
  | none =>
   simp only [hv] at h ⊢
   unfold qHU at h ⊢
   generalize wQ (a::c::t)=A at *
   generalize wQ ((a::c::t).drop 6)=B at *
   generalize A.getD 0=x at *
   generalize B.getD 0=y at *
   by_cases hc:A.isSome=false∨x / 1024≠54
   ·rw [if_pos hc] at h ⊢
    simp only [Bool.and_eq_true,decide_eq_true_eq] at h
    have h54:x / 1024≠54:=hc.resolve_left (fun e=>by rw [h.1] at e; cases e)
    simp only
    omega
   rw [if_neg hc] at h ⊢
   simp only
   omega
theorem qSC (f k:Nat) (out:List UInt8):wU f [] k out=([],0,6):=by cases f <;> simp [wU]
theorem qGL (r:Int):1≤(Lib.encodeRune r).length∧(Lib.encodeRune r).length≤4:=by
 have:=Lib.encodeRuneZ_length r
 simpa only [Lib.encodeRune,List.length_map] using this
theorem qXN (hG:U8 G) (s:List UInt8) (hs:s.length≤1000000000):AFn Tryz.prog G 116 [.str s] (.tup [.str (qU s).1,.int .i64 (qU s).2.1,.int .i64 (qU s).2.2]):=by
 refine AFn.introU tok Tryz.func116 (by kernel_rfl) rfl rfl ?_
 simp only [Tryz.f116,qO,List.map_cons,List.map_nil]
 have hpre:yF s [34]=decide (s.head?=some 34):=by cases s <;> simp [yF]
 refine rgn [] [[],[],[0]] ?_
 iterate 3 refine op1 tok ?_
 refine qA (AW.seq (rgn [.nilp,.bool (yF s [34])] [[],[],[0,12]] ?_))
 iterate 3 refine op1 tok ?_
 refine qA (cnd ?_ ?_)
 ·intro h12
  try simp at h12
  have hu:qU s=([],0,6):=by
   unfold qU; rw [if_neg]; rw [hpre] at h12; simpa using h12
  refine rgn [] [[],[],[]] ?_
  iterate 3 refine op1 tok ?_
  refine qA ?_
  exact AW.ret (qP (k:=by simp [hu]))
 intro h12
 try simp at h12
 have hu:qU s=wU s.length (s.drop 1) 1 []:=by
  unfold qU; rw [if_pos]; rw [hpre] at h12; simpa using h12
 rw [hu]
 have hs0:1≤s.length:=by cases s with
  | nil=>rw [hpre] at h12; simp at h12
  | cons b s=>simp
 refine AW.skip (rgn [] [[]] ?_)
 refine op1 tok ?_
 refine qA (AW.seq ?_)
 refine AW.renE 5 2 (by simp) (by conv=>lhs; simp) ?_
 refine AW.beginBox 2 3 1 5 1 (by simp; exact ⟨rfl,rfl⟩) (by simp) (by simp) (by conv=>lhs; simp) ?_
 refine rgn [] [[]] ?_
 refine op1 tok ?_
 refine qA (AW.block ?_)
 refine AW.loop (α:=Nat × List UInt8 × Bool × Nat) (fun a=>wU s.length (s.drop 1) 1 []=wU a.2.2.2 (s.drop a.1) a.1 a.2.1∧s.length+1≤a.2.2.2+a.1∧a.2.1.length≤4 * a.1∧a.1≤s.length+12) (fun a=>⟨zI 61 [(0,.p (.str s)),(5,.ptr 2 0),(6,.p (.int .i64 a.1))],[],[(2,.vars 111 [if a.2.2.1=true then .ptr 2 0 else .p .nilp,.ms 3]),(3,.row 5 1 (qG a.2.1))],0⟩) (fun a=>s.length+12-a.1) ((1,[],false,s.length)) ⟨rfl,by simp,by simp,by simp⟩ ⟨qE (by simp),rfl,by simp,by simp⟩ ?_
 rintro ⟨k,out,u,f⟩ ⟨hq,hf,hol,hk⟩
 simp only at hq hf hol hk
 rw [hq]
 clear hq hu
 refine AW.seq ?_
 by_cases hs5:u=true
 ·
  first | rw [if_pos hs5] | rw [if_neg hs5]
  refine rgn [] [[],[],[],[0,5,6,16]] ?_
  iterate 4 refine op1 tok ?_
  refine qA (cnd ?_ ?_)
  ·intro h16
   try simp at h16
   obtain ⟨f,rfl⟩:∃ g,f=g+1:=⟨f-1,by omega⟩
   have hne:s.drop k≠[]:=by intro e; have:=congrArg List.length e; simp at this; omega
   have hdec:=qEH (G:=G) hG (s.drop k) hne
   have hstep : wU (f + 1) (s.drop k) k out = if (Lib.decodeL (s.drop k)).1 = 34 then (if 4096 < out.length then ([], 0, 3) else (out, k + 1, 0)) else if (Lib.decodeL (s.drop k)).1 < 32 ∨ ((Lib.decodeL (s.drop k)).1 = 65533 ∧ (Lib.decodeL (s.drop k)).2 = 1) then ([], 0, 6)
     else if (Lib.decodeL (s.drop k)).1=92 then (match qHV (s.drop k) with
      | none=>([],0,6)
      | some (c,n)=>wU f ((s.drop k).drop n) (k+n) (out++Lib.encodeRune c))
     else wU f ((s.drop k).drop (Lib.decodeL (s.drop k)).2) (k+(Lib.decodeL (s.drop k)).2) (out++Lib.encodeRune (Lib.decodeL (s.drop k)).1):=by
    simp only [wU]; rw [if_neg hne] <;> rfl
   rw [hstep]
   clear hstep
   have hok:=qFF (s.drop k)
   have hmx:=uX (s.drop k)
   have hwl:=Lib.decodeL_le (s.drop k) hne
   have hwp:=uW (s.drop k) hne
   have hesc:=qOZ (G:=G) (s.drop k) (by simp; omega)
   have hEL:qHV (s.drop k)=if (yJ (s.drop k)).2.2=true then some ((yJ (s.drop k)).1,(yJ (s.drop k)).2.1) else none:=rfl
   have hEO:=qQZ (s:=s.drop k)
   rw [hEL]
   clear hEL
   rw [List.length_drop] at hwl
   generalize Lib.decodeL (s.drop k)=p at *
   obtain ⟨r,w⟩:=p
   generalize yJ (s.drop k)=q at *
   obtain ⟨c,n,ok⟩:=q
   simp only at *
   refine AW.skip (AW.block (rgn [.nilp,.tup [.int .i32 r,.int .i64 w]] [[],[],[],[],[0,5,6,17],[],[],[],[0,5,6,7,8]] ?_))
   iterate 9 refine oq1 tok hdec ?_
   refine qA (AW.seq (AW.block (rgn [] [[],[],[0,5,6,7,8,24]] ?_)))
   iterate 3 refine op1 tok ?_
   refine qA (cnd ?_ ?_)
   ·intro h24
    try simp at h24
    rw [if_pos (show r=34 by omega)]
    refine AW.seq ?_
    refine AW.seqRegionO [] ?_
    refine qB.stepK [5,6,27] (zA rfl (zIR out) (by simp)) (by conv=>lhs; simp) rfl ?_
    refine qB.run [[5,6,28]] ?_
    refine op1 tok ?_
    refine qA (cnd ?_ ?_)
    ·intro h28
     try simp at h28
     rw [if_pos (show 4096<out.length by omega)]
     refine rgn [] [[],[],[]] ?_
     iterate 3 refine op1 tok ?_
     exact qA (AW.ret qP)
    intro h28
    try simp at h28
    rw [if_neg (show ¬ 4096<out.length by omega)]
    refine AW.skip ?_
    refine AW.seqRegionO [] ?_
    refine qB.stepK [6,29] (zA rfl (qPH out) (by simp)) (by conv=>lhs; simp) rfl ?_
    refine qB.run [[],[],[],[2,3],[]] ?_
    iterate 5 refine op1 tok ?_
    exact qA (AW.ret qP)
   intro h24
   try simp at h24
   rw [if_neg (show ¬ r=34 by omega)]
   refine rgn [] [[],[],[],[],[],[0,5,6,7,8,35,38],[],[],[],[0,5,6,7,8,42],[0,5,6,7,8,32]] ?_
   iterate 3 refine op1 tok ?_
   iterate 6 refine op2 tok ?_
   iterate 2 refine op1 tok ?_
   refine qA (cnd ?_ ?_)
   ·intro h32
    try simp at h32
    rw [if_pos (show r<32∨(r=65533∧w=1) by omega)]
    refine rgn [] [[],[],[]] ?_
    iterate 3 refine op1 tok ?_
    exact qA (AW.ret qP)
   intro h32
   try simp at h32
   rw [if_neg (show ¬ (r<32∨(r=65533∧w=1)) by omega)]
   refine rgn [] [[],[],[0,5,6,7,8,43]] ?_
   iterate 3 refine op1 tok ?_
   refine qA (cnd ?_ ?_)
   ·intro h43
    try simp at h43
    rw [if_pos (show r=92 by omega)]
    refine rgn [] [[0,5,6]] ?_
    refine op1 tok ?_
    refine qA (rgn [.nilp,.tup [.int .i32 c,.int .i64 n,.bool ok]] [[],[],[],[],[0,5,6,46],[],[],[],[],[],[0,5,6,7,8,9]] ?_)
    iterate 11 refine oq1 tok hesc ?_
    refine qA (rgn [] [[],[0,5,6,7,8,55]] ?_)
    iterate 2 refine op1 tok ?_
    refine qA (cnd ?_ ?_)
    ·intro h55
     try simp at h55
     subst h55
     refine rgn [] [[],[],[]] ?_
     iterate 3 refine op1 tok ?_
     exact qA (AW.ret qP)
    intro h55
    try simp at h55
    subst h55
    have hE:=hEO rfl
    simp only [if_true]
    refine AW.skip ?_
    have hel:=qGL c
    refine rgn [] [[]] ?_
    refine op1 tok ?_
    refine qK ?_
    refine qB.stepK [0,5,6,8] (zA rfl (xQ out c (by omega) (by omega) (by omega) (by omega)) (by simp)) (by conv=>lhs; simp) rfl ?_
    refine qB.nil ?_
    refine rgz [] [[],[],[0,5,60],[0,5,6]] ?_
    iterate 4 refine op1 tok ?_
    refine qA ?_
    exact ⟨(k+n,out++Lib.encodeRune c,true,f),⟨by rw [List.drop_drop],by simp only []; omega,by simp; omega,by simp only []; omega⟩,by simp only []; omega,qE (by simp [qG]),rfl,by simp [qG],by simp [qG]⟩
   intro h43
   try simp at h43
   rw [if_neg (show ¬ r=92 by omega)]
   refine AW.skip ?_
   have hel:=qGL r
   refine rgn [] [[]] ?_
   refine op1 tok ?_
   refine qK ?_
   refine qB.stepK [0,5,6,8] (zA rfl (xQ out r (by omega) (by omega) (by omega) (by omega)) (by simp)) (by conv=>lhs; simp) rfl ?_
   refine qB.nil ?_
   refine rgz [] [[],[],[0,5,60],[0,5,6]] ?_
   iterate 4 refine op1 tok ?_
   refine qA ?_
   exact ⟨(k+w,out++Lib.encodeRune r,true,f),⟨by rw [List.drop_drop],by simp only []; omega,by simp; omega,by simp only []; omega⟩,by simp only []; omega,qE (by simp [qG]),rfl,by simp [qG],by simp [qG]⟩
  intro h16
  try simp at h16
  rw [List.drop_of_length_le (show s.length≤k by omega),qSC]
  refine AW.exit ?_
  simp
  refine rgn [] [[],[],[]] ?_
  iterate 3 refine op1 tok ?_
  exact qA (AW.ret qP)
 ·
  first | rw [if_pos hs5] | rw [if_neg hs5]
  refine rgn [] [[],[],[],[0,5,6,16]] ?_
  iterate 4 refine op1 tok ?_
  refine qA (cnd ?_ ?_)
  ·intro h16
   try simp at h16
   obtain ⟨f,rfl⟩:∃ g,f=g+1:=⟨f-1,by omega⟩
   have hne:s.drop k≠[]:=by intro e; have:=congrArg List.length e; simp at this; omega
   have hdec:=qEH (G:=G) hG (s.drop k) hne
   have hstep : wU (f + 1) (s.drop k) k out = if (Lib.decodeL (s.drop k)).1 = 34 then (if 4096 < out.length then ([], 0, 3) else (out, k + 1, 0)) else if (Lib.decodeL (s.drop k)).1 < 32 ∨ ((Lib.decodeL (s.drop k)).1 = 65533 ∧ (Lib.decodeL (s.drop k)).2 = 1) then ([], 0, 6)
     else if (Lib.decodeL (s.drop k)).1=92 then (match qHV (s.drop k) with
      | none=>([],0,6)
      | some (c,n)=>wU f ((s.drop k).drop n) (k+n) (out++Lib.encodeRune c))
     else wU f ((s.drop k).drop (Lib.decodeL (s.drop k)).2) (k+(Lib.decodeL (s.drop k)).2) (out++Lib.encodeRune (Lib.decodeL (s.drop k)).1):=by
    simp only [wU]; rw [if_neg hne] <;> rfl
   rw [hstep]
   clear hstep
   have hok:=qFF (s.drop k)
   have hmx:=uX (s.drop k)
   have hwl:=Lib.decodeL_le (s.drop k) hne
   have hwp:=uW (s.drop k) hne
   have hesc:=qOZ (G:=G) (s.drop k) (by simp; omega)
   have hEL:qHV (s.drop k)=if (yJ (s.drop k)).2.2=true then some ((yJ (s.drop k)).1,(yJ (s.drop k)).2.1) else none:=rfl
   have hEO:=qQZ (s:=s.drop k)
   rw [hEL]
   clear hEL
   rw [List.length_drop] at hwl
   generalize Lib.decodeL (s.drop k)=p at *
   obtain ⟨r,w⟩:=p
   generalize yJ (s.drop k)=q at *
   obtain ⟨c,n,ok⟩:=q
   simp only at *
   refine AW.skip (AW.block (rgn [.nilp,.tup [.int .i32 r,.int .i64 w]] [[],[],[],[],[0,5,6,17],[],[],[],[0,5,6,7,8]] ?_))
   iterate 9 refine oq1 tok hdec ?_
   refine qA (AW.seq (AW.block (rgn [] [[],[],[0,5,6,7,8,24]] ?_)))
   iterate 3 refine op1 tok ?_
   refine qA (cnd ?_ ?_)
   ·intro h24
    try simp at h24
    rw [if_pos (show r=34 by omega)]
    refine AW.seq ?_
    refine AW.seqRegionO [] ?_
    refine qB.stepK [5,6,27] (zA rfl (zFW out) (by simp)) (by conv=>lhs; simp) rfl ?_
    refine qB.run [[5,6,28]] ?_
    refine op1 tok ?_
    refine qA (cnd ?_ ?_)
    ·intro h28
     try simp at h28
     rw [if_pos (show 4096<out.length by omega)]
     refine rgn [] [[],[],[]] ?_
     iterate 3 refine op1 tok ?_
     exact qA (AW.ret qP)
    intro h28
    try simp at h28
    rw [if_neg (show ¬ 4096<out.length by omega)]
    refine AW.skip ?_
    refine AW.seqRegionO [] ?_
    refine qB.stepK [6,29] (zA rfl (qXO out) (by simp)) (by conv=>lhs; simp) rfl ?_
    refine qB.run [[],[],[],[2,3],[]] ?_
    iterate 5 refine op1 tok ?_
    exact qA (AW.ret qP)
   intro h24
   try simp at h24
   rw [if_neg (show ¬ r=34 by omega)]
   refine rgn [] [[],[],[],[],[],[0,5,6,7,8,35,38],[],[],[],[0,5,6,7,8,42],[0,5,6,7,8,32]] ?_
   iterate 3 refine op1 tok ?_
   iterate 6 refine op2 tok ?_
   iterate 2 refine op1 tok ?_
   refine qA (cnd ?_ ?_)
   ·intro h32
    try simp at h32
    rw [if_pos (show r<32∨(r=65533∧w=1) by omega)]
    refine rgn [] [[],[],[]] ?_
    iterate 3 refine op1 tok ?_
    exact qA (AW.ret qP)
   intro h32
   try simp at h32
   rw [if_neg (show ¬ (r<32∨(r=65533∧w=1)) by omega)]
   refine rgn [] [[],[],[0,5,6,7,8,43]] ?_
   iterate 3 refine op1 tok ?_
   refine qA (cnd ?_ ?_)
   ·intro h43
    try simp at h43
    rw [if_pos (show r=92 by omega)]
    refine rgn [] [[0,5,6]] ?_
    refine op1 tok ?_
    refine qA (rgn [.nilp,.tup [.int .i32 c,.int .i64 n,.bool ok]] [[],[],[],[],[0,5,6,46],[],[],[],[],[],[0,5,6,7,8,9]] ?_)
    iterate 11 refine oq1 tok hesc ?_
    refine qA (rgn [] [[],[0,5,6,7,8,55]] ?_)
    iterate 2 refine op1 tok ?_
    refine qA (cnd ?_ ?_)
    ·intro h55
     try simp at h55
     subst h55
     refine rgn [] [[],[],[]] ?_
     iterate 3 refine op1 tok ?_
     exact qA (AW.ret qP)
    intro h55
    try simp at h55
    subst h55
    have hE:=hEO rfl
    simp only [if_true]
    refine AW.skip ?_
    have hel:=qGL c
    refine rgn [] [[]] ?_
    refine op1 tok ?_
    refine qK ?_
    refine qB.stepK [0,5,6,8] (zA rfl (qEG out c (by omega) (by omega) (by omega) (by omega)) (by simp)) (by conv=>lhs; simp) rfl ?_
    refine qB.nil ?_
    refine rgz [] [[],[],[0,5,60],[0,5,6]] ?_
    iterate 4 refine op1 tok ?_
    refine qA ?_
    exact ⟨(k+n,out++Lib.encodeRune c,true,f),⟨by rw [List.drop_drop],by simp only []; omega,by simp; omega,by simp only []; omega⟩,by simp only []; omega,qE (by simp [qG]),rfl,by simp [qG],by simp [qG]⟩
   intro h43
   try simp at h43
   rw [if_neg (show ¬ r=92 by omega)]
   refine AW.skip ?_
   have hel:=qGL r
   refine rgn [] [[]] ?_
   refine op1 tok ?_
   refine qK ?_
   refine qB.stepK [0,5,6,8] (zA rfl (qEG out r (by omega) (by omega) (by omega) (by omega)) (by simp)) (by conv=>lhs; simp) rfl ?_
   refine qB.nil ?_
   refine rgz [] [[],[],[0,5,60],[0,5,6]] ?_
   iterate 4 refine op1 tok ?_
   refine qA ?_
   exact ⟨(k+w,out++Lib.encodeRune r,true,f),⟨by rw [List.drop_drop],by simp only []; omega,by simp; omega,by simp only []; omega⟩,by simp only []; omega,qE (by simp [qG]),rfl,by simp [qG],by simp [qG]⟩
  intro h16
  try simp at h16
  rw [List.drop_of_length_le (show s.length≤k by omega),qSC]
  refine AW.exit ?_
  simp
  refine rgn [] [[],[],[]] ?_
  iterate 3 refine op1 tok ?_
  exact qA (AW.ret qP)
mutual
def qAH (ch:Val→Val):Val→Val
 | .mk k m n t ks vs c=>ch (.mk k m n t ks (qUB ch vs) c)
def qUB (ch:Val→Val):List Val→List Val
 | []=>[]
 | v::vs=>qAH ch v::qUB ch vs
end
theorem qOI (ch:Val→Val):∀ l,qUB ch l=l.map (qAH ch)
 | []=>by simp [qUB]
 | v::vs=>by simp [qUB,qOI ch vs]
theorem qQK (ch:Val→Val) (v:Val):qAH ch v=ch (.mk v.kind v.mask v.num v.text v.keys (v.kids.map (qAH ch)) v.code):=by
 cases v; simp only [qAH,qOI,Val.kind_mk,Val.mask_mk,Val.num_mk,Val.text_mk,Val.keys_mk,Val.kids_mk,Val.code_mk]
def qGW (u:Val):Val := .mk u.kind 0 u.num u.text u.keys u.kids u.code
def yV (v:Val):Val:=qAH qGW v
def InM (a:Int):Prop:=0≤a∧a<18446744073709551616
def yU (a:Int):Nat:=(a % 18446744073709551616).toNat
theorem qQI (a:Int):yU a<2 ^ 64:=by unfold yU; omega
theorem qYS {a:Int} (h:InM a):((yU a:Nat):Int)=a:=by unfold yU; unfold InM at h; omega
theorem zAT {n:Nat} (h:n<2 ^ 64):yU n=n:=by unfold yU; omega
def orM (a b:Int):Int:=((yU a ||| yU b:Nat):Int)
def zOH (a b:Int):Int:=((yU a &&& yU b:Nat):Int)
def zNK (a b:Int):Int:=((yU a &&& (18446744073709551615-yU b):Nat):Int)
theorem zNW (a b:Int):yU a ||| yU b<2 ^ 64:=Nat.or_lt_two_pow (qQI a) (qQI b)
theorem qJW (a b:Int):yU (orM a b)=yU a ||| yU b:=zAT (zNW a b)
theorem or_assoc (a b c:Int):orM (orM a b) c=orM a (orM b c):=by
 show ((yU (orM a b) ||| yU c:Nat):Int)=((yU a ||| yU (orM b c):Nat):Int)
 rw [qJW,qJW,Nat.or_assoc]
theorem or_self {a:Int} (h:InM a):orM a a=a:=by unfold orM; rw [Nat.or_self,qYS h]
def LeM (a b:Int):Prop:=orM a b=b
theorem LeM.trans {a b c:Int} (h1:LeM a b) (h2:LeM b c):LeM a c:=by
 unfold LeM at *; rw [← h2,← or_assoc,h1]
theorem LeM.or {a b c:Int} (h1:LeM a c) (h2:LeM b c):LeM (orM a b) c:=by
 unfold LeM at *; rw [or_assoc,h2,h1]
theorem LeM.refl {a:Int} (h:InM a):LeM a a:=or_self h
theorem LeM.and {a b:Int} (h:LeM a b) (ha:InM a):zOH b a=a:=by
 unfold LeM at h
 have h1:yU a ||| yU b=yU b:=by rw [← qJW,h]
 unfold zOH
 have:yU b &&& yU a=yU a:=by
  rw [← h1]
  apply Nat.eq_of_testBit_eq; intro i
  simp only [Nat.testBit_and,Nat.testBit_or]
  cases (yU a).testBit i <;> cases (yU b).testBit i <;> rfl
 rw [this,qYS ha]
theorem LeM.sub {a b:Int} (h:LeM a b):zNK a b=0:=by
 unfold LeM at h
 have h1:yU a ||| yU b=yU b:=by rw [← qJW,h]
 have hb:=qQI b
 unfold zNK
 have:yU a &&& (18446744073709551615-yU b)=0:=by
  apply Nat.eq_of_testBit_eq; intro i
  rw [show 18446744073709551615-yU b=2 ^ 64-(yU b+1) by omega]
  simp only [Nat.testBit_and,Nat.testBit_two_pow_sub_succ hb,Nat.zero_testBit]
  have h3:(yU a ||| yU b).testBit i=(yU b).testBit i:=by rw [h1]
  rw [Nat.testBit_or] at h3
  revert h3
  cases (yU a).testBit i <;> cases (yU b).testBit i <;> simp
 rw [this]; rfl
end Go.Proofs.YtlmedakhioiahaaGreatDoor
