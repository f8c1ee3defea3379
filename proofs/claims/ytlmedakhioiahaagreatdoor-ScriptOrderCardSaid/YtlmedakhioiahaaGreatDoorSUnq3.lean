import Derived.Test.YtlmedakhioiahaaGreatDoorK2
import Derived.Test.YtlmedakhioiahaaGreatDoorM4
import Derived.Test.YtlmedakhioiahaaGreatDoorM3
namespace Go.Proofs.YtlmedakhioiahaaGreatDoor
open Sy Go
set_option maxRecDepth 100000
set_option maxHeartbeats 4000000
set_option linter.unusedSimpArgs false
set_option linter.unusedVariables false
variable {G:qR}
theorem zS (b:UInt8) (n:Nat) (hn:n<256):((b.toNat:Int)=(n:Int))↔b=UInt8.ofNat n:=by
 constructor
 ·intro e; exact UInt8.toNat_inj.1 (by rw [UInt8.toNat_ofNat']; omega)
 rintro rfl; rw [UInt8.toNat_ofNat']; omega
theorem zBG (r:Int):qG (Lib.encodeRune r)=(Lib.encodeRuneZ r).map (PD.int .u8):=by
 unfold qG Lib.encodeRune
 rw [List.map_map]
 refine List.map_congr_left fun x hx => ?_
 have:=Lib.encodeRuneZ_byte r x hx
 simp only [Function.comp,PD.int.injEq,true_and]
 show ((UInt8.ofNat x.toNat).toNat:Int)=x
 rw [UInt8.toNat_ofNat']; omega
theorem w8 {n:Int} (h:0≤n∧n<256):IntKind.u8.wrap n=n:=by simp [IntKind.wrap,IntKind.bits,IntKind.signed]; omega
theorem w64 {n:Int} (h:0≤n∧n<9223372036854775808):IntKind.i64.wrap n=n:=by simp [IntKind.wrap,IntKind.bits,IntKind.signed]; omega
theorem qNJ (x:Nat) (hx:x<1114112) (hs:¬ (55296≤x∧x<57344)):AFn Tryz.prog G 154 [.int .i64 x] (.str (Lib.encodeRune x)):=by
 refine AFn.introU tok Tryz.func154 (by kernel_rfl) rfl rfl ?_
 simp only [Tryz.f154,qO,List.map_cons,List.map_nil]
 have hb:=zBG x
 generalize Lib.encodeRune x=B at *
 have q1:IntKind.i64.wrap ((x:Int) / 64)=(x:Int) / 64:=w64 (by omega)
 have q2:IntKind.i64.wrap ((x:Int) / 4096)=(x:Int) / 4096:=w64 (by omega)
 have q3:IntKind.i64.wrap ((x:Int) / 262144)=(x:Int) / 262144:=w64 (by omega)
 have e1:(x:Int).tmod 64=(x:Int) % 64:=Int.tmod_eq_emod_of_nonneg (by omega)
 have e2:((x:Int) / 64).tmod 64=(x:Int) / 64 % 64:=Int.tmod_eq_emod_of_nonneg (by omega)
 have e3:((x:Int) / 4096).tmod 64=(x:Int) / 4096 % 64:=Int.tmod_eq_emod_of_nonneg (by omega)
 refine rgn [] [[0]] ?_
 refine op1 tok ?_
 refine qA (AW.seq (AW.block (rgn [] [[],[],[0,3]] ?_)))
 iterate 3 refine op1 tok ?_
 refine qA (cnd ?_ ?_)
 ·intro h3
  try simp at h3
  rw [Lib.encodeRuneZ_one (by omega) (by omega)] at hb
  refine rgn [.int .u8 x,.str B] [[],[],[],[9],[2]] ?_
  iterate 5 refine op1 tok ?_ (hv:=by first | with_reducible exact True.intro | (first | (rw [w8 (by omega)]) | (rw [hb]; rfl); done) | omega | simp | (simp +contextual; omega))
  exact qA (AW.ret qP)
 intro h3
 try simp at h3
 refine rgn [] [[],[],[0,10]] ?_
 iterate 3 refine op1 tok ?_
 refine qA (cnd ?_ ?_)
 ·intro h10
  try simp at h10
  rw [Lib.encodeRuneZ_two (by omega) (by omega)] at hb
  have k1:=w8 (n:=192+(x:Int) / 64) (by omega)
  have k2:=w8 (n:=128+(x:Int) % 64) (by omega)
  refine rgn [.int .u8 (192+(x:Int) / 64),.int .u8 (128+(x:Int) % 64),.str B] [[],[],[],[],[16,17],[],[],[],[21],[],[2]] ?_
  iterate 11 refine op1 tok ?_ (h:=by intro C; conv=>lhs; simp [q1,e1,k1,k2]) (hv:=by first | with_reducible exact True.intro | ((rw [hb]; rfl); done) | omega | simp | (simp +contextual; omega))
  exact qA (AW.ret qP)
 intro h10
 try simp at h10
 refine rgn [] [[],[],[0,23]] ?_
 iterate 3 refine op1 tok ?_
 refine qA (cnd ?_ ?_)
 ·intro h23
  try simp at h23
  rw [Lib.encodeRuneZ_three (by omega)] at hb
  have k1:=w8 (n:=224+(x:Int) / 4096) (by omega)
  have k2:=w8 (n:=128+(x:Int) / 64 % 64) (by omega)
  have k3:=w8 (n:=128+(x:Int) % 64) (by omega)
  refine rgn [.int .u8 (224+(x:Int) / 4096),.int .u8 (128+(x:Int) / 64 % 64),.int .u8 (128+(x:Int) % 64),.str B] [[],[],[],[],[],[0,29,31],[],[],[],[29,34,35],[],[],[],[39],[],[2]] ?_
  iterate 16 refine op1 tok ?_ (h:=by intro C; conv=>lhs; simp [q1,q2,q3,e1,e2,e3,k1,k2,k3]) (hv:=by first | with_reducible exact True.intro | ((rw [hb]; rfl); done) | omega | simp | (simp +contextual; omega))
  exact qA (AW.ret qP)
 intro h23
 try simp at h23
 rw [Lib.encodeRuneZ_four (by omega) (by omega)] at hb
 have k1:=w8 (n:=240+(x:Int) / 262144) (by omega)
 have k2:=w8 (n:=128+(x:Int) / 4096 % 64) (by omega)
 have k3:=w8 (n:=128+(x:Int) / 64 % 64) (by omega)
 have k4:=w8 (n:=128+(x:Int) % 64) (by omega)
 refine AW.skip (rgn [.int .u8 (240+(x:Int) / 262144),.int .u8 (128+(x:Int) / 4096 % 64),.int .u8 (128+(x:Int) / 64 % 64),.int .u8 (128+(x:Int) % 64),.str B] [[],[],[],[],[],[0,44,46],[],[],[],[],[0,44,49,51],[],[],[],[44,49,54,55],[],[],[],[59],[],[2]] ?_)
 iterate 21 refine op1 tok ?_ (h:=by intro C; conv=>lhs; simp [q1,q2,q3,e1,e2,e3,k1,k2,k3,k4]) (hv:=by first | with_reducible exact True.intro | ((rw [hb]; rfl); done) | omega | simp | (simp +contextual; omega))
 exact qA (AW.ret qP)
def qAZ (s:List UInt8) (k:Nat):Int:=if s.length<k+4 then -1 else match qBO ((s.drop k).take 4) 0 with
 | some x=>x
 | none => -1
theorem qUJ (s:List UInt8) (k:Nat) (hs:s.length≤1000000000) (hk:k≤2000000000):AFn Tryz.prog G 153 [.str s,.int .i64 k] (.int .i64 (qAZ s k)):=by
 refine AFn.introU tok Tryz.func153 (by kernel_rfl) rfl rfl ?_
 simp only [Tryz.f153,qO,List.map_cons,List.map_nil]
 unfold qAZ
 refine rgn [] [[0,1]] ?_
 refine op1 tok ?_
 refine qA (AW.seq (rgn [] [[],[],[],[],[0,1,12]] ?_))
 iterate 5 refine op1 tok ?_
 refine qA (cnd ?_ ?_)
 ·intro h12
  try simp at h12
  rw [if_pos (by omega)]
  refine rgn [] [[]] ?_
  refine op1 tok ?_
  exact qA (AW.ret qP)
 intro h12
 try simp at h12
 rw [if_neg (by omega)]
 refine AW.skip (rgn [] [[]] ?_)
 refine op1 tok ?_
 refine qA (AW.seq (rgn [] [[],[0,1,5,6]] ?_))
 iterate 2 refine op1 tok ?_
 refine qA (AW.block ?_)
 refine AW.loop (α:=Nat × Nat) (fun a=>a.1≤4∧qBO ((s.drop k).take 4) 0=qBO ((s.drop (k+a.1)).take (4-a.1)) a.2∧a.2<16 ^ a.1) (fun a=>⟨zI 65 [(0,.p (.str s)),(1,.p (.int .i64 k)),(5,.p (.int .i64 a.2)),(6,.p (.int .i64 (k+a.1:Nat)))],[],[],0⟩) (fun a=>4-a.1) ((0,0)) ⟨by decide,rfl,by decide⟩ ⟨qE (by simp),rfl,by simp,by simp⟩ ?_
 rintro ⟨d,x⟩ ⟨hd,hq,hx⟩
 simp only at hd hq hx
 refine AW.seq (rgn [] [[],[],[],[0,1,5,6,17]] ?_)
 iterate 4 refine op1 tok ?_
 refine qA (cnd ?_ ?_)
 ·intro h17
  try simp at h17
  obtain ⟨c,hc⟩:∃ c,s[k+d]?=some c:=⟨s[k+d]'(by omega),List.getElem?_eq_getElem _⟩
  have hst:(s.drop (k+d)).take (4-d)=c::(s.drop (k+(d+1))).take (4-(d+1)):=by
   obtain ⟨h,rfl⟩:=List.getElem?_eq_some_iff.1 hc
   rw [List.drop_eq_getElem_cons h,show 4-d=(4-(d+1))+1 by omega,List.take_succ_cons]; rfl
  rw [hst] at hq
  simp only [qBO] at hq
  have hb:16 ^ d≤16 ^ 3:=Nat.pow_le_pow_right (by decide) (by omega)
  have hc2:=c.toNat_lt
  have hp:16 ^ (d+1)=16 ^ d * 16:=Nat.pow_succ ..
  refine AW.skip (AW.seq (AW.block (rgn [.int .u8 c.toNat] [[],[],[],[0,1,5,6,7]] ?_)))
  iterate 4 refine op1 tok ?_ (hv:=by first | with_reducible exact True.intro | (exact ⟨by omega,c,by rw [show ((k:Int)+d).toNat=k+d by omega]; exact hc,rfl⟩; done) | omega | simp | (simp +contextual; omega))
  refine qA (AW.block (rgn [] [[],[],[],[],[],[0,1,5,6,7,29],[0,1,5,6,7,23]] ?_))
  iterate 3 refine op1 tok ?_
  iterate 2 refine op2 tok ?_
  iterate 2 refine op1 tok ?_
  refine qA (cnd ?_ ?_)
  ·intro h23
   try simp at h23
   have hv:qCP c=some (c.toNat-48):=by
    unfold qCP; rw [if_pos]
    rw [UInt8.le_iff_toNat_le,UInt8.le_iff_toNat_le]; exact ⟨by show 48≤c.toNat; omega,by show c.toNat≤57; omega⟩
   rw [hv] at hq
   simp only at hq
   have w1:=w8 (n:=(c.toNat:Int)-48) (by omega)
   refine rgz [] [[],[],[],[0,1,6,31,33],[],[],[0,1,5,6]] ?_
   iterate 7 refine op1 tok ?_ (h:=by intro C; conv=>lhs; simp [w1])
   refine qA (rgz [] [[],[],[0,1,5,6]] ?_)
   iterate 3 refine op1 tok ?_
   refine qA ?_
   exact ⟨(d+1,16 * x+(c.toNat-48)),⟨by simp only []; omega,hq,by simp only []; omega⟩,by simp only []; omega,qE (by simp [show ((16 * x+(c.toNat-48):Nat):Int)=16 * (x:Int)+((c.toNat:Int)-48) from by omega,show ((k+(d+1):Nat):Int)=(k:Int)+d+1 from by omega]),rfl,by simp [show ((16 * x+(c.toNat-48):Nat):Int)=16 * (x:Int)+((c.toNat:Int)-48) from by omega,show ((k+(d+1):Nat):Int)=(k:Int)+d+1 from by omega],by simp [show ((16 * x+(c.toNat-48):Nat):Int)=16 * (x:Int)+((c.toNat:Int)-48) from by omega,show ((k+(d+1):Nat):Int)=(k:Int)+d+1 from by omega]⟩
  intro h23
  try simp at h23
  refine rgn [] [[],[],[],[],[],[0,1,5,6,7,42],[0,1,5,6,7,36]] ?_
  iterate 3 refine op1 tok ?_
  iterate 2 refine op2 tok ?_
  iterate 2 refine op1 tok ?_
  refine qA (cnd ?_ ?_)
  ·intro h36
   try simp at h36
   have hv:qCP c=some (c.toNat-87):=by
    unfold qCP; rw [if_neg,if_pos]
    ·rw [UInt8.le_iff_toNat_le,UInt8.le_iff_toNat_le]; exact ⟨by show 97≤c.toNat; omega,by show c.toNat≤102; omega⟩
    rw [UInt8.le_iff_toNat_le,UInt8.le_iff_toNat_le]; show ¬ (48≤c.toNat∧c.toNat≤57); omega
   rw [hv] at hq
   simp only at hq
   have w1:=w8 (n:=(c.toNat:Int)-97) (by omega)
   refine rgz [] [[],[],[],[0,1,6,44,46],[],[],[0,1,6,49],[0,1,5,6]] ?_
   iterate 8 refine op1 tok ?_ (h:=by intro C; conv=>lhs; simp [w1])
   refine qA (rgz [] [[],[],[0,1,5,6]] ?_)
   iterate 3 refine op1 tok ?_
   refine qA ?_
   exact ⟨(d+1,16 * x+(c.toNat-87)),⟨by simp only []; omega,hq,by simp only []; omega⟩,by simp only []; omega,qE (by simp [show ((16 * x+(c.toNat-87):Nat):Int)=16 * (x:Int)+((c.toNat:Int)-97)+10 from by omega,show ((k+(d+1):Nat):Int)=(k:Int)+d+1 from by omega]),rfl,by simp [show ((16 * x+(c.toNat-87):Nat):Int)=16 * (x:Int)+((c.toNat:Int)-97)+10 from by omega,show ((k+(d+1):Nat):Int)=(k:Int)+d+1 from by omega],by simp [show ((16 * x+(c.toNat-87):Nat):Int)=16 * (x:Int)+((c.toNat:Int)-97)+10 from by omega,show ((k+(d+1):Nat):Int)=(k:Int)+d+1 from by omega]⟩
  intro h36
  try simp at h36
  refine rgn [] [[],[],[],[],[],[0,1,5,6,7,56],[0,1,5,6,7,50]] ?_
  iterate 3 refine op1 tok ?_
  iterate 2 refine op2 tok ?_
  iterate 2 refine op1 tok ?_
  refine qA (cnd ?_ ?_)
  ·intro h50
   try simp at h50
   have hv:qCP c=some (c.toNat-55):=by
    unfold qCP; rw [if_neg,if_neg,if_pos]
    ·rw [UInt8.le_iff_toNat_le,UInt8.le_iff_toNat_le]; exact ⟨by show 65≤c.toNat; omega,by show c.toNat≤70; omega⟩
    ·rw [UInt8.le_iff_toNat_le,UInt8.le_iff_toNat_le]; show ¬ (97≤c.toNat∧c.toNat≤102); omega
    rw [UInt8.le_iff_toNat_le,UInt8.le_iff_toNat_le]; show ¬ (48≤c.toNat∧c.toNat≤57); omega
   rw [hv] at hq
   simp only at hq
   have w1:=w8 (n:=(c.toNat:Int)-65) (by omega)
   refine rgz [] [[],[],[],[0,1,6,58,60],[],[],[0,1,6,63],[0,1,5,6]] ?_
   iterate 8 refine op1 tok ?_ (h:=by intro C; conv=>lhs; simp [w1])
   refine qA (rgz [] [[],[],[0,1,5,6]] ?_)
   iterate 3 refine op1 tok ?_
   refine qA ?_
   exact ⟨(d+1,16 * x+(c.toNat-55)),⟨by simp only []; omega,hq,by simp only []; omega⟩,by simp only []; omega,qE (by simp [show ((16 * x+(c.toNat-55):Nat):Int)=16 * (x:Int)+((c.toNat:Int)-65)+10 from by omega,show ((k+(d+1):Nat):Int)=(k:Int)+d+1 from by omega]),rfl,by simp [show ((16 * x+(c.toNat-55):Nat):Int)=16 * (x:Int)+((c.toNat:Int)-65)+10 from by omega,show ((k+(d+1):Nat):Int)=(k:Int)+d+1 from by omega],by simp [show ((16 * x+(c.toNat-55):Nat):Int)=16 * (x:Int)+((c.toNat:Int)-65)+10 from by omega,show ((k+(d+1):Nat):Int)=(k:Int)+d+1 from by omega]⟩
  intro h50
  try simp at h50
  have hv:qCP c=none:=by
   unfold qCP; rw [if_neg,if_neg,if_neg]
   ·rw [UInt8.le_iff_toNat_le,UInt8.le_iff_toNat_le]; show ¬ (65≤c.toNat∧c.toNat≤70); omega
   ·rw [UInt8.le_iff_toNat_le,UInt8.le_iff_toNat_le]; show ¬ (97≤c.toNat∧c.toNat≤102); omega
   rw [UInt8.le_iff_toNat_le,UInt8.le_iff_toNat_le]; show ¬ (48≤c.toNat∧c.toNat≤57); omega
  rw [hv] at hq
  simp only at hq
  rw [hq]
  refine rgn [] [[]] ?_
  refine op1 tok ?_
  exact qA (AW.ret qP)
 intro h17
 try simp at h17
 obtain rfl:d=4:=by omega
 simp only [Nat.sub_self,List.take_zero,qBO] at hq
 rw [hq]
 refine AW.exit ?_
 simp
 refine rgn [] [[],[4]] ?_
 iterate 2 refine op1 tok ?_
 exact qA (AW.ret qP)
theorem qCT (s:List UInt8) (k:Nat) : -1≤qAZ s k∧qAZ s k<65536:=by
 unfold qAZ
 split
 ·omega
 split
 ·rename_i x hx
  have h1:=qQT _ 0 x hx
  have h2:((s.drop k).take 4).length≤4:=by simp; omega
  have h3:16 ^ ((s.drop k).take 4).length≤16 ^ 4:=Nat.pow_le_pow_right (by decide) h2
  omega
 omega
theorem qSG {s:List UInt8} {k:Nat}:(s.drop k).take 2=[92,117]↔s[k]?=some 92∧s[k+1]?=some 117:=by
 have h0:(s.drop k)[0]?=s[k]?:=by simp
 have h1:(s.drop k)[1]?=s[k+1]?:=by simp
 rw [← h0,← h1]
 generalize s.drop k=t
 match t with
 | []=>simp
 | [a]=>simp
 | a::b::r=>simp
theorem qNN {s:List UInt8} {k:Nat} (h1:s[k]?=some 92) (h2:s[k+1]?=some 117):wQ (s.drop k)=if qAZ s (k+2)<0 then none else some (qAZ s (k+2)).toNat:=by
 unfold wQ qAZ
 rw [List.length_drop,List.drop_drop]
 by_cases h:s.length<k+2+4
 ·rw [if_pos (.inl (by omega)),if_pos h]; rfl
 rw [if_neg (by
  rintro (h' | h')
  ·omega
  exact h' (qSG.2 ⟨h1,h2⟩)),if_neg h]
 cases qBO ((s.drop (k+2)).take 4) 0 with
 | none=>rfl
 | some x=>simp only; rw [if_neg (by omega)]; simp
theorem qXX {s:List UInt8} {k:Nat} (h:¬ (s[k]?=some 92∧s[k+1]?=some 117)):wQ (s.drop k)=none:=by
 unfold wQ
 rw [if_pos (.inr fun h'=>h (qSG.1 h'))]
theorem qVN {s:List UInt8} {k:Nat} (h:s.length<k+2):wQ (s.drop k)=none:=by
 unfold wQ
 rw [if_pos (.inl (by rw [List.length_drop]; omega))]
def qJP (t:List UInt8):List UInt8 × Int:=if (yJ t).2.2=true then (Lib.encodeRune (yJ t).1,(yJ t).2.1-1) else ([],0)
theorem qHW {s : List UInt8} {k : Nat} {b c : UInt8} (h1 : s[k]? = some b) (h2 : s[k + 1]? = some c) : yJ (s.drop k) = match xS c with
  | some v=>(v,2,true)
  | none=>qHU (wQ (s.drop k)) (wQ (s.drop (k+6))):=by
 obtain ⟨hk,rfl⟩:=List.getElem?_eq_some_iff.1 h1
 obtain ⟨hk2,rfl⟩:=List.getElem?_eq_some_iff.1 h2
 have e:s.drop k=s[k]::s[k+1]::s.drop (k+2):=by rw [List.drop_eq_getElem_cons hk,List.drop_eq_getElem_cons hk2]
 rw [show s.drop (k+6)=(s.drop k).drop 6 by rw [List.drop_drop]]
 generalize hg:s.drop k=t at *
 subst e
 rfl
theorem zHX {v:Nat} (h:v<128):Lib.encodeRune v=[UInt8.ofNat v]:=by
 simp only [Lib.encodeRune,Lib.encodeRuneZ_one (r:=(v:Int)) (by omega) (by omega),List.map_cons,List.map_nil]
 rfl
theorem qUP {s:List UInt8} {k v:Nat} {b c:UInt8} (h1:s[k]?=some b) (h2:s[k+1]?=some c) (hv:xS c=some v) (h:v<128):qJP (s.drop k)=([UInt8.ofNat v],1):=by
 unfold qJP
 rw [qHW h1 h2,hv]
 simp only [if_true,zHX h]
 rfl
theorem zBE {s:List UInt8} {k:Nat} {b c:UInt8} (h1:s[k]?=some b) (h2:s[k+1]?=some c) (hv:xS c=none) (hc:c≠117):qJP (s.drop k)=([],0):=by
 unfold qJP
 rw [qHW h1 h2,hv]
 simp only
 rw [qXX (fun h=>by rw [h2] at h; exact hc (Option.some.inj h.2))]
 rfl
theorem zKJ {s : List UInt8} {k : Nat} (h1 : s[k]? = some 92) (h2 : s[k + 1]? = some 117) {X Y : Int} (hX : X = qAZ s (k + 2)) (hY : wQ (s.drop (k + 6)) = if Y < 0 then none else some Y.toNat) (hY2 : Y < 65536) :
  qJP (s.drop k)=if X<0∨(56320≤X∧X<57344) then ([],0) else if X<55296∨57344≤X then (Lib.encodeRune X.toNat,5) else if Y<56320∨57344≤Y then ([],0) else (Lib.encodeRune ((65536+1024 * (X-55296)+Y-56320).toNat:Nat),11):=by
 have hb:=qCT s (k+2)
 rw [← hX] at hb
 unfold qJP
 rw [qHW h1 h2,show xS 117=none from rfl]
 simp only
 rw [qNN h1 h2,hY,← hX]
 generalize hU:(if X<0 then none else some X.toNat)=U
 generalize hW:(if Y<0 then none else some Y.toNat)=W
 by_cases c1:X<0
 ·rw [if_pos c1] at hU
  subst hU
  rw [if_pos (show X<0∨(56320≤X∧X<57344) from .inl c1)]; rfl
 rw [if_neg c1] at hU
 subst hU
 by_cases c2:56320≤X∧X<57344
 ·have hE:qHU (some X.toNat) W=(X.toNat,6,false):=by
   unfold qHU
   rw [if_pos (.inr (by simp only [Option.getD_some]; omega))]
   simp only [Option.isSome_some,Option.getD_some,Bool.true_and]
   rw [show decide (X.toNat / 1024≠55)=false by simp; omega]
  rw [hE,if_pos (show X<0∨(56320≤X∧X<57344) from .inr c2)]; rfl
 rw [if_neg (show ¬ (X<0∨(56320≤X∧X<57344)) by omega)]
 by_cases c3:X<55296∨57344≤X
 ·have hE:qHU (some X.toNat) W=(X.toNat,6,true):=by
   unfold qHU
   rw [if_pos (.inr (by simp only [Option.getD_some]; omega))]
   simp only [Option.isSome_some,Option.getD_some,Bool.true_and]
   rw [show decide (X.toNat / 1024≠55)=true by simp; omega]
  rw [hE,if_pos (show X<55296∨57344≤X from c3)]; rfl
 have hE:qHU (some X.toNat) W=(65536+X.toNat % 1024 * 1024+W.getD 0 % 1024,12,W.isSome && decide (W.getD 0 / 1024=55)):=by
  unfold qHU
  rw [if_neg (by simp only [Option.getD_some,Option.isSome_some]; rintro (h | h); cases h; omega)]
  rfl
 rw [hE,if_neg (show ¬ (X<55296∨57344≤X) from c3)]
 by_cases c4:Y<0
 ·rw [if_pos c4] at hW
  subst hW
  rw [if_pos (show Y<56320∨57344≤Y by omega)]; rfl
 rw [if_neg c4] at hW
 subst hW
 simp only [Option.isSome_some,Option.getD_some,Bool.true_and]
 by_cases c5:Y<56320∨57344≤Y
 ·rw [if_pos c5,if_neg (show ¬ (decide (Y.toNat / 1024=55)=true) by simp; omega)]
 rw [if_neg c5,if_pos (show decide (Y.toNat / 1024=55)=true by simp; omega)]
 rw [show 65536+X.toNat % 1024 * 1024+Y.toNat % 1024=(65536+1024 * (X-55296)+Y-56320).toNat by omega]
 rfl
theorem qWZ {s:List UInt8} {k:Nat} (h:s.length<k+2):qJP (s.drop k)=([],0):=by
 have hl:(s.drop k).length<2:=by rw [List.length_drop]; omega
 generalize s.drop k=t at *
 match t,hl with
 | [],_=>rfl
 | [a],_=>rfl
theorem qWY (s:List UInt8) (k:Nat) (hs:s.length≤1000000000) (hk:s[k]?=some 92):AFn Tryz.prog G 129 [.str s,.int .i64 (k+1:Nat)] (.tup [.str (qJP (s.drop k)).1,.int .i64 (qJP (s.drop k)).2]):=by
 refine AFn.introU tok Tryz.func129 (by kernel_rfl) rfl rfl ?_
 simp only [Tryz.f129,qO,List.map_cons,List.map_nil]
 have hkl:=(List.getElem?_eq_some_iff.1 hk).1
 refine rgn [] [[],[0,1]] ?_
 iterate 2 refine op1 tok ?_
 refine qA (AW.seq (rgn [] [[],[],[],[0,1,11]] ?_))
 iterate 4 refine op1 tok ?_
 refine qA (cnd ?_ ?_)
 ·intro h11
  try simp at h11
  rw [qWZ (by omega)]
  refine rgn [] [[],[]] ?_
  iterate 2 refine op1 tok ?_
  exact qA (AW.ret qP)
 intro h11
 try simp at h11
 obtain ⟨c,hc⟩:∃ c,s[k+1]?=some c:=⟨s[k+1]'(by omega),List.getElem?_eq_getElem _⟩
 have l34:((c.toNat:Int)=34)↔c=34:=zS c 34 (by decide)
 have l92:((c.toNat:Int)=92)↔c=92:=zS c 92 (by decide)
 have l47:((c.toNat:Int)=47)↔c=47:=zS c 47 (by decide)
 have l98:((c.toNat:Int)=98)↔c=98:=zS c 98 (by decide)
 have l102:((c.toNat:Int)=102)↔c=102:=zS c 102 (by decide)
 have l110:((c.toNat:Int)=110)↔c=110:=zS c 110 (by decide)
 have l114:((c.toNat:Int)=114)↔c=114:=zS c 114 (by decide)
 have l116:((c.toNat:Int)=116)↔c=116:=zS c 116 (by decide)
 have l117:((c.toNat:Int)=117)↔c=117:=zS c 117 (by decide)
 have hes:=fun v (h:xS c=some v) (h2:v<128)=>qUP hk hc h h2
 have hel:=fun (h:xS c=none) (h2:c≠117)=>zBE hk hc h h2
 have heu:=fun (h:c=117) (X Y:Int) hX hY=>zKJ hk (by rw [hc,h]) (X:=X) (Y:=Y) hX hY
 have hus:=qVN (s:=s) (k:=k+6)
 have hun:=qXX (s:=s) (k:=k+6)
 have huf:=qNN (s:=s) (k:=k+6)
 have hsl:(s.take (k+1+1)).drop (k+1)=[c]:=by
  have h:=List.getElem?_eq_some_iff.1 hc
  rw [List.drop_take,List.drop_eq_getElem_cons h.1,h.2,show k+1+1-(k+1)=1 by omega]; rfl
 have hsl2:(s.take ((k:Int)+1+1).toNat).drop (k+1)=[c]:=by rw [show ((k:Int)+1+1).toNat=k+1+1 by omega]; exact hsl
 generalize qJP (s.drop k)=E at *
 generalize wQ (s.drop (k+6))=W at *
 refine AW.skip (AW.seq (rgn [.int .u8 c.toNat] [[],[],[0,1,14]] ?_))
 iterate 3 refine op1 tok ?_ (hv:=by first | with_reducible exact True.intro | (exact ⟨by omega,c,hc,rfl⟩; done) | omega | simp | (simp +contextual; omega))
 refine qA (AW.block ?_)
 refine AW.join (α:=Bool) (fun b=>b=decide (c=34∨c=92∨c=47)) (fun b=>⟨zI 95 [(0,.p (.str s)),(1,.p (.int .i64 (k+1:Nat))),(14,.p (.int .u8 c.toNat)),(15,.p (.bool b))],[],[],0⟩) ?_ ?_
 ·
  refine rgn [] [[],[0,1,14,15]] ?_
  iterate 2 refine op1 tok ?_
  refine qA (cnd ?_ ?_)
  ·intro h15
   try simp at h15
   refine AW.skip ?_
   exact ⟨true,by simp [l34.1 h15],qE (by simp [h15]),rfl,by simp [h15],by simp [h15]⟩
  intro h15
  try simp at h15
  refine rgn [] [[],[0,1,14,15]] ?_
  iterate 2 refine op1 tok ?_
  refine qA (cnd ?_ ?_)
  ·intro h15
   try simp at h15
   refine AW.skip ?_
   exact ⟨true,by simp [l92.1 h15],qE (by simp [h15]),rfl,by simp [h15],by simp [h15]⟩
  intro h15
  try simp at h15
  refine rgz [] [[],[0,1,14,15]] ?_
  iterate 2 refine op1 tok ?_
  refine qA ?_
  exact ⟨decide (c=47),by simp_all,qE (by simp [l47]),rfl,by simp [l47],by simp [l47]⟩
 ·
  rintro b hb
  refine cnd ?_ ?_
  ·intro h15
   try simp at h15
   subst hb
   have hcc:xS c=some c.toNat:=by
    have hb':c=34∨c=92∨c=47:=by simpa using h15
    rcases hb' with rfl | rfl | rfl <;> rfl
   have hcl:c.toNat<128:=by
    have hb':c=34∨c=92∨c=47:=by simpa using h15
    rcases hb' with rfl | rfl | rfl <;> decide
   rw [hes _ hcc hcl]
   refine rgn [] [[],[],[],[],[23],[],[4,5]] ?_
   iterate 7 refine op1 tok ?_ (h:=by intro C; conv=>lhs; simp [hsl2])
   exact qA (AW.ret qP)
  intro h15
  try simp at h15
  subst hb
  have n1:¬ (c=34∨c=92∨c=47):=by simpa using h15
  clear l34 l92 l47 h15
  refine rgn [] [[],[0,1,14,24]] ?_
  iterate 2 refine op1 tok ?_
  refine qA (cnd ?_ ?_)
  ·intro h24
   try simp at h24
   have hcc:xS c=some 8:=by rw [l98.1 h24]; rfl
   rw [hes _ hcc (by decide)]
   refine rgn [] [[],[]] ?_
   iterate 2 refine op1 tok ?_
   exact qA (AW.ret qP)
  intro h24
  try simp at h24
  refine rgn [] [[],[0,1,14,26]] ?_
  iterate 2 refine op1 tok ?_
  refine qA (cnd ?_ ?_)
  ·intro h26
   try simp at h26
   have hcc:xS c=some 12:=by rw [l102.1 h26]; rfl
   rw [hes _ hcc (by decide)]
   refine rgn [] [[],[]] ?_
   iterate 2 refine op1 tok ?_
   exact qA (AW.ret qP)
  intro h26
  try simp at h26
  refine rgn [] [[],[0,1,14,28]] ?_
  iterate 2 refine op1 tok ?_
  refine qA (cnd ?_ ?_)
  ·intro h28
   try simp at h28
   have hcc:xS c=some 10:=by rw [l110.1 h28]; rfl
   rw [hes _ hcc (by decide)]
   refine rgn [] [[],[]] ?_
   iterate 2 refine op1 tok ?_
   exact qA (AW.ret qP)
  intro h28
  try simp at h28
  refine rgn [] [[],[0,1,14,30]] ?_
  iterate 2 refine op1 tok ?_
  refine qA (cnd ?_ ?_)
  ·intro h30
   try simp at h30
   have hcc:xS c=some 13:=by rw [l114.1 h30]; rfl
   rw [hes _ hcc (by decide)]
   refine rgn [] [[],[]] ?_
   iterate 2 refine op1 tok ?_
   exact qA (AW.ret qP)
  intro h30
  try simp at h30
  refine rgn [] [[],[0,1,14,32]] ?_
  iterate 2 refine op1 tok ?_
  refine qA (cnd ?_ ?_)
  ·intro h32
   try simp at h32
   have hcc:xS c=some 9:=by rw [l116.1 h32]; rfl
   rw [hes _ hcc (by decide)]
   refine rgn [] [[],[]] ?_
   iterate 2 refine op1 tok ?_
   exact qA (AW.ret qP)
  intro h32
  try simp at h32
  have hcn:xS c=none:=by
   unfold xS
   simp only [not_or] at n1
   rw [if_neg n1.1,if_neg n1.2.1,if_neg n1.2.2,if_neg fun h=>h24 (l98.2 h),if_neg fun h=>h26 (l102.2 h),if_neg fun h=>h28 (l110.2 h),if_neg fun h=>h30 (l114.2 h),if_neg fun h=>h32 (l116.2 h)]
  have hel:=hel hcn
  clear hes n1 h24 h26 h28 h30 h32 l98 l102 l110 l114 l116
  refine rgn [] [[],[0,1,34]] ?_
  iterate 2 refine op1 tok ?_
  refine qA (cnd ?_ ?_)
  ·intro h34
   try simp at h34
   have hf1:=qUJ (G:=G) s (k+2) (by omega) (by omega)
   have hf2:=qUJ (G:=G) s (k+8) (by omega) (by omega)
   have hb1:=qCT s (k+2)
   have hb2:=qCT s (k+8)
   have hc7:=l117.1 h34
   obtain ⟨Y,hY,hY0,hY2,hYT,hYF⟩:∃ Y:Int,(W=if Y<0 then none else some Y.toNat) ∧ -1≤Y∧Y<65536∧(s[k+6]?=some 92∧s[k+6+1]?=some 117→Y=qAZ s (k+8))∧(¬ (s[k+6]?=some 92∧s[k+6+1]?=some 117)→Y = -1):=by
    by_cases h:s[k+6]?=some 92∧s[k+6+1]?=some 117
    ·exact ⟨qAZ s (k+8),huf h.1 h.2,hb2.1,hb2.2,fun _=>rfl,fun h'=>absurd h h'⟩
    exact ⟨-1,by rw [hun h]; rfl,by omega,by omega,fun h'=>absurd h' h,fun _=>rfl⟩
   have heu:=heu hc7 _ Y rfl hY hY2
   have g6:k+8≤s.length→s[k+6]?=some (s.getD (k+6) 0)∧s[k+6+1]?=some (s.getD (k+7) 0):=fun h=>by
    rw [List.getD_eq_getElem?_getD,List.getD_eq_getElem?_getD,List.getElem?_eq_getElem (show k+6<s.length by omega),List.getElem?_eq_getElem (show k+7<s.length by omega)]; exact ⟨rfl,rfl⟩
   have g7:s[k+6]?=some 92∧s[k+6+1]?=some 117→k+8≤s.length:=fun h=>by have:=(List.getElem?_eq_some_iff.1 h.2).1; omega
   generalize s.getD (k+6) 0=c6 at *
   generalize s.getD (k+7) 0=c7 at *
   have m92:((c6.toNat:Int)=92)↔c6=92:=zS c6 92 (by decide)
   have m117:((c7.toNat:Int)=117)↔c7=117:=zS c7 117 (by decide)
   clear hel hus hun huf hY hb2
   generalize qAZ s (k+2)=X at *
   generalize qAZ s (k+8)=X8 at *
   refine rgn [.nilp,.int .i64 X] [[],[],[],[],[0,1,6]] ?_
   iterate 5 refine op1 tok ?_ (hv:=by first | with_reducible exact True.intro | (first | exact hf1 | (simpa [show ((k+2:Nat):Int)=(k:Int)+1+1 by omega] using hf1); done) | omega | simp | (simp +contextual; omega))
   refine qA (AW.seq (rgn [] [[],[],[],[],[],[0,1,6,42,45],[],[],[],[0,1,6,49]] ?_))
   iterate 3 refine op1 tok ?_
   iterate 6 refine op2 tok ?_
   refine op1 tok ?_
   refine qA (cnd ?_ ?_)
   ·intro h49
    try simp at h49
    rw [if_pos (by omega)] at heu
    subst heu
    refine rgn [] [[],[]] ?_
    iterate 2 refine op1 tok ?_
    exact qA (AW.ret qP)
   intro h49
   try simp at h49
   rw [if_neg (by omega)] at heu
   refine AW.skip (AW.seq (rgn [] [[],[],[],[],[],[0,1,6,55]] ?_))
   iterate 3 refine op1 tok ?_
   iterate 2 refine op2 tok ?_
   refine op1 tok ?_
   refine qA (cnd ?_ ?_)
   ·intro h55
    try simp at h55
    rw [if_pos (by omega),show ((X.toNat:Nat):Int)=X by omega] at heu
    subst heu
    have hw:=qNJ (G:=G) X.toNat (by omega) (by omega)
    rw [show ((X.toNat:Nat):Int)=X by omega] at hw
    refine rgn [.nilp,.str (Lib.encodeRune X)] [[],[],[],[4,5]] ?_
    iterate 4 refine oq1 tok hw ?_
    exact qA (AW.ret qP)
   intro h55
   try simp at h55
   rw [if_neg (by omega)] at heu
   refine AW.skip (rgn [] [[]] ?_)
   refine op1 tok ?_
   refine qA ?_
   refine AW.join (α:=Unit) (fun _=>True) (fun _=>⟨zI 95 [(6,.p (.int .i64 X)),(7,.p (.int .i64 Y))],[],[],0⟩) ?_ ?_
   ·
    refine rgn [.int .u8 c6.toNat,.int .u8 c7.toNat] [[],[],[],[],[0,1,6,7,62],[],[],[],[],[0,1,6,7,63,67],[],[],[0,1,6,7,70],[],[],[],[],[0,1,6,7,70,75],[0,1,6,7,76]] ?_
    iterate 19 first | refine op1 tok ?_ (hv:=by first | with_reducible exact True.intro | (first | exact fun h=>⟨h,by omega,c6,by rw [show ((k:Int)+1+5).toNat=k+6 by omega]; exact (g6 (by omega)).1,rfl⟩ | exact fun h h'=>⟨⟨h,h'⟩,by omega,c7,by rw [show ((k:Int)+1+6).toNat=k+6+1 by omega]; exact (g6 (by omega)).2,rfl⟩ | (intros; omega); done) | omega | simp | (simp +contextual; omega)) | refine op2 tok ?_ (hv:=by first | with_reducible exact True.intro | (first | exact fun h=>⟨h,by omega,c6,by rw [show ((k:Int)+1+5).toNat=k+6 by omega]; exact (g6 (by omega)).1,rfl⟩ | exact fun h h'=>⟨⟨h,h'⟩,by omega,c7,by rw [show ((k:Int)+1+6).toNat=k+6+1 by omega]; exact (g6 (by omega)).2,rfl⟩ | (intros; omega); done) | omega | simp | (simp +contextual; omega))
    refine qA (cnd ?_ ?_)
    ·intro h76
     try simp at h76
     have hY8:X8=Y:=by
      refine (hYT ?_).symm
      have:=g6 (by omega)
      rw [m92.1 (by omega),m117.1 (by omega)] at this
      exact this
     refine rgz [.nilp,.int .i64 X8] [[],[],[],[6,80],[6,7]] ?_
     iterate 5 refine op1 tok ?_ (hv:=by first | with_reducible exact True.intro | (first | exact hf2 | (simpa [show ((k+8:Nat):Int)=(k:Int)+1+7 by omega] using hf2); done) | omega | simp | (simp +contextual; omega))
     refine qA ?_
     exact ⟨(),trivial,qE (by simp [hY8]),rfl,by simp [hY8],by simp [hY8]⟩
    intro h76
    try simp at h76
    have hY1:(-1:Int)=Y:=by
     refine (hYF fun h => ?_).symm
     have h8:=g7 h
     have h9:=g6 h8
     rw [h.1,h.2] at h9
     exact absurd h76 (by simp [m92.2 (Option.some.inj h9.1).symm,m117.2 (Option.some.inj h9.2).symm]; omega)
    refine AW.skip ?_
    exact ⟨(),trivial,qE (by simp [hY1]),rfl,by simp [hY1],by simp [hY1]⟩
   ·
    rintro _ _
    refine AW.seq (rgn [] [[],[],[],[],[],[6,7,86]] ?_)
    iterate 3 refine op1 tok ?_
    iterate 2 refine op2 tok ?_
    refine op1 tok ?_
    refine qA (cnd ?_ ?_)
    ·intro h86
     try simp at h86
     rw [if_pos (by omega)] at heu
     subst heu
     refine rgn [] [[],[]] ?_
     iterate 2 refine op1 tok ?_
     exact qA (AW.ret qP)
    intro h86
    try simp at h86
    rw [if_neg (by omega),show (((65536+1024 * (X-55296)+Y-56320).toNat:Nat):Int)=65536+1024 * (X-55296)+Y-56320 by omega] at heu
    subst heu
    have hw:=qNJ (G:=G) (65536+1024 * (X-55296)+Y-56320).toNat (by omega) (by omega)
    rw [show (((65536+1024 * (X-55296)+Y-56320).toNat:Nat):Int)=65536+1024 * (X-55296)+Y-56320 by omega] at hw
    refine AW.skip (rgn [.nilp,.str (Lib.encodeRune (65536+1024 * (X-55296)+Y-56320))] [[],[],[],[7,90],[],[],[93],[],[],[4,5]] ?_)
    iterate 10 refine oq1 tok hw ?_
    exact qA (AW.ret qP)
  intro h34
  try simp at h34
  rw [hel fun h=>h34 (l117.2 h)]
  refine AW.skip (rgn [] [[],[]] ?_)
  iterate 2 refine op1 tok ?_
  exact qA (AW.ret qP)
theorem qZW {s:List UInt8} {i:Nat} {c:UInt8} (h:s[i]?=some c) (hc:¬ c.toNat<128):(wG s i).2≠1:=by
 unfold wG
 rw [h]
 simp only
 rw [if_neg (by omega)]
 unfold kV
 split
 ·decide
 rename_i h0
 have hn:(kN c.toNat).1=0∨2≤(kN c.toNat).1:=by
  unfold kN
  repeat' split
  all_goals simp
 unfold qLA
 split
 ·simp
 split
 ·simp
 simp only; omega
theorem qUT {s:List UInt8} {k:Nat} (hk:k<s.length):Lib.decodeL (s.drop k)=if (wG s k).2=0 then (65533,1) else ((wG s k).1.toNat,(wG s k).2.toNat):=by
 unfold Lib.decodeL
 rw [qSX (by rw [List.length_drop]; omega),← qVX]
theorem qNM {s : List UInt8} (hne : s ≠ []) (f k : Nat) (out : List UInt8) : wU (f + 1) s k out = if (Lib.decodeL s).1 = 34 then (if 4096 < out.length then ([], 0, 3) else (out, k + 1, 0)) else if (Lib.decodeL s).1 < 32 ∨ ((Lib.decodeL s).1 = 65533 ∧ (Lib.decodeL s).2 = 1) then ([], 0, 6)
  else if (Lib.decodeL s).1=92 then (match qHV s with
   | none=>([],0,6)
   | some (c,n)=>wU f (s.drop n) (k+n) (out++Lib.encodeRune c))
  else wU f (s.drop (Lib.decodeL s).2) (k+(Lib.decodeL s).2) (out++Lib.encodeRune (Lib.decodeL s).1):=by
 simp only [wU]; rw [if_neg hne] <;> rfl
theorem qZR (f k:Nat) (out:List UInt8):wU f [] k out=([],0,6):=by cases f <;> rfl
theorem zCH {s : List UInt8} {k : Nat} {c : UInt8} (hc : s[k]? = some c) (h34 : c ≠ 34) (h92 : c ≠ 92) (f : Nat) (out : List UInt8) : wU (f + 1) (s.drop k) k out =
  if (wG s k).2=0∨(wG s k).1<32 then ([],0,6) else wU f (s.drop (k+(wG s k).2.toNat)) (k+(wG s k).2.toNat) (out++(s.drop k).take (wG s k).2.toNat):=by
 have hk:=(List.getElem?_eq_some_iff.1 hc).1
 have hne:s.drop k≠[]:=by intro e; have:=congrArg List.length e; simp at this; omega
 have hd:=qUT hk
 have hcons:∃ t,s.drop k=c::t:=⟨s.drop (k+1),by rw [List.drop_eq_getElem_cons hk,(List.getElem?_eq_some_iff.1 hc).2]⟩
 have hlen:=qNS s k hk
 rw [qNM hne,List.drop_drop]
 have t34:c.toNat=34→c=34:=fun h=>UInt8.toNat_inj.1 h
 have t92:c.toNat=92→c=92:=fun h=>UInt8.toNat_inj.1 h
 by_cases hlt:c.toNat<128
 ·obtain ⟨t,ht⟩:=hcons
  have h1:Lib.decodeL (s.drop k)=(c.toNat,1):=by rw [ht]; exact jV hlt
  have h2:(wG s k).2≠0:=fun h0=>by rw [h1,if_pos h0] at hd; have:=congrArg Prod.fst hd; simp only at this; omega
  have h3:(wG s k).1.toNat=c.toNat∧(wG s k).2.toNat=1:=by rw [h1,if_neg h2] at hd; exact ⟨(congrArg Prod.fst hd).symm,(congrArg Prod.snd hd).symm⟩
  have h4:(wG s k).1=c.toNat:=by
   unfold wG; rw [hc]; simp only; rw [if_pos (by omega)]
  rw [h1]
  simp only
  rw [if_neg (fun h=>h34 (t34 h)),h3.2]
  by_cases h32:c.toNat<32
  ·rw [if_pos (.inl h32),if_pos (.inr (by omega))]
  rw [if_neg (by omega),if_neg (fun h=>h92 (t92 h)),if_neg (by omega)]
  have:Lib.encodeRune (c.toNat:Int)=(s.drop k).take 1:=by rw [qFZ hlt,ht]; rfl
  rw [this]
 by_cases h0:(wG s k).2=0
 ·rw [if_pos h0] at hd
  rw [hd]
  simp only
  rw [if_neg (by omega),if_pos (.inr (by simp)),if_pos (.inl h0)]
 have h1:=qZW hc hlt
 rw [if_neg h0] at hd
 have hbad:¬ ((Lib.decodeL (s.drop k)).1=65533∧(Lib.decodeL (s.drop k)).2=1):=by rw [hd]; simp only; omega
 have h128:128≤((s.drop k).getD 0 0).toNat:=by
  obtain ⟨t,ht⟩:=hcons
  rw [ht]; show 128≤c.toNat; omega
 have hbig:=(qIA (s.drop k) hne hbad h128).2
 have henc:=Lib.encode_decode (s.drop k) hne hbad
 rw [if_neg (by omega),if_neg (by rintro (h | h); omega; exact hbad h),if_neg (by omega),henc,hd]
 rw [hd] at hbig
 simp only at hbig ⊢
 rw [if_neg (show ¬ ((wG s k).2=0∨(wG s k).1<32) by omega)]
theorem qSB (s:List UInt8) (hs:s.length≤1000000000):AFn Tryz.prog G 94 [.str s] (.tup [.str (qU s).1,.int .i64 (qU s).2.1,.int .i64 (qU s).2.2]):=by
 refine AFn.introU tok Tryz.func94 (by kernel_rfl) rfl rfl ?_
 simp only [Tryz.f94,qO,List.map_cons,List.map_nil]
 have hun:qU s=if s.head?=some 34 then wU s.length (s.drop 1) 1 [] else ([],0,6):=rfl
 have hh:s.head?=s[0]?:=by cases s <;> rfl
 have hg0:s.length≠0→s[0]?=some (s.getD 0 0):=fun h=>by cases s with
  | nil=>exact absurd rfl h
  | cons b r=>rfl
 rw [hh] at hun
 generalize s.getD 0 0=c0 at *
 have l0:((c0.toNat:Int)=34)↔c0=34:=zS c0 34 (by decide)
 refine rgn [] [[],[],[0]] ?_
 iterate 3 refine op1 tok ?_
 refine qA (AW.seq (rgn [.int .u8 c0.toNat] [[],[],[],[],[],[0,14,16],[],[0,18]] ?_))
 iterate 4 refine op1 tok ?_ (hv:=by first | with_reducible exact True.intro | (exact fun h=>⟨h,c0,hg0 (by simpa using h),rfl⟩; done) | omega | simp | (simp +contextual; omega))
 iterate 3 refine op2 tok ?_ (hv:=by first | with_reducible exact True.intro | (exact fun h=>⟨h,c0,hg0 (by simpa using h),rfl⟩; done) | omega | simp | (simp +contextual; omega))
 refine op1 tok ?_ (hv:=by first | with_reducible exact True.intro | (exact fun h=>⟨h,c0,hg0 (by simpa using h),rfl⟩; done) | omega | simp | (simp +contextual; omega))
 refine qA (cnd ?_ ?_)
 ·intro h18
  try simp at h18
  rw [if_neg (fun h=>by
   have hne:s.length≠0:=by rintro h'; rw [List.length_eq_zero_iff.1 h'] at h; cases h
   rw [hg0 hne] at h
   rcases h18 with h' | h'
   ·exact hne (by rw [h']; rfl)
   exact h' (l0.2 (Option.some.inj h)))] at hun
  rw [hun]
  refine rgn [] [[],[],[]] ?_
  iterate 3 refine op1 tok ?_
  exact qA (AW.ret qP)
 intro h18
 try simp at h18
 rw [if_pos (by rw [hg0 (fun h=>h18.1 (List.length_eq_zero_iff.1 h)),l0.1 h18.2])] at hun
 refine AW.skip (rgn [] [[]] ?_)
 refine op1 tok ?_
 refine qA (rgn [] [[]] ?_)
 refine op1 tok ?_
 refine qA (AW.seq (AW.block ?_))
 refine AW.loop (α:=Nat × List UInt8 × Nat) (fun a=>1≤a.1∧qU s=wU a.2.2 (s.drop a.1) a.1 a.2.1∧s.length≤a.1+a.2.2∧a.2.1.length≤4 * a.1∧a.1≤2000000000) (fun a=>⟨zI 76 [(0,.p (.str s)),(5,.p (.str a.2.1)),(6,.p (.int .i64 a.1))],[],[],0⟩) (fun a=>s.length-a.1) ((1,[],s.length)) ⟨Nat.le_refl _,hun,by simp only []; omega,by simp,by simp⟩ ⟨qE (by simp),rfl,by simp,by simp⟩ ?_
 rintro ⟨k,out,f⟩ ⟨hk1,hq,hf,ho,hkb⟩
 simp only at hk1 hq hf ho hkb
 refine AW.seq (rgn [] [[],[],[],[0,5,6,22]] ?_)
 iterate 4 refine op1 tok ?_
 refine qA (cnd ?_ ?_)
 ·intro h22
  try simp at h22
  obtain ⟨c,hc⟩:∃ c,s[k]?=some c:=⟨s[k]'(by omega),List.getElem?_eq_getElem _⟩
  obtain ⟨g,rfl⟩:∃ g,f=g+1:=⟨f-1,by omega⟩
  have hkl:=(List.getElem?_eq_some_iff.1 hc).1
  have hne:s.drop k≠[]:=by intro e; have:=congrArg List.length e; simp at this; omega
  have hcons:s.drop k=c::s.drop (k+1):=by rw [List.drop_eq_getElem_cons hkl,(List.getElem?_eq_some_iff.1 hc).2]
  have l34:((c.toNat:Int)=34)↔c=34:=zS c 34 (by decide)
  have l92:((c.toNat:Int)=92)↔c=92:=zS c 92 (by decide)
  have hst:=qNM hne g k out
  have hru:=fun h1 h2=>zCH hc h1 h2 g out
  refine AW.skip (AW.block (AW.seq (rgn [.int .u8 c.toNat] [[],[],[],[0,5,6,26]] ?_)))
  iterate 4 refine op1 tok ?_ (hv:=by first | with_reducible exact True.intro | (exact ⟨c,hc,rfl⟩; done) | omega | simp | (simp +contextual; omega))
  refine qA (cnd ?_ ?_)
  ·intro h26
   try simp at h26
   have hd:Lib.decodeL (s.drop k)=(34,1):=by rw [hcons,l34.1 h26]; exact jV (by decide)
   rw [hst,hd,if_pos rfl] at hq
   refine AW.seq (rgn [] [[],[],[5,6,29]] ?_)
   iterate 3 refine op1 tok ?_
   refine qA (cnd ?_ ?_)
   ·intro h29
    try simp at h29
    rw [if_pos (by omega)] at hq
    rw [hq]
    refine rgn [] [[],[],[]] ?_
    iterate 3 refine op1 tok ?_
    exact qA (AW.ret qP)
   intro h29
   try simp at h29
   rw [if_neg (by omega)] at hq
   rw [hq]
   refine AW.skip (rgn [] [[],[],[],[2,32],[],[2,3,4]] ?_)
   iterate 6 refine op1 tok ?_
   exact qA (AW.ret qP)
  intro h26
  try simp at h26
  refine AW.skip (AW.seq (rgn [.int .u8 c.toNat] [[],[],[],[0,5,6,36]] ?_))
  iterate 4 refine op1 tok ?_ (hv:=by first | with_reducible exact True.intro | (exact ⟨c,hc,rfl⟩; done) | omega | simp | (simp +contextual; omega))
  refine qA (cnd ?_ ?_)
  ·intro h36
   try simp at h36
   have hd:Lib.decodeL (s.drop k)=(92,1):=by rw [hcons,l92.1 h36]; exact jV (by decide)
   rw [hst,hd,if_neg (by decide),if_neg (by decide),if_pos rfl] at hq
   have hes:=qWY (G:=G) s k hs (by rw [hc,l92.1 h36])
   have hEL:qHV (s.drop k)=if (yJ (s.drop k)).2.2=true then some ((yJ (s.drop k)).1,(yJ (s.drop k)).2.1) else none:=rfl
   have hEO:=qQZ (s:=s.drop k)
   have h3:qJP (s.drop k)=if (yJ (s.drop k)).2.2=true then (Lib.encodeRune (yJ (s.drop k)).1,((yJ (s.drop k)).2.1:Int)-1) else ([],0):=rfl
   rw [hEL] at hq
   generalize yJ (s.drop k)=q at *
   obtain ⟨r,w,ok⟩:=q
   simp only at hEO h3 hq
   have hel:=qGL r
   generalize qJP (s.drop k)=E at *
   refine rgn [.nilp,.tup [.str E.1,.int .i64 E.2]] [[],[],[],[],[0,5,6,37],[],[],[],[0,5,6,7,8]] ?_
   iterate 9 refine oq1 tok hes ?_
   refine qA (AW.seq (rgn [] [[],[0,5,6,7,8,45]] ?_))
   iterate 2 refine op1 tok ?_
   refine qA (cnd ?_ ?_)
   ·intro h45
    try simp at h45
    have hok:ok=false:=by cases ok with
     | false=>rfl
     | true=>have:=(hEO rfl).2.2; rw [h3] at h45; simp at h45; omega
    subst hok
    simp only [Bool.false_eq_true,if_false] at hq
    rw [hq]
    refine rgn [] [[],[],[]] ?_
    iterate 3 refine op1 tok ?_
    exact qA (AW.ret qP)
   intro h45
   try simp at h45
   have hok:ok=true:=by cases ok with
    | true=>rfl
    | false=>rw [h3] at h45; simp at h45
   subst hok
   have hEO:=hEO rfl
   simp only [if_true] at hq h3
   subst h3
   rw [List.drop_drop] at hq
   refine AW.skip (rgn [] [[],[],[0,6,8,48],[0,5,6,8]] ?_)
   iterate 4 refine op1 tok ?_
   refine qA (rgn [] [[],[],[],[0,5,52],[0,5,6]] ?_)
   iterate 5 refine op1 tok ?_
   refine qA ?_
   refine AW.exit ?_
   simp [-Prod.exists]
   exact ⟨(k+w,out++Lib.encodeRune r,g),⟨by simp only []; omega,hq,by simp only []; omega,by simp only [List.length_append]; omega,by simp only []; omega⟩,by simp only []; omega,qE (by simp [show ((k+w:Nat):Int)=(k:Int)+1+((w:Int)-1) from by omega]),rfl,by simp [show ((k+w:Nat):Int)=(k:Int)+1+((w:Int)-1) from by omega],by simp [show ((k+w:Nat):Int)=(k:Int)+1+((w:Int)-1) from by omega]⟩
  intro h36
  try simp at h36
  have hru:=hru (fun h=>h26 (l34.2 h)) (fun h=>h36 (l92.2 h))
  have hR:=zIN (G:=G) s k hkl hs
  have hRl:=qNS s k hkl
  rw [hru] at hq
  clear hru hst
  generalize wG s k=R at *
  obtain ⟨x,n⟩:=R
  simp only at hq hRl hR
  refine AW.skip (rgn [.nilp,.tup [.int .i64 x,.int .i64 n]] [[],[],[],[],[],[0,5,6,57,58],[],[0,5,6,9,10]] ?_)
  iterate 8 refine oq1 tok hR ?_
  refine qA (AW.seq (rgn [] [[],[],[],[],[0,5,6,10,61,63],[0,5,6,10,64]] ?_))
  iterate 3 refine op1 tok ?_
  iterate 2 refine op2 tok ?_
  refine op1 tok ?_
  refine qA (cnd ?_ ?_)
  ·intro h64
   try simp at h64
   rw [if_pos (by omega)] at hq
   rw [hq]
   refine rgn [] [[],[],[]] ?_
   iterate 3 refine op1 tok ?_
   exact qA (AW.ret qP)
  intro h64
  try simp at h64
  rw [if_neg (by omega)] at hq
  obtain ⟨m,rfl⟩:∃ m:Nat,n=m:=⟨n.toNat,by omega⟩
  simp only [Int.toNat_natCast] at hq
  have hsl:(s.take (k+m)).drop k=(s.drop k).take m:=by rw [List.drop_take,Nat.add_sub_cancel_left]
  have hsl2:(s.take ((k:Int)+m).toNat).drop k=(s.drop k).take m:=by rw [show ((k:Int)+m).toNat=k+m by omega]; exact hsl
  refine AW.skip (rgn [] [[],[],[],[],[],[],[0,6,10,65,71],[],[0,5,6,10]] ?_)
  iterate 9 refine op1 tok ?_ (h:=by intro C; conv=>lhs; simp [hsl2])
  refine qA (rgz [] [[],[],[0,5,75],[0,5,6]] ?_)
  iterate 4 refine op1 tok ?_
  refine qA ?_
  exact ⟨(k+m,out++(s.drop k).take m,g),⟨by simp only []; omega,hq,by simp only []; omega,by simp only [List.length_append,List.length_take]; omega,by simp only []; omega⟩,by simp only []; omega,qE (by simp),rfl,by simp,by simp⟩
 intro h22
 try simp at h22
 rw [List.drop_of_length_le (by omega),qZR] at hq
 rw [hq]
 refine AW.exit ?_
 simp
 refine rgn [] [[],[],[]] ?_
 iterate 3 refine op1 tok ?_
 exact qA (AW.ret qP)
end Go.Proofs.YtlmedakhioiahaaGreatDoor
