import Derived.Test.YtgcbapchinideaaGreatDoorM4
import Derived.Test.YtgcbapchinideaaGreatDoorM3
import Derived.Test.YtgcbapchinideaaGreatDoorM1
import Derived.Laws.RangeString
import Derived.Lib.RuneCount
import Derived.Lib.Repeat
import Derived.Lib.ValidU
import Derived.Lib.LaidU8T
import Derived.Shelf.Unicode.DecodeAny
import Derived.Shelf.Small.Strs
import Derived.Shelf.Strings.Repeat
import Derived.Shelf.Sort.Plain
import Derived.Shelf.Strings.Builder1
import Derived.Shelf.Strings.OnBuilder
import Derived.Test.YtgcbapchinideaaGreatDoorProg
import Derived.Lib.ItoaLen
import Derived.Lib.ValidLaws
import Derived.Lib.Bytealg
namespace Go.Proofs.YtgcbapchinideaaGreatDoor
open Sy Go
set_option linter.unusedSimpArgs false
set_option linter.unusedVariables false
theorem qCM {s:List UInt8} {pos:Nat} (h:pos<s.length):1≤(jG s pos).2:=Lib.decode_width_pos _ _ (by simpa [ByteArray.size] using h)
theorem qHC {s:List UInt8} {pos:Nat} (h:pos<s.length) (ha:(s.getD pos 0).toNat<128):jG s pos=((s.getD pos 0).toNat,1):=by
 have hs:pos<(⟨s.toArray⟩:ByteArray).size:=by simpa [ByteArray.size] using h
 have e:(⟨s.toArray⟩:ByteArray)[pos]'hs=s.getD pos 0:=by simp [List.getD_eq_getElem?_getD,h]; rfl
 unfold jG
 rw [decode_ascii _ _ hs (by rw [e]; exact ha),e]
theorem qWL {s:List UInt8} {pos:Nat} (h:pos<s.length) (ha:128≤(s.getD pos 0).toNat):128≤(jG s pos).1:=by
 have e:((⟨s.toArray⟩:ByteArray).get! (pos+0)).toNat=(s.getD pos 0).toNat:=by
  simp [ByteArray.get!,List.getD_eq_getElem?_getD,h]
 unfold jG Utf8.decode
 simp only [e]
 rw [if_neg (by omega)]
 split
 ·split
  ·simp only [ge_iff_le] at *; omega
  simp [Utf8.runeError]
 split
 ·split
  ·rename_i hc; simp only [ge_iff_le,Bool.and_eq_true,decide_eq_true_eq] at hc; omega
  simp [Utf8.runeError]
 split
 ·split
  ·rename_i hc; simp only [ge_iff_le,Bool.and_eq_true,decide_eq_true_eq] at hc; omega
  simp [Utf8.runeError]
 simp [Utf8.runeError]
def qGU (p:Int→Bool) (s:List UInt8):Nat→Nat→Int
 | 0,_ => -1
 | f+1,pos=>if pos<s.length then (if p (jG s pos).1 then (pos:Int) else qGU p s f (pos+(jG s pos).2)) else -1
def xR (p:Int→Bool) (s:List UInt8):Int:=qGU p s (s.length+1) 0
theorem qJH (p:Int→Bool) (s:List UInt8):∀ (f g pos:Nat),s.length<pos+f→s.length<pos+g→qGU p s f pos=qGU p s g pos
 | 0,0,_,_,_=>rfl
 | 0,g+1,pos,h,_=>by simp only [qGU]; rw [if_neg (by omega)]
 | f+1,0,pos,_,h=>by simp only [qGU]; rw [if_neg (by omega)]
 | f+1,g+1,pos,hf,hg=>by
  simp only [qGU]
  by_cases h:pos<s.length
  ·rw [if_pos h,if_pos h]
   split
   ·rfl
   have:=qCM h
   exact qJH p s f g _ (by omega) (by omega)
  rw [if_neg h,if_neg h]
def uF (p:Int→Bool) (s:List UInt8) (pos:Nat):Int:=qGU p s (s.length+1-pos) pos
theorem qJI {p:Int→Bool} {s:List UInt8} {pos:Nat} (h:¬ pos<s.length):uF p s pos = -1:=by
 unfold uF; cases hf:s.length+1-pos with
 | zero=>rfl
 | succ f=>simp only [qGU]; rw [if_neg h]
theorem qDI {p:Int→Bool} {s:List UInt8} {pos:Nat} (h:pos<s.length) (hp:p (jG s pos).1=true):uF p s pos=pos:=by
 unfold uF; rw [show s.length+1-pos=(s.length-pos)+1 by omega]; simp only [qGU]; rw [if_pos h,if_pos hp]
theorem qGV {p:Int→Bool} {s:List UInt8} {pos:Nat} (h:pos<s.length) (hp:p (jG s pos).1=false):uF p s pos=uF p s (pos+(jG s pos).2):=by
 unfold uF; rw [show s.length+1-pos=(s.length-pos)+1 by omega]; simp only [qGU]
 have:=qCM h
 rw [if_pos h,if_neg (by simp [hp])]; exact qJH p s _ _ _ (by omega) (by omega)
theorem qJF (p:Int→Bool) (s:List UInt8):xR p s=uF p s 0:=by simp [xR,uF]
theorem qEK {p:Int→Bool} (hbig:∀ n:Int,128≤n→p n=true) (s:List UInt8):∀ (f pos:Nat),f=s.length-pos→pos≤s.length→uF p s pos=if (s.drop pos).all (fun b => !p b.toNat) then -1 else ((pos+((s.drop pos).takeWhile fun b => !p b.toNat).length:Nat):Int)
 | 0,pos,hf,hp=>by
  rw [qJI (by omega),List.drop_eq_nil_of_le (by omega)]; simp
 | f+1,pos,hf,hp=>by
  have hlt:pos<s.length:=by omega
  have hd:s.drop pos=s.getD pos 0::s.drop (pos+1):=by
   rw [List.drop_eq_getElem_cons hlt]; congr 1; simp [List.getD_eq_getElem?_getD,hlt]
  rw [hd]
  have hda0:=fun h=>qHC (s:=s) (pos:=pos) hlt h
  have hdb0:=fun h=>qWL (s:=s) (pos:=pos) hlt h
  clear hd
  generalize s.getD pos 0=c at *
  by_cases ha:c.toNat<128
  ·have hda:=hda0 ha
   cases hpb:p ((c.toNat:Nat):Int) with
   | true=>rw [qDI hlt (by rw [hda]; exact hpb)]; simp [hpb]
   | false =>
    rw [qGV hlt (by rw [hda]; exact hpb),hda,qEK hbig s f (pos+1) (by omega) (by omega)]
    simp only [List.all_cons,hpb,Bool.not_false,Bool.true_and,List.takeWhile_cons,if_true,List.length_cons]
    split <;> first | rfl | (congr 1; omega)
  have hb:=hdb0 (by omega)
  rw [qDI hlt (hbig _ (by omega))]
  have:p ((c.toNat:Nat):Int)=true:=hbig _ (by omega)
  simp [this]
theorem qKS {p:Int→Bool} (hbig:∀ n:Int,128≤n→p n=true) (s:List UInt8):xR p s=if s.all (fun b => !p b.toNat) then -1 else (((s.takeWhile fun b => !p b.toNat).length:Nat):Int):=by
 rw [qJF,qEK hbig s _ 0 rfl (by omega)]; simp
set_option maxRecDepth 100000
set_option maxHeartbeats 4000000
variable {G:qM}
theorem qKR (s:List UInt8) (g:FuncId) (p:Int→Bool) (hg:∀ n:Int,AFn Tryz.prog G g [.int .i32 n] (.bool (p n))):AFn Tryz.prog G 190 [.str s,.fn g,.bool true] (.int .i64 (xR p s)):=by
 refine AFn.introU tok Tryz.func190 (by kernel_rfl) rfl rfl ?_
 simp only [Tryz.f190,qO,List.map_cons,List.map_nil]
 refine rgn [] [[0,1,2]] ?_
 refine op1 tok ?_
 refine qA (AW.seq (rgn [] [[],[1,2,10]] ?_))
 iterate 2 refine op1 tok ?_
 refine qA (AW.block ?_)
 refine AW.loop (α:=Nat) (fun pos=>uF p s pos=xR p s) (fun pos=>⟨zF 21 [(1,.p (.fn g)),(2,.p (.bool true)),(10,.it 10)],[],[(10,.iter s pos)],0⟩) (fun pos=>s.length-pos) (0) (qJF p s).symm ⟨qF (by simp),rfl,by simp,by simp⟩ ?_
 rintro pos hi
 have hpos:pos<s.length→1≤(jG s pos).2:=qCM
 by_cases hs2:pos<s.length
 ·
  refine rgn [.bool true] [[],[]] ?_
  iterate 2 refine oq1 tok hs2 ?_
  refine qA (AW.seq (cnd ?_ ?_))
  ·intro h12
   try simp at h12
   refine AW.skip (AW.block (rgn [] [[],[],[],[1,2,7,8,10]] ?_))
   iterate 4 refine op1 tok ?_
   refine qA (rgn [.nilp,.bool (p (jG s pos).1)] [[],[],[],[],[1,2,7,10,19]] ?_)
   iterate 5 refine op1 tok ?_ (hv:=by first | with_reducible exact True.intro | (exact hg _; done) | omega | simp | (simp +contextual; omega))
   refine qA (cnd ?_ ?_)
   ·intro h19
    try simp at h19
    have hI:xR p s=pos:=by rw [← hi,qDI hs2 (by simpa using h19)]
    refine rgn [] [[],[6]] ?_
    iterate 2 refine op1 tok ?_
    refine qA ?_
    exact AW.ret (qK (k:=by simp [hI]))
   intro h19
   try simp at h19
   have hnx:uF p s (pos+(jG s pos).2)=xR p s:=by rw [← qGV hs2 (by simpa using h19)]; exact hi
   refine AW.skip ?_
   exact ⟨pos+(jG s pos).2,hnx,by have:=hpos hs2; omega,qF (by simp),rfl,by simp,by simp⟩
  intro h12
  try simp at h12
 ·
  refine rgn [.bool false] [[],[]] ?_
  iterate 2 refine oq1 tok hs2 ?_
  refine qA (AW.seq (cnd ?_ ?_))
  ·intro h12
   try simp at h12
  intro h12
  try simp at h12
  refine AW.exit ?_
  simp
  refine rgn [] [[]] ?_
  refine op1 tok ?_
  refine qA ?_
  exact AW.ret (qK (k:=by simp [← hi,qJI hs2]))
theorem qLM (s:List UInt8) (g:FuncId) (p:Int→Bool) (hg:∀ n:Int,AFn Tryz.prog G g [.int .i32 n] (.bool (p n))):AFn Tryz.prog G 145 [.str s,.fn g] (.int .i64 (xR p s)):=by
 refine AFn.introU tok Tryz.func145 (by kernel_rfl) rfl rfl ?_
 simp only [Tryz.f145,qO,List.map_cons,List.map_nil]
 refine rgn [] [[0,1]] ?_
 refine op1 tok ?_
 refine qA (rgn [.nilp,.int .i64 (xR p s)] [[],[],[7],[4]] ?_)
 iterate 4 refine op1 tok ?_ (hv:=by first | with_reducible exact True.intro | (exact qKR s g p hg; done) | omega | simp | (simp +contextual; omega))
 exact qA (AW.ret qK)
structure Dc where
 neg:Bool
 digits:List UInt8
 scale:Int
 deriving DecidableEq
@[simp] def Dc.enc (d:Dc):PD := .agg [.bool d.neg,.str d.digits,.int .i64 d.scale]
inductive Val where
 | mk (kind mask:Int) (num:Dc) (text:List UInt8) (keys:List (List UInt8)) (kids:List Val) (code:Int)
def Val.kind:Val→Int
 | .mk k _ _ _ _ _ _=>k
def Val.mask:Val→Int
 | .mk _ m _ _ _ _ _=>m
def Val.num:Val→Dc
 | .mk _ _ n _ _ _ _=>n
def Val.text:Val→List UInt8
 | .mk _ _ _ t _ _ _=>t
def Val.keys:Val→List (List UInt8)
 | .mk _ _ _ _ ks _ _=>ks
def Val.kids:Val→List Val
 | .mk _ _ _ _ _ vs _=>vs
def Val.code:Val→Int
 | .mk _ _ _ _ _ _ c=>c
@[simp] theorem Val.kind_mk (k m:Int) (n:Dc) (t:List UInt8) (ks:List (List UInt8)) (vs:List Val) (c:Int):(Val.mk k m n t ks vs c).kind=k:=rfl
@[simp] theorem Val.mask_mk (k m:Int) (n:Dc) (t:List UInt8) (ks:List (List UInt8)) (vs:List Val) (c:Int):(Val.mk k m n t ks vs c).mask=m:=rfl
@[simp] theorem Val.num_mk (k m:Int) (n:Dc) (t:List UInt8) (ks:List (List UInt8)) (vs:List Val) (c:Int):(Val.mk k m n t ks vs c).num=n:=rfl
@[simp] theorem Val.text_mk (k m:Int) (n:Dc) (t:List UInt8) (ks:List (List UInt8)) (vs:List Val) (c:Int):(Val.mk k m n t ks vs c).text=t:=rfl
@[simp] theorem Val.keys_mk (k m:Int) (n:Dc) (t:List UInt8) (ks:List (List UInt8)) (vs:List Val) (c:Int):(Val.mk k m n t ks vs c).keys=ks:=rfl
@[simp] theorem Val.kids_mk (k m:Int) (n:Dc) (t:List UInt8) (ks:List (List UInt8)) (vs:List Val) (c:Int):(Val.mk k m n t ks vs c).kids=vs:=rfl
@[simp] theorem Val.code_mk (k m:Int) (n:Dc) (t:List UInt8) (ks:List (List UInt8)) (vs:List Val) (c:Int):(Val.mk k m n t ks vs c).code=c:=rfl
mutual
def Val.enc:Val→PD
 | .mk k m n t ks vs c => .agg [.int .i64 k,.int .u64 m,.bool n.neg,.str n.digits,.int .i64 n.scale,.str t,.sl 1 (ks.map PD.str),.sl 9 (Val.encL vs),.int .i64 c]
def Val.encL:List Val→List PD
 | []=>[]
 | v::vs=>Val.enc v::Val.encL vs
end
def dc0:Dc:=⟨false,[],0⟩
theorem Val.encL_map:∀ l,Val.encL l=l.map Val.enc
 | []=>by simp only [Val.encL,List.map_nil]
 | v::vs=>by simp only [Val.encL,List.map_cons,Val.encL_map vs]
@[simp] theorem Val.enc_def (v:Val):v.enc = .agg [.int .i64 v.kind,.int .u64 v.mask,.bool v.num.neg,.str v.num.digits,.int .i64 v.num.scale,.str v.text,.sl 1 (v.keys.map PD.str),.sl 9 (v.kids.map Val.enc),.int .i64 v.code]:=by
 cases v; simp only [Val.enc,Val.encL_map,Val.kind,Val.mask,Val.num,Val.text,Val.keys,Val.kids,Val.code]
mutual
def Val.sz:Val→Nat
 | .mk _ _ _ _ _ vs _=>1+Val.szL vs
def Val.szL:List Val→Nat
 | []=>0
 | v::vs=>Val.sz v+Val.szL vs
end
theorem Val.szL_mem {k:Val}:∀ {l:List Val},k∈l→Val.sz k≤Val.szL l
 | v::vs,h=>by
  simp only [Val.szL]
  rcases List.mem_cons.1 h with rfl | h
  ·omega
  have:=Val.szL_mem h; omega
theorem Val.sz_kid {v k:Val} (h:k∈v.kids):Val.sz k<Val.sz v:=by
 cases v; simp only [Val.kids] at h; simp only [Val.sz]; have:=Val.szL_mem h; omega
theorem Val.induct {p:Val→Prop} (h:∀ v,(∀ k∈v.kids,p k)→p v) (v:Val):p v:=by
 have key:∀ n v,Val.sz v=n→p v:=by
  intro n
  induction n using Nat.strongRecOn with
  | _ n ih=>intro v hv; exact h v fun k hk=>ih _ (hv ▸ Val.sz_kid hk) k rfl
 exact key _ v rfl
theorem Val.ext {a b:Val} (h1:a.kind=b.kind) (h2:a.mask=b.mask) (h3:a.num=b.num) (h4:a.text=b.text) (h5:a.keys=b.keys) (h6:a.kids=b.kids) (h7:a.code=b.code):a=b:=by
 cases a; cases b; simp_all [Val.kind,Val.mask,Val.num,Val.text,Val.keys,Val.kids,Val.code]
theorem Dc.ext' {a b:Dc} (h1:a.neg=b.neg) (h2:a.digits=b.digits) (h3:a.scale=b.scale):a=b:=by cases a; cases b; simp_all
def uV (n:Int):Bool:=decide (48≤n) && decide (n≤57)
def qG (b:UInt8):Bool:=uV b.toNat
def qAR (D:List UInt8):Nat:=D.foldl (fun n c=>n * 10+(c.toNat-48)) 0
theorem qWG (n:Int):AFn Tryz.prog G 57 [.int .u8 n] (.bool (uV n)):=by
 refine AFn.introU tok Tryz.func57 (by kernel_rfl) rfl rfl ?_
 simp only [Tryz.f57,qO,List.map_cons,List.map_nil]
 refine rgn [] [[0]] ?_
 refine op1 tok ?_
 refine qA (rgn [] [[],[],[],[],[5,7],[],[2]] ?_)
 iterate 3 refine op1 tok ?_
 iterate 2 refine op2 tok ?_
 iterate 2 refine op1 tok ?_
 refine qA ?_
 exact AW.ret (qK (k:=by simp [uV]))
def zA (s:List UInt8) (i:Nat):Int:=((s.getD i 0).toNat:Int)
theorem xB {s:List UInt8} {i:Nat} (h:i<s.length):s[i]?=some (s.getD i 0):=by simp [List.getD_eq_getElem?_getD,h]
def qV (n:Nat):List UInt8:=List.replicate n 48
theorem qBR (n:Int) (hn:n≤1000000):AFn Tryz.prog G 63 [.int .i64 n] (.str (qV n.toNat)):=by
 refine AFn.introU tok Tryz.func63 (by kernel_rfl) rfl rfl ?_
 simp only [Tryz.f63,qO,List.map_cons,List.map_nil]
 refine rgn [] [[0]] ?_
 refine op1 tok ?_
 refine qA (rgn [] [[]] ?_)
 refine op1 tok ?_
 refine qA (AW.seq (rgn [] [[]] ?_))
 refine op1 tok ?_
 refine qA (AW.block ?_)
 refine AW.loop (α:=Nat) (fun k=>k≤n.toNat) (fun k=>⟨zF 13 [(0,.p (.int .i64 n)),(3,.p (.str (qV k))),(4,.p (.int .i64 k))],[],[],0⟩) (fun k=>n.toNat-k) (0) (by omega) ⟨qF (by simp [qV]),rfl,by simp,by simp⟩ ?_
 rintro k hk
 refine AW.seq (rgn [] [[],[],[0,3,4,7]] ?_)
 iterate 3 refine op1 tok ?_
 refine qA (cnd ?_ ?_)
 ·intro h7
  try simp at h7
  refine AW.skip (AW.seq (AW.block (rgz [] [[],[],[0,3,4]] ?_)))
  iterate 3 refine op1 tok ?_ (hv:=by first | with_reducible exact True.intro | (simp [qV]; omega; done) | omega | simp | (simp +contextual; omega))
  refine qA (rgz [] [[],[],[0,3,4]] ?_)
  iterate 3 refine op1 tok ?_
  refine qA ?_
  exact ⟨k+1,by omega,by omega,qF (by simp [qV,List.replicate_succ']),rfl,by simp [qV,List.replicate_succ'],by simp [qV,List.replicate_succ']⟩
 intro h7
 try simp at h7
 have hkn:k=n.toNat:=by omega
 subst hkn
 refine AW.exit ?_
 simp
 refine rgn [] [[],[2]] ?_
 iterate 2 refine op1 tok ?_
 exact qA (AW.ret qK)
def qP (s:List UInt8):List UInt8:=s.dropWhile (· == 48)
def zK (d:List UInt8):Nat→List UInt8 × Nat
 | 0=>(d,0)
 | k+1=>if d.getLast?=some 48 then zK d.dropLast k else (d,k+1)
def zQ (neg:Bool) (digits:List UInt8) (scale:Nat):Dc × Int :=
 let x:=zK (qP digits) scale
 if x.1=[] then (⟨false,[48],0⟩,0) else if 60<x.1.length∨60<x.2 then (⟨false,[],0⟩,3) else (⟨neg,x.1,x.2⟩,0)
theorem xM {d:List UInt8} (h:0<d.length):zA d (d.length-1)=48↔d.getLast?=some 48:=by
 rw [List.getLast?_eq_getElem?,zA,List.getD_eq_getElem?_getD,xB (by omega)]
 simp only [Option.getD_some,Option.some.injEq]
 constructor
 ·intro h2; exact UInt8.toNat_inj.1 (by have:((d.getD (d.length-1) 0).toNat:Int)=48:=h2; show (d.getD (d.length-1) 0).toNat=48; omega)
 intro h2; rw [h2]; rfl
theorem jH (d:List UInt8):d.take (d.length-1)=d.dropLast:=(List.dropLast_eq_take).symm
theorem qZL (neg:Bool) (digits:List UInt8) (scale:Nat) (hd:digits.length≤1000000) (hs:scale≤1000000):AFn Tryz.prog G 59 [.bool neg,.str digits,.int .i64 scale] (.tup [(zQ neg digits scale).1.enc,.int .i64 (zQ neg digits scale).2]):=by
 refine AFn.introU tok Tryz.func59 (by kernel_rfl) rfl rfl ?_
 simp only [Tryz.f59,qO,List.map_cons,List.map_nil]
 refine rgn [] [[],[0,1,2,6]] ?_
 iterate 2 refine op1 tok ?_
 refine qA (AW.seq (AW.block ?_))
 refine AW.loop (α:=List UInt8) (fun r=>qP r=qP digits∧r.length≤digits.length) (fun r=>⟨zF 55 [(0,.p (.bool neg)),(1,.p (.str r)),(2,.p (.int .i64 scale)),(6,.ptr 6 0)],[],[(6,.vars 26 [.p (.bool false),.p (.str []),.p (.int .i64 0)])],0⟩) (fun r=>r.length) (digits) ⟨rfl,Nat.le_refl _⟩ ⟨qF (by simp),rfl,by simp,by simp⟩ ?_
 rintro r ⟨hr,hrl⟩
 have hix:0<r.length→r[0]?=some (r.getD 0 0):=fun h=>xB h
 refine AW.seq (rgn [.int .u8 (zA r 0)] [[],[],[],[],[],[0,1,2,6,11,13],[],[0,1,2,6,15]] ?_)
 iterate 4 refine op1 tok ?_ (hv:=by first | with_reducible exact True.intro | (first | exact fun h=>⟨h,_,hix (by omega),rfl⟩ | simp; done) | omega | simp | (simp +contextual; omega))
 iterate 3 refine op2 tok ?_ (hv:=by first | with_reducible exact True.intro | (first | exact fun h=>⟨h,_,hix (by omega),rfl⟩ | simp; done) | omega | simp | (simp +contextual; omega))
 refine op1 tok ?_ (hv:=by first | with_reducible exact True.intro | (first | exact fun h=>⟨h,_,hix (by omega),rfl⟩ | simp; done) | omega | simp | (simp +contextual; omega))
 refine qA (cnd ?_ ?_)
 ·intro h15
  try simp at h15
  obtain ⟨b,r,rfl⟩:∃ b r',r=b::r':=by
   cases r with
   | nil=>simp at h15
   | cons b r=>exact ⟨b,r,rfl⟩
  have hb:b=48:=UInt8.toNat_inj.1 (by have h9:(b.toNat:Int)=48:=h15.2; show b.toNat=48; omega)
  have hr':qP r=qP digits:=by rw [← hr]; simp [qP,hb]
  simp at hrl
  refine AW.skip (AW.block (rgz [] [[],[],[0,1,2,6]] ?_))
  iterate 3 refine op1 tok ?_
  refine qA ?_
  exact ⟨r,⟨hr',by omega⟩,by simp,qF (by simp),rfl,by simp,by simp⟩
 intro h15
 try simp at h15
 have hr':qP digits=r:=by
  rw [← hr]
  cases r with
  | nil=>rfl
  | cons b r =>
   have hb:b≠48:=by rintro rfl; simp [zA] at h15
   simp [qP,hb]
 have hN:zQ neg digits scale=(if (zK r scale).1=[] then (⟨false,[48],0⟩,0) else if 60<(zK r scale).1.length∨60<(zK r scale).2 then (⟨false,[],0⟩,3) else (⟨neg,(zK r scale).1,(zK r scale).2⟩,0)):=by simp only [zQ,hr']
 rw [hN]
 clear hN hix h15 hr hr'
 refine AW.exit ?_
 simp
 refine AW.seq (AW.block ?_)
 refine AW.loop (α:=List UInt8 × Nat) (fun a=>zK r scale=zK a.1 a.2∧a.2≤scale∧a.1.length≤digits.length) (fun a=>⟨zF 55 [(0,.p (.bool neg)),(1,.p (.str a.1)),(2,.p (.int .i64 a.2)),(6,.ptr 6 0)],[],[(6,.vars 26 [.p (.bool false),.p (.str []),.p (.int .i64 0)])],0⟩) (fun a=>a.2) ((r,scale)) ⟨rfl,Nat.le_refl _,hrl⟩ ⟨qF (by simp),rfl,by simp,by simp⟩ ?_
 rintro ⟨d,k⟩ ⟨ht,hk,hdl⟩
 simp only at ht hk hdl
 have hix:0<d.length→d[d.length-1]?=some (d.getD (d.length-1) 0):=fun h=>xB (by omega)
 refine AW.seq (rgn [.int .u8 (zA d (d.length-1))] [[],[],[],[],[],[0,1,2,6,20,23],[],[],[],[],[0,1,2,6,25,26,28],[],[],[0,1,2,6,25,31],[0,1,2,6,32]] ?_)
 iterate 15 first | refine op1 tok ?_ (hv:=by first | with_reducible exact True.intro | (first | exact fun h1 h2=>⟨⟨h1,h2⟩,by omega,by omega⟩ | exact fun h1 h2=>⟨⟨h1,h2⟩,by omega,_,hix h2,rfl⟩ | simp; done) | omega | simp | (simp +contextual; omega)) | refine op2 tok ?_ (hv:=by first | with_reducible exact True.intro | (first | exact fun h1 h2=>⟨⟨h1,h2⟩,by omega,by omega⟩ | exact fun h1 h2=>⟨⟨h1,h2⟩,by omega,_,hix h2,rfl⟩ | simp; done) | omega | simp | (simp +contextual; omega))
 refine qA (cnd ?_ ?_)
 ·intro h32
  try simp at h32
  obtain ⟨k,rfl⟩:∃ k',k=k'+1:=⟨k-1,by omega⟩
  have hl:=(xM h32.1.2).1 h32.2
  have ht':zK r scale=zK d.dropLast k:=by rw [ht]; simp only [zK]; rw [if_pos hl]
  refine AW.skip (AW.block (rgn [] [[],[],[],[],[0,2,6,37],[0,1,2,6]] ?_))
  iterate 6 refine op1 tok ?_
  refine qA (rgz [] [[],[],[0,1,2,6]] ?_)
  iterate 3 refine op1 tok ?_
  refine qA ?_
  exact ⟨(d.dropLast,k),⟨ht',by simp only []; omega,by simp; omega⟩,by simp,qF (by simp [jH]),rfl,by simp [jH],by simp [jH]⟩
 intro h32
 try simp at h32
 have htl:zK d k=(d,k):=by
  cases k with
  | zero=>rfl
  | succ k =>
   simp only [zK]
   rw [if_neg]
   intro hl
   have hpos:0<d.length:=by cases d with
    | nil=>simp at hl
    | cons=>simp
   have:=(xM hpos).2 hl
   simp [hpos,this] at h32
 rw [ht,htl]
 refine AW.exit ?_
 simp
 refine AW.seq (rgn [] [[],[0,1,2,6,41]] ?_)
 iterate 2 refine op1 tok ?_
 refine qA (cnd ?_ ?_)
 ·intro h41
  try simp at h41
  subst h41
  refine rgn [] [[],[],[6,7]] ?_
  iterate 3 refine op1 tok ?_
  exact qA (AW.ret qK)
 intro h41
 try simp at h41
 refine AW.skip (AW.seq (rgn [] [[],[],[],[],[],[0,1,2,6,46,48],[0,1,2,6,49]] ?_))
 iterate 4 refine op1 tok ?_
 iterate 2 refine op2 tok ?_
 refine op1 tok ?_
 refine qA (cnd ?_ ?_)
 ·intro h49
  try simp at h49
  have hbig:60<d.length∨60<k:=by omega
  refine rgn [] [[],[],[6,7]] ?_
  iterate 3 refine op1 tok ?_
  refine qA ?_
  exact AW.ret (qK (k:=by simp [h41,hbig]))
 intro h49
 try simp at h49
 have hbig:¬ (60<d.length∨60<k):=by omega
 refine AW.skip (rgn [] [[],[],[],[6,54],[],[6,7]] ?_)
 iterate 6 refine op1 tok ?_
 refine qA ?_
 exact AW.ret (qK (k:=by simp [h41,hbig]))
def xQ (n:Int):Bool:=decide (n<48) || decide (57<n)
theorem qUV (n:Int):AFn Tryz.prog G 146 [.int .i32 n] (.bool (xQ n)):=by
 refine AFn.introU tok Tryz.func146 (by kernel_rfl) rfl rfl ?_
 simp only [Tryz.f146,qO,List.map_cons,List.map_nil]
 refine rgn [] [[0]] ?_
 refine op1 tok ?_
 refine qA (rgn [] [[],[],[],[],[5,7],[],[2]] ?_)
 iterate 3 refine op1 tok ?_
 iterate 2 refine op2 tok ?_
 iterate 2 refine op1 tok ?_
 refine qA ?_
 exact AW.ret (qK (k:=by simp [xQ]))
theorem qSK (b:UInt8):xQ b.toNat = !qG b:=by
 rw [Bool.eq_iff_iff]; simp [xQ,qG,uV]
def qQ (d:Dc):Bool:=d.digits.all qG && decide (1≤d.digits.length∧d.digits.length≤60∧0≤d.scale∧d.scale≤60) &&
 (if d.digits=[48] then decide (d.scale=0) && !d.neg else decide (zA d.digits 0≠48) && (decide (d.scale=0) || decide (zA d.digits (d.digits.length-1)≠48)))
theorem qNV {d:Dc} (h:d.digits.length=0∨60<d.digits.length∨d.scale<0∨60<d.scale∨d.digits.all qG=false):qQ d=false:=by
 unfold qQ
 rcases h with h | h | h | h | h
 ·rw [show decide (1≤d.digits.length∧d.digits.length≤60∧0≤d.scale∧d.scale≤60)=false by simp; omega]; simp
 ·rw [show decide (1≤d.digits.length∧d.digits.length≤60∧0≤d.scale∧d.scale≤60)=false by simp; omega]; simp
 ·rw [show decide (1≤d.digits.length∧d.digits.length≤60∧0≤d.scale∧d.scale≤60)=false by simp; omega]; simp
 ·rw [show decide (1≤d.digits.length∧d.digits.length≤60∧0≤d.scale∧d.scale≤60)=false by simp; omega]; simp
 simp [h]
theorem qJM {d : Dc} (h : 1 ≤ d.digits.length ∧ d.digits.length ≤ 60 ∧ 0 ≤ d.scale ∧ d.scale ≤ 60) (ha : d.digits.all qG = true) :
  qQ d=(if d.digits=[48] then decide (d.scale=0) && !d.neg else decide (zA d.digits 0≠48) && (decide (d.scale=0) || decide (zA d.digits (d.digits.length-1)≠48))):=by
 unfold qQ; rw [ha,show decide (1≤d.digits.length∧d.digits.length≤60∧0≤d.scale∧d.scale≤60)=true by simpa using h]; simp
theorem qDZ (d:Dc):AFn Tryz.prog G 23 [d.enc] (.bool (qQ d)):=by
 refine AFn.introU tok Tryz.func23 (by kernel_rfl) rfl rfl ?_
 simp only [Tryz.f23,qO,List.map_cons,List.map_nil]
 have hdg:=fun k=>qWG (G:=G) (zA d.digits k)
 have hix:∀ k:Nat,k<d.digits.length→d.digits[k]?=some (d.digits.getD k 0):=fun k h=>xB h
 refine rgn [] [[],[1]] ?_
 iterate 2 refine op1 tok ?_
 refine qA (rgn [] [[],[],[],[1,3]] ?_)
 iterate 4 refine op1 tok ?_
 refine qA (AW.seq (rgn [] [[]] ?_))
 refine op1 tok ?_
 refine qA (AW.block ?_)
 refine AW.intFactU (i:=3) rfl (by decide) ?_; intro hlen; simp at hlen
 refine AW.loop (α:=Nat) (fun k=>k≤d.digits.length∧(d.digits.take k).all qG=true) (fun k=>⟨zF 63 [(1,.ptr 1 0),(3,.p (.int .i64 d.digits.length)),(4,.p (.int .i64 k))],[],[(1,.vars 26 [.p (.bool d.neg),.p (.str d.digits),.p (.int .i64 d.scale)])],0⟩) (fun k=>d.digits.length-k) (0) ⟨by omega,rfl⟩ ⟨qF (by simp),rfl,by simp,by simp⟩ ?_
 rintro k ⟨hk,hall⟩
 refine AW.seq (rgn [] [[],[],[1,3,4,10]] ?_)
 iterate 3 refine op1 tok ?_
 refine qA (cnd ?_ ?_)
 ·intro h10
  try simp at h10
  refine AW.skip (AW.seq (AW.block (rgn [.int .u8 (zA d.digits k),.nilp,.bool (uV (zA d.digits k))] [[],[],[],[],[1,3,4,17],[1,3,4,18]] ?_)))
  iterate 6 refine op1 tok ?_ (hv:=by first | with_reducible exact True.intro | (first | exact hdg k | ((repeat' (first | with_reducible apply And.intro | intro _)) <;> first | omega | assumption | contradiction | exact ⟨_,hix _ (by omega),rfl⟩ | simp_all); done) | omega | simp | (simp +contextual; omega))
  refine qA (cnd ?_ ?_)
  ·intro h18
   try simp at h18
   have hno:qQ d=false:=qNV (.inr (.inr (.inr (.inr (by rw [List.all_eq_false]; exact ⟨_,List.mem_of_getElem? (hix k h10),by simpa [qG,zA] using h18⟩)))))
   refine rgn [] [[]] ?_
   refine op1 tok ?_
   refine qA ?_
   exact AW.ret (qK (k:=by simp [hno]))
  intro h18
  try simp at h18
  refine AW.skip (rgz [] [[],[],[1,3,4]] ?_)
  iterate 3 refine op1 tok ?_
  refine qA ?_
  exact ⟨k+1,⟨by omega,by rw [List.take_add_one,hix k h10,List.all_append,hall]; simpa [qG,zA] using h18⟩,by omega,qF (by simp),rfl,by simp,by simp⟩
 intro h10
 try simp at h10
 rw [List.take_of_length_le (by omega)] at hall
 refine AW.exit ?_
 simp
 refine AW.seq (rgn [] [[],[],[],[],[],[1,3,24],[],[],[],[],[1,3,29],[],[],[],[],[1,3,34]] ?_)
 iterate 16 first | refine op1 tok ?_ | refine op2 tok ?_
 refine qA (cnd ?_ ?_)
 ·intro h34
  try simp at h34
  have hno:qQ d=false:=qNV (by omega)
  refine rgn [] [[]] ?_
  refine op1 tok ?_
  refine qA ?_
  exact AW.ret (qK (k:=by simp [hno]))
 intro h34
 try simp at h34
 rw [qJM (by omega) hall]
 refine AW.skip (AW.seq (rgn [] [[],[],[1,3,37]] ?_))
 iterate 3 refine op1 tok ?_
 refine qA (cnd ?_ ?_)
 ·intro h37
  try simp at h37
  refine rgn [] [[],[],[],[],[41,42],[],[],[45],[2]] ?_
  iterate 4 refine op1 tok ?_
  iterate 3 refine op2 tok ?_
  iterate 2 refine op1 tok ?_
  refine qA ?_
  exact AW.ret (qK (k:=by simp [h37]))
 intro h37
 try simp at h37
 refine AW.skip (rgn [.int .u8 (zA d.digits 0),.int .u8 (zA d.digits (d.digits.length-1))] [[],[],[],[],[1,3,50],[],[],[],[],[3,50,54,55],[],[],[],[50,54,59],[],[],[62],[2]] ?_)
 iterate 5 refine op1 tok ?_ (hv:=by first | with_reducible exact True.intro | (((repeat' (first | with_reducible apply And.intro | intro _)) <;> first | omega | assumption | contradiction | exact ⟨_,hix _ (by omega),rfl⟩ | simp_all); done) | omega | simp | (simp +contextual; omega))
 iterate 11 refine op2 tok ?_ (hv:=by first | with_reducible exact True.intro | (((repeat' (first | with_reducible apply And.intro | intro _)) <;> first | omega | assumption | contradiction | exact ⟨_,hix _ (by omega),rfl⟩ | simp_all); done) | omega | simp | (simp +contextual; omega))
 iterate 2 refine op1 tok ?_ (hv:=by first | with_reducible exact True.intro | (((repeat' (first | with_reducible apply And.intro | intro _)) <;> first | omega | assumption | contradiction | exact ⟨_,hix _ (by omega),rfl⟩ | simp_all); done) | omega | simp | (simp +contextual; omega))
 refine qA ?_
 exact AW.ret (qK (k:=by simp [h37]))
def qR (s:List UInt8):Nat:=s.foldl (fun n b=>n * 10+(b.toNat-48)) 0
theorem wB (b:UInt8):qG b=true↔48≤b.toNat∧b.toNat≤57:=by simp [qG,uV]; omega
theorem qFN (s:List UInt8):∀ n,s.foldl (fun n b=>n * 10+(b.toNat-48)) n=n * 10 ^ s.length+qR s:=by
 induction s with
 | nil=>intro n; simp [qR]
 | cons b s ih =>
  intro n
  have e:qR (b::s)=(b.toNat-48) * 10 ^ s.length+qR s:=by unfold qR; rw [List.foldl_cons,ih]; simp [qR]
  rw [List.foldl_cons,ih,e,List.length_cons,Nat.pow_succ,Nat.add_mul,Nat.mul_assoc,Nat.mul_comm 10,Nat.add_assoc]
theorem wZ (b:UInt8) (s:List UInt8):qR (b::s)=(b.toNat-48) * 10 ^ s.length+qR s:=by
 unfold qR; rw [List.foldl_cons,qFN]; simp [qR]
theorem yF (s t:List UInt8):qR (s++t)=qR s * 10 ^ t.length+qR t:=by
 unfold qR; rw [List.foldl_append,qFN]; rfl
theorem qAG (s:List UInt8) (b:UInt8):qR (s++[b])=qR s * 10+(b.toNat-48):=by rw [yF]; simp [qR]
theorem wH {s:List UInt8} (h:s.all qG=true):qR s<10 ^ s.length:=by
 induction s with
 | nil=>simp [qR]
 | cons b s ih =>
  simp only [List.all_cons,Bool.and_eq_true] at h
  have h1:=(wB b).1 h.1
  have h2:=ih h.2
  rw [wZ,List.length_cons,Nat.pow_succ]
  have:b.toNat-48≤9:=by omega
  have:=Nat.mul_le_mul_right (10 ^ s.length) this
  omega
theorem qRP (n:Nat):Lib.repeatL [48] n=List.replicate n 48:=by
 induction n with
 | zero=>rfl
 | succ n ih=>simp [Lib.repeatL,ih,List.replicate_succ]
theorem qAZ (n:Nat):qR (List.replicate n 48)=0:=by
 induction n with
 | zero=>rfl
 | succ n ih=>rw [List.replicate_succ,wZ,ih]; simp
theorem jN (s:List UInt8) (n:Nat):qR (s++List.replicate n 48)=qR s * 10 ^ n:=by rw [yF,qAZ]; simp
theorem yE {s:List UInt8} (h:s.all qG=true) (n:Nat):(s++List.replicate n 48).all qG=true:=by
 rw [List.all_append,h]
 have:(List.replicate n (48:UInt8)).all qG=true:=List.all_eq_true.2 fun b hb=>by rw [(List.mem_replicate.1 hb).2]; rfl
 rw [this]; rfl
def qL:Nat:=1000000000
def qS:List Nat→Nat
 | []=>0
 | x::xs=>x+qL * qS xs
def okL (l:List Nat):Prop:=∀ x∈l,x<qL
def wD (l:List Nat):List Nat:=(l.reverse.dropWhile (· == 0)).reverse
def vS (s:List UInt8) (e:Nat):Nat:=qR ((s.take e).drop (e-9))
def uN (s:List UInt8):Nat→Nat→List Nat
 | 0,_=>[]
 | f+1,e=>if 0<e then vS s e::uN s f (e-9) else []
theorem qEI (s:List UInt8):∀ (f g e:Nat),e≤f→e≤g→uN s f e=uN s g e
 | 0,0,_,_,_=>rfl
 | 0,g+1,e,h,_=>by simp only [uN]; rw [if_neg (by omega)]
 | f+1,0,e,_,h=>by simp only [uN]; rw [if_neg (by omega)]
 | f+1,g+1,e,h1,h2=>by
  simp only [uN]
  split
  ·rw [qEI s f g _ (by omega) (by omega)]
  rfl
def jT (s:List UInt8) (e:Nat):List Nat:=uN s e e
theorem qAN {s:List UInt8} {e:Nat} (h:0<e):jT s e=vS s e::jT s (e-9):=by
 unfold jT
 rw [show e=(e-1)+1 by omega]
 simp only [uN]
 rw [if_pos (by omega),qEI s (e-1) (e-1+1-9) _ (by omega) (by omega)]
theorem yZ (s:List UInt8):jT s 0=[]:=rfl
theorem qAE {s:List UInt8} (h:s.all qG=true) (n:Nat):(s.take n).all qG=true:=by
 rw [List.all_eq_true] at h ⊢; exact fun b hb=>h b (List.mem_of_mem_take hb)
theorem qHJ {s:List UInt8} (h:s.all qG=true) (n:Nat):(s.drop n).all qG=true:=by
 rw [List.all_eq_true] at h ⊢; exact fun b hb=>h b (List.mem_of_mem_drop hb)
theorem qSY {s:List UInt8} (h:s.all qG=true) (e:Nat):vS s e<qL:=by
 have h1:=wH (qHJ (qAE h e) (e-9))
 have h2:((s.take e).drop (e-9)).length≤9:=by simp; omega
 have:=Nat.pow_le_pow_right (n:=10) (by omega) h2
 unfold vS qL; omega
theorem qNE {s:List UInt8} (h:s.all qG=true):∀ (f e:Nat),e≤f→okL (jT s e)
 | 0,e,he=>by rw [show e=0 by omega,yZ]; intro x hx; cases hx
 | f+1,e,he=>by
  by_cases hp:0<e
  ·rw [qAN hp]
   intro x hx
   rcases List.mem_cons.1 hx with rfl | hx
   ·exact qSY h e
   exact qNE h f (e-9) (by omega) x hx
  rw [show e=0 by omega,yZ]; intro x hx; cases hx
theorem qJB {s:List UInt8} (h:s.all qG=true):∀ (f e:Nat),e≤f→e≤s.length→qS (jT s e)=qR (s.take e)
 | 0,e,he,_=>by rw [show e=0 by omega,yZ]; rfl
 | f+1,e,he,hs=>by
  by_cases hp:0<e
  ·rw [qAN hp]
   simp only [qS]
   rw [qJB h f (e-9) (by omega) (by omega)]
   have e1:s.take e=s.take (e-9)++(s.take e).drop (e-9):=by
    have h2:=List.take_append_drop (e-9) (s.take e)
    rw [List.take_take,Nat.min_eq_left (by omega)] at h2
    exact h2.symm
   have e2:qR (s.take e)=qR (s.take (e-9)) * 10 ^ ((s.take e).drop (e-9)).length+vS s e:=by
    rw [e1,yF,← e1]; rfl
   rw [e2]
   by_cases h9:9≤e
   ·have:((s.take e).drop (e-9)).length=9:=by simp; omega
    rw [this]; unfold qL; omega
   rw [show e-9=0 by omega]; simp [qR]
  rw [show e=0 by omega,yZ]; rfl
theorem xG (l:List Nat) (x:Nat):wD (l++[x])=if x=0 then wD l else l++[x]:=by
 unfold wD
 rw [List.reverse_append]
 simp only [List.reverse_cons,List.reverse_nil,List.nil_append,List.singleton_append,List.dropWhile_cons]
 by_cases h:x=0
 ·simp [h]
 simp [h]
theorem yG (l:List Nat) (x:Nat):qS (l++[x])=qS l+qL ^ l.length * x:=by
 induction l with
 | nil=>simp [qS]
 | cons a l ih=>simp only [List.cons_append,qS,ih,List.length_cons,Nat.pow_succ,Nat.mul_add]; rw [Nat.add_assoc,Nat.mul_comm (qL ^ l.length) qL,Nat.mul_assoc]
theorem qKD {p:List Nat→Prop} (h0:p []) (h1:∀ l x,p l→p (l++[x])) (l:List Nat):p l:=by
 have:∀ r:List Nat,p r.reverse:=by
  intro r
  induction r with
  | nil=>exact h0
  | cons a r ih=>rw [List.reverse_cons]; exact h1 _ _ ih
 simpa using this l.reverse
theorem qBA (l:List Nat):qS (wD l)=qS l:=by
 refine qKD (p:=fun l=>qS (wD l)=qS l) rfl (fun l x ih => ?_) l
 rw [xG]
 split
 ·rename_i h; rw [ih,yG,h]; simp
 rfl
theorem qCX {l:List Nat} (h:okL l):okL (wD l):=by
 intro x hx
 unfold wD at hx
 rw [List.mem_reverse] at hx
 exact h x (List.mem_reverse.1 ((List.dropWhile_sublist _).subset hx))
def qEV (l:List Nat):Prop:=okL l∧l.getLast?≠some 0
theorem qOO {l:List Nat} (h:okL l):qEV (wD l):=by
 refine ⟨qCX h, ?_⟩
 refine qKD (p:=fun l=>(wD l).getLast?≠some 0) (by simp [wD]) (fun l x ih => ?_) l
 rw [xG]
 split
 ·exact ih
 rename_i h; simp; exact h
theorem uO {l:List Nat} (h:okL l):qS l<qL ^ l.length:=by
 induction l with
 | nil=>simp [qS]
 | cons a l ih =>
  have h1:=h a (by simp)
  have h2:=ih fun x hx=>h x (by simp [hx])
  simp only [qS,List.length_cons,Nat.pow_succ]
  have:qL * (qS l+1)≤qL * qL ^ l.length:=Nat.mul_le_mul_left _ h2
  rw [Nat.mul_comm (qL ^ l.length)]
  rw [Nat.mul_add] at this; omega
theorem qVJ {l:List Nat} (h:l≠[]) (hc:l.getLast?≠some 0):qL ^ (l.length-1)≤qS l:=by
 have hs:l=l.dropLast++[l.getLast h]:=(List.dropLast_concat_getLast h).symm
 have hx:l.getLast h≠0:=fun e=>hc (by rw [← e]; exact List.getLast?_eq_some_getLast h)
 have hv:qS l=qS l.dropLast+qL ^ l.dropLast.length * l.getLast h:=by
  conv=>lhs; rw [hs]
  exact yG _ _
 rw [hv,List.length_dropLast]
 have:qL ^ (l.length-1) * 1≤qL ^ (l.length-1) * l.getLast h:=Nat.mul_le_mul_left _ (by omega)
 omega
theorem qGN {l m:List Nat} (hl:qEV l) (hm:qEV m) (h:l.length<m.length):qS l<qS m:=by
 have h1:=uO hl.1
 have h2:=qVJ (l:=m) (by rintro rfl; simp at h) hm.2
 have h3:qL ^ l.length≤qL ^ (m.length-1):=Nat.pow_le_pow_right (by decide) (by omega)
 omega
def xO (l m:List Nat):Nat→Int
 | 0=>0
 | i+1=>if l.getD i 0=m.getD i 0 then xO l m i else if l.getD i 0<m.getD i 0 then -1 else 1
def jS (l m:List Nat):Int:=if l.length≠m.length then (l.length:Int)-m.length else xO l m l.length
theorem qBC {l:List Nat} {i:Nat} (h:i<l.length):l.take (i+1)=l.take i++[l.getD i 0]:=by
 rw [List.take_succ_eq_append_getElem h]; simp [List.getD_eq_getElem?_getD,h]
theorem qDV {l m : List Nat} (hl : okL l) (hm : okL m) (hlen : l.length = m.length) : ∀ i, i ≤ l.length →
  xO l m i=if qS (l.take i)<qS (m.take i) then -1 else if qS (l.take i)=qS (m.take i) then 0 else 1
 | 0,_=>by simp [xO,qS]
 | i+1,hi=>by
  have h1:=uO (l:=l.take i) fun x hx=>hl x (List.mem_of_mem_take hx)
  have h2:=uO (l:=m.take i) fun x hx=>hm x (List.mem_of_mem_take hx)
  have e1:(l.take i).length=i:=by simp; omega
  have e2:(m.take i).length=i:=by simp; omega
  rw [e1] at h1
  rw [e2] at h2
  rw [qBC (by omega),qBC (by omega),yG,yG,e1,e2]
  simp only [xO]
  by_cases h:l.getD i 0=m.getD i 0
  ·rw [if_pos h,qDV hl hm hlen i (by omega),h]
   have a1:(qS (l.take i)+qL ^ i * m.getD i 0<qS (m.take i)+qL ^ i * m.getD i 0)=(qS (l.take i)<qS (m.take i)):=propext (by omega)
   have a2:(qS (l.take i)+qL ^ i * m.getD i 0=qS (m.take i)+qL ^ i * m.getD i 0)=(qS (l.take i)=qS (m.take i)):=propext (by omega)
   simp only [a1,a2]
  rw [if_neg h]
  by_cases h3:l.getD i 0<m.getD i 0
  ·rw [if_pos h3]
   have:=Nat.mul_le_mul_left (qL ^ i) (show l.getD i 0+1≤m.getD i 0 by omega)
   rw [Nat.mul_add,Nat.mul_one] at this
   rw [if_pos (by omega)]
  rw [if_neg h3]
  have:=Nat.mul_le_mul_left (qL ^ i) (show m.getD i 0+1≤l.getD i 0 by omega)
  rw [Nat.mul_add,Nat.mul_one] at this
  rw [if_neg (by omega),if_neg (by omega)]
def sgn (n:Int):Int:=if n<0 then -1 else if n=0 then 0 else 1
theorem qEF {l m:List Nat} (hl:qEV l) (hm:qEV m):sgn (jS l m)=sgn ((qS l:Int)-qS m):=by
 unfold jS
 by_cases h:l.length=m.length
 ·rw [if_neg (by omega),qDV hl.1 hm.1 h l.length (Nat.le_refl _),List.take_length,h,List.take_length]
  unfold sgn
  split
  ·rw [if_pos (by omega),if_pos (by omega)]
  split
  ·rw [if_neg (by omega),if_pos rfl,if_neg (by omega),if_pos (by omega)]
  rw [if_neg (by omega),if_neg (by omega),if_neg (by omega),if_neg (by omega)]
 rw [if_pos h]
 unfold sgn
 rcases Nat.lt_or_gt_of_ne h with h1 | h1
 ·have:=qGN hl hm h1
  rw [if_pos (by omega),if_pos (by omega)]
 have:=qGN hm hl h1
 rw [if_neg (by omega),if_neg (by omega),if_neg (by omega),if_neg (by omega)]
def jB (s:List UInt8):List Nat:=wD (jT s s.length)
theorem qCD {s:List UInt8} (h:s.all qG=true):qEV (jB s):=qOO (qNE h _ _ (Nat.le_refl _))
theorem qCC {s:List UInt8} (h:s.all qG=true):qS (jB s)=qR s:=by
 unfold jB; rw [qBA,qJB h _ _ (Nat.le_refl _) (Nat.le_refl _),List.take_length]
theorem qJC (s:List UInt8):∀ (f e:Nat),e≤f→(jT s e).length≤e
 | 0,e,he=>by rw [show e=0 by omega,yZ]; simp
 | f+1,e,he=>by
  by_cases hp:0<e
  ·rw [qAN hp]; have:=qJC s f (e-9) (by omega); simp; omega
  rw [show e=0 by omega,yZ]; simp
theorem qMX (s:List UInt8):(jB s).length≤s.length:=by
 have h1:(jB s).length≤(jT s s.length).length:=by
  unfold jB wD; rw [List.length_reverse]; have:=(List.dropWhile_sublist (fun x:Nat=>x == 0) (l:=(jT s s.length).reverse)).length_le; simpa using this
 have:=qJC s _ s.length (Nat.le_refl _); omega
namespace Sy
variable {P:Program} {G:qM}
theorem AFn.of_calls {f : FuncId} {args : List PD} {r : PD} (hc : xE P f) (h : ∀ (M : qY) (w : World) (vs : Array Value), GOK G M w → (∀ b o v, M b o = some v → w.cell? ⟨b, o, none⟩ = some v) → vs.size = args.length →
  (∀ (i:Nat) u d,vs[i]?=some u→args[i]?=some d→Rd M u d)→Calls P f vs w fun e w'=>∃ v,e = .returned v∧Rd M v r∧RowKit.Below w.heap.size w w'):AFn P G f args r:=by
 refine ⟨hc,fun M w vs hg hmem hsz hrd=>(h M w vs hg hmem hsz hrd).mono ?_⟩
 rintro e w' ⟨v,rfl,hv,hb⟩
 refine ⟨v,M,rfl,hv,fun b o u hu => ?_,fun _ _ _ h=>h,fun _ _ _=>rfl,hb⟩
 have h1:=hmem b o u hu
 exact (World.cell?_of_block (w:=w) (hb.block b (kO h1))).trans h1
theorem xL {f : FuncId} {fn : Func} {c : Code} (hf : P.funcs[f]? = some fn) (hn : (fn.name == "runtime.NumGoroutine") = false) (hb : fn.body = some c) : xE P f := ⟨fn, c, hf, hn, hb⟩
end Sy
end Go.Proofs.YtgcbapchinideaaGreatDoor
namespace Go.Proofs
open Go.Shelf
def Tryz.lays105_ren:Go.Shelf.Ren:=⟨fun | 105=>108 | 212=>147 | 99=>72 | 165=>148 | 166=>149 | 170=>150 | 169=>151 | 263=>191 | 264=>192 | 206=>103 | 240=>193 | 241=>194 | 276=>220 | 277=>221 | n=>n,fun | 9=>9 | 3=>3 | 4=>4 | 20=>20 | 0=>0 | 46=>148 | 109=>159 | 5=>5 | 72=>163 | 76=>166 | 51=>202 | 146=>217 | 53=>24 | 148=>219 | 70=>161 | 37=>81 | 75=>165 | 127=>221 | 164=>241 | 80=>169 | n=>n,fun | n=>n⟩
theorem Tryz.lays105:Go.Proofs.Lays.n105 Tryz.prog Tryz.lays105_ren:={
 mixed:=by kernel_rfl
 f99:=Tryz.func72.trans (congrArg some (by kernel_rfl))
 f105:=Tryz.func108.trans (congrArg some (by kernel_rfl))
 f165:=Tryz.func148.trans (congrArg some (by kernel_rfl))
 f166:=Tryz.func149.trans (congrArg some (by kernel_rfl))
 f169:=Tryz.func151.trans (congrArg some (by kernel_rfl))
 f170:=Tryz.func150.trans (congrArg some (by kernel_rfl))
 f206:=Tryz.func103.trans (congrArg some (by kernel_rfl))
 f212:=Tryz.func147.trans (congrArg some (by kernel_rfl))
 f240:=Tryz.func193.trans (congrArg some (by kernel_rfl))
 f241:=Tryz.func194.trans (congrArg some (by kernel_rfl))
 f263:=Tryz.func191.trans (congrArg some (by kernel_rfl))
 f264:=Tryz.func192.trans (congrArg some (by kernel_rfl))
 f276:=Tryz.func220.trans (congrArg some (by kernel_rfl))
 f277:=Tryz.func221.trans (congrArg some (by kernel_rfl))
 t0:=Tryz.underlying0
 a0:=Tryz.isAgg0
 z0:=Tryz.sizeOf0
 v0:=Tryz.zeroValue0
 t3:=Tryz.underlying3
 a3:=Tryz.isAgg3
 z3:=Tryz.sizeOf3
 v3:=Tryz.zeroValue3
 t4:=Tryz.underlying4
 a4:=Tryz.isAgg4
 z4:=Tryz.sizeOf4
 v4:=Tryz.zeroValue4
 t5:=Tryz.underlying5
 a5:=Tryz.isAgg5
 z5:=Tryz.sizeOf5
 v5:=Tryz.zeroValue5
 t9:=Tryz.underlying9
 a9:=Tryz.isAgg9
 z9:=Tryz.sizeOf9
 v9:=Tryz.zeroValue9
 t20:=Tryz.underlying20
 a20:=Tryz.isAgg20
 z20:=Tryz.sizeOf20
 v20:=Tryz.zeroValue20
 t37:=Tryz.underlying81
 a37:=Tryz.isAgg81
 z37:=Tryz.sizeOf81
 v37:=Tryz.zeroValue81
 t46:=Tryz.underlying148
 a46:=Tryz.isAgg148
 z46:=Tryz.sizeOf148
 v46:=Tryz.zeroValue148
 t51:=Tryz.underlying202
 a51:=Tryz.isAgg202
 z51:=Tryz.sizeOf202
 v51:=Tryz.zeroValue202
 t53:=Tryz.underlying24
 a53:=Tryz.isAgg24
 z53:=Tryz.sizeOf24
 v53:=Tryz.zeroValue24
 t70:=Tryz.underlying161
 a70:=Tryz.isAgg161
 z70:=Tryz.sizeOf161
 v70:=Tryz.zeroValue161
 t72:=Tryz.underlying163
 a72:=Tryz.isAgg163
 z72:=Tryz.sizeOf163
 v72:=Tryz.zeroValue163
 t75:=Tryz.underlying165
 a75:=Tryz.isAgg165
 z75:=Tryz.sizeOf165
 v75:=Tryz.zeroValue165
 t76:=Tryz.underlying166
 a76:=Tryz.isAgg166
 z76:=Tryz.sizeOf166
 v76:=Tryz.zeroValue166
 t109:=Tryz.underlying159
 a109:=Tryz.isAgg159
 z109:=Tryz.sizeOf159
 v109:=Tryz.zeroValue159
 t127:=Tryz.underlying221
 a127:=Tryz.isAgg221
 z127:=Tryz.sizeOf221
 v127:=Tryz.zeroValue221
 t146:=Tryz.underlying217
 a146:=Tryz.isAgg217
 z146:=Tryz.sizeOf217
 v146:=Tryz.zeroValue217
 t148:=Tryz.underlying219
 a148:=Tryz.isAgg219
 z148:=Tryz.sizeOf219
 v148:=Tryz.zeroValue219
 t164:=Tryz.underlying241
 a164:=Tryz.isAgg241
 z164:=Tryz.sizeOf241
 v164:=Tryz.zeroValue241 }
def Tryz.lays169_ren:Go.Shelf.Ren:=⟨fun | 169=>151 | n=>n,fun | 70=>161 | 9=>9 | 0=>0 | 72=>163 | 37=>81 | 127=>221 | 3=>3 | 5=>5 | n=>n,fun | n=>n⟩
theorem Tryz.lays169:Go.Proofs.Lays.n169 Tryz.prog Tryz.lays169_ren:={
 mixed:=by kernel_rfl
 f169:=Tryz.func151.trans (congrArg some (by kernel_rfl))
 t0:=Tryz.underlying0
 a0:=Tryz.isAgg0
 z0:=Tryz.sizeOf0
 v0:=Tryz.zeroValue0
 t3:=Tryz.underlying3
 a3:=Tryz.isAgg3
 z3:=Tryz.sizeOf3
 v3:=Tryz.zeroValue3
 t9:=Tryz.underlying9
 a9:=Tryz.isAgg9
 z9:=Tryz.sizeOf9
 v9:=Tryz.zeroValue9
 t37:=Tryz.underlying81
 a37:=Tryz.isAgg81
 z37:=Tryz.sizeOf81
 v37:=Tryz.zeroValue81
 t70:=Tryz.underlying161
 a70:=Tryz.isAgg161
 z70:=Tryz.sizeOf161
 v70:=Tryz.zeroValue161
 t72:=Tryz.underlying163
 a72:=Tryz.isAgg163
 z72:=Tryz.sizeOf163
 v72:=Tryz.zeroValue163
 t127:=Tryz.underlying221
 a127:=Tryz.isAgg221
 z127:=Tryz.sizeOf221
 v127:=Tryz.zeroValue221 }
def Tryz.lays156_ren:Go.Shelf.Ren:=⟨fun | 156=>135 | 165=>148 | 166=>149 | 169=>151 | 240=>193 | 241=>194 | 276=>220 | 277=>221 | n=>n,fun | 31=>27 | 9=>9 | 3=>3 | 4=>4 | 0=>0 | 20=>20 | 72=>163 | 76=>166 | 70=>161 | 37=>81 | 75=>165 | 127=>221 | 164=>241 | 5=>5 | 80=>169 | n=>n,fun | n=>n⟩
theorem Tryz.lays156:Go.Proofs.Lays.n156 Tryz.prog Tryz.lays156_ren:={
 mixed:=by kernel_rfl
 f156:=Tryz.func135.trans (congrArg some (by kernel_rfl))
 f165:=Tryz.func148.trans (congrArg some (by kernel_rfl))
 f166:=Tryz.func149.trans (congrArg some (by kernel_rfl))
 f169:=Tryz.func151.trans (congrArg some (by kernel_rfl))
 f240:=Tryz.func193.trans (congrArg some (by kernel_rfl))
 f241:=Tryz.func194.trans (congrArg some (by kernel_rfl))
 f276:=Tryz.func220.trans (congrArg some (by kernel_rfl))
 f277:=Tryz.func221.trans (congrArg some (by kernel_rfl))
 t0:=Tryz.underlying0
 a0:=Tryz.isAgg0
 z0:=Tryz.sizeOf0
 v0:=Tryz.zeroValue0
 t3:=Tryz.underlying3
 a3:=Tryz.isAgg3
 z3:=Tryz.sizeOf3
 v3:=Tryz.zeroValue3
 t4:=Tryz.underlying4
 a4:=Tryz.isAgg4
 z4:=Tryz.sizeOf4
 v4:=Tryz.zeroValue4
 t9:=Tryz.underlying9
 a9:=Tryz.isAgg9
 z9:=Tryz.sizeOf9
 v9:=Tryz.zeroValue9
 t20:=Tryz.underlying20
 a20:=Tryz.isAgg20
 z20:=Tryz.sizeOf20
 v20:=Tryz.zeroValue20
 t31:=Tryz.underlying27
 a31:=Tryz.isAgg27
 z31:=Tryz.sizeOf27
 v31:=Tryz.zeroValue27
 t37:=Tryz.underlying81
 a37:=Tryz.isAgg81
 z37:=Tryz.sizeOf81
 v37:=Tryz.zeroValue81
 t70:=Tryz.underlying161
 a70:=Tryz.isAgg161
 z70:=Tryz.sizeOf161
 v70:=Tryz.zeroValue161
 t72:=Tryz.underlying163
 a72:=Tryz.isAgg163
 z72:=Tryz.sizeOf163
 v72:=Tryz.zeroValue163
 t75:=Tryz.underlying165
 a75:=Tryz.isAgg165
 z75:=Tryz.sizeOf165
 v75:=Tryz.zeroValue165
 t76:=Tryz.underlying166
 a76:=Tryz.isAgg166
 z76:=Tryz.sizeOf166
 v76:=Tryz.zeroValue166
 t127:=Tryz.underlying221
 a127:=Tryz.isAgg221
 z127:=Tryz.sizeOf221
 v127:=Tryz.zeroValue221
 t164:=Tryz.underlying241
 a164:=Tryz.isAgg241
 z164:=Tryz.sizeOf241
 v164:=Tryz.zeroValue241 }
end Go.Proofs
namespace Go.Proofs.YtgcbapchinideaaGreatDoor
open Sy Go
variable {G:qM}
theorem qQD {M:qY} {vs:Array Value} {s:List UInt8} {n:Int} (hsz:vs.size=2) (h:∀ (i:Nat) u d,vs[i]?=some u→[PD.str s,PD.int .i64 n][i]?=some d→Rd M u d):∃ a:ByteArray,vs = #[.string a,.int .i64 n]∧a.data.toList=s∧n≤9223372036854775807:=by
 obtain ⟨l⟩:=vs
 match l,hsz with
 | [u,v],_ =>
  have h1:=h 0 u (.str s) rfl rfl
  have h2:=h 1 v (.int .i64 n) rfl rfl
  cases h1 with
  | @str a _ ha _ =>
  cases h2 with
  | int h3 h4=>exact ⟨a,rfl,ha,by rw [kR] at h4; exact h4⟩
theorem qHZ:Builder.Extra Tryz.prog Tryz.lays105_ren where
 sizeBuilder:=by kernel_rfl
 liesBuilder:=by kernel_rfl
 t5:=Tryz.underlying5
 a5:=Tryz.isAgg5
 z5:=Tryz.sizeOf5
 v5:=Tryz.zeroValue5
 infoByte:=by kernel_rfl
 cellsByte:=by kernel_rfl
 sizeByte:=by kernel_rfl
 neB5:=by decide
theorem qDT (s:List UInt8) (n:Nat) (h:s.length * n≤140737488355328):AFn Tryz.prog G 108 [.str s,.int .i64 n] (.str (Lib.repeatL s n)):=by
 refine AFn.of_calls (xL Tryz.func108 (by kernel_rfl) rfl) fun M w vs hg hmem hsz hrd => ?_
 obtain ⟨x,rfl,rfl,hn⟩:=qQD hsz hrd
 refine (Any.strings_Repeat Tryz.lays105 qHZ x n w (by omega) (by rw [kF rfl]; exact h)).mono ?_
 rintro e w' ⟨rfl,hb⟩
 refine ⟨_,rfl,.str (by simp) ?_,hb⟩
 rw [Lib.repeatL_length,Nat.mul_comm]; simp only [maxLen]; omega
set_option maxRecDepth 100000
set_option maxHeartbeats 4000000
set_option linter.unusedSimpArgs false
set_option linter.unusedVariables false
@[simp] def zM (n:Nat):PD := .int .u64 n
theorem qJY (l:List Nat):AFn Tryz.prog G 208 [.sl 1 (l.map zM)] (.sl 1 ((wD l).map zM)):=by
 refine AFn.introU tok Tryz.func208 (by kernel_rfl) rfl rfl ?_
 simp only [Tryz.f208,qO,List.map_cons,List.map_nil]
 refine rgn [] [[0]] ?_
 refine op1 tok ?_
 refine qA (AW.seq (AW.block ?_))
 refine AW.loop (α:=List Nat) (fun r=>wD r=wD l) (fun r=>⟨zF 21 [(0,.p (.sl 1 (r.map zM)))],[],[],0⟩) (fun r=>r.length) (l) rfl ⟨qF (by simp),rfl,by simp,by simp⟩ ?_
 rintro r hr
 refine AW.slFactU (i:=0) rfl (by decide) ?_
 intro hlen
 simp at hlen
 have hlast:0<r.length→r[r.length-1]?=some (r.getD (r.length-1) 0):=fun h=>by simp [List.getD_eq_getElem?_getD,show r.length-1<r.length by omega]
 refine AW.seq (rgn [.int .u64 (r.getD (r.length-1) 0:Nat)] [[],[],[],[],[],[],[0,6,7,9],[],[],[0,6,12],[],[0,14]] ?_)
 iterate 4 refine op1 tok ?_ (hv:=by first | with_reducible exact True.intro | ((intro h; refine ⟨h,by omega,_,hlast h, ?_⟩; simp); done) | omega | simp | (simp +contextual; omega))
 iterate 7 refine op2 tok ?_ (hv:=by first | with_reducible exact True.intro | ((intro h; refine ⟨h,by omega,_,hlast h, ?_⟩; simp); done) | omega | simp | (simp +contextual; omega))
 refine op1 tok ?_ (hv:=by first | with_reducible exact True.intro | ((intro h; refine ⟨h,by omega,_,hlast h, ?_⟩; simp); done) | omega | simp | (simp +contextual; omega))
 refine qA (cnd ?_ ?_)
 ·intro h14
  try simp at h14
  obtain ⟨s,x,rfl⟩:∃ s x,r=s++[x]:=⟨r.dropLast,r.getLast (by rintro rfl; simp at h14),(List.dropLast_concat_getLast _).symm⟩
  simp at h14
  subst h14
  have hr':wD s=wD l:=by rw [← hr,xG]; simp
  have hsl:(s.length:Int)≤9223372036854775807:=by simp at hlen; omega
  refine AW.skip (AW.block (rgz [] [[],[],[],[],[19],[0]] ?_))
  iterate 6 refine op1 tok ?_
  refine qA ?_
  exact ⟨s,hr',by simp,qF (by simp),rfl,by simp,by simp⟩
 intro h14
 try simp at h14
 have hN:wD r=r:=by
  refine qKD (p:=fun r=>(0<r.length→¬ r.getD (r.length-1) 0=0)→wD r=r) (fun _=>rfl) (fun s x _ h => ?_) r (fun h=>by have:=h14 h; simpa using this)
  have:=h (by simp)
  rw [xG,if_neg (by simpa using this)]
 rw [← hr,hN]
 refine AW.exit ?_
 simp
 refine rgn [] [[],[2]] ?_
 iterate 2 refine op1 tok ?_
 exact qA (AW.ret qK)
theorem wW {x:Int} (h0:0≤x) (h1:x<18446744073709551616):IntKind.u64.wrap x=x:=by simp [IntKind.wrap,IntKind.bits,IntKind.signed]; omega
theorem qQK {x:Int} (h0:0≤x) (h1:x<256):IntKind.u8.wrap x=x:=by simp [IntKind.wrap,IntKind.bits,IntKind.signed]; omega
theorem qVC (s:List UInt8) (hs:s.all qG=true) (hl:s.length≤1000000):AFn Tryz.prog G 203 [.str s] (.sl 1 ((jB s).map zM)):=by
 refine AFn.introU tok Tryz.func203 (by kernel_rfl) rfl rfl ?_
 simp only [Tryz.f203,qO,List.map_cons,List.map_nil]
 refine rgn [] [[0]] ?_
 refine op1 tok ?_
 refine qA (rgn [] [[]] ?_)
 refine op1 tok ?_
 refine qA (AW.seq (rgn [] [[],[],[0,3,4]] ?_))
 iterate 3 refine op1 tok ?_
 refine qA (AW.block ?_)
 refine AW.beginE 3 36 24 1 (by simp) (by simp) (by conv=>lhs; simp) ?_
 refine AW.loop (α:=Int × List Nat) (fun a=>a.1≤s.length ∧ -9<a.1∧a.2.length≤s.length-a.1.toNat∧a.2++jT s a.1.toNat=jT s s.length) (fun a=>⟨zF 39 [(0,.p (.str s)),(3,.ms 36),(4,.p (.int .i64 a.1))],[],[(36,.row 24 1 (a.2.map zM))],0⟩) (fun a=>a.1.toNat) (((s.length:Int),[])) ⟨by simp,by simp only []; omega,by simp,by simp⟩ ⟨qF (by simp),rfl,by simp,by simp⟩ ?_
 rintro ⟨e,acc⟩ ⟨h1,h2,hal,h3⟩
 simp only at h1 h2 h3 hal
 refine AW.seq (rgn [] [[],[0,3,4,11]] ?_)
 iterate 2 refine op1 tok ?_
 refine qA (cnd ?_ ?_)
 ·intro h11
  try simp at h11
  obtain ⟨n,rfl⟩:∃ n:Nat,e=n:=⟨e.toNat,by omega⟩
  obtain ⟨c,hc⟩:∃ c,c=(s.take n).drop (n-9):=⟨_,rfl⟩
  have hcd:c.all qG=true:=by rw [hc]; exact qHJ (qAE hs n) _
  have hcl:c.length≤9:=by rw [hc]; simp; omega
  have hvc:qR c=vS s n:=by rw [hc]; rfl
  have hmx:(if 9<(n:Int) then (n:Int)-9 else 0).toNat=n-9:=by split <;> omega
  refine AW.skip (AW.seq (AW.block (rgn [] [[]] ?_)))
  refine op1 tok ?_
  refine qA (AW.seq (rgn [] [[],[],[],[],[],[0,3,4,5,19],[],[],[0,3,4,5,20,21,22]] ?_))
  iterate 9 refine op1 tok ?_
  refine qA (AW.block ?_)
  refine AW.loop (α:=Nat) (fun k=>k≤c.length) (fun k=>⟨zF 39 [(0,.p (.str s)),(3,.ms 36),(4,.p (.int .i64 n)),(5,.p (.int .u64 (qR (c.take k):Nat))),(20,.p (.sl 1 (qI c))),(21,.p (.int .i64 c.length)),(22,.p (.int .i64 k))],[],[(36,.row 24 1 (acc.map zM))],0⟩) (fun k=>c.length-k) (0) (by omega) ⟨qF (by simp [hmx,hc,qR]),rfl,by simp,by simp⟩ ?_
  rintro k hk
  have hck:=wH (qAE hcd k)
  have hck2:(c.take k).length≤8→qR (c.take k)<100000000:=fun h=>Nat.lt_of_lt_of_le hck (Nat.pow_le_pow_right (n:=10) (by omega) h)
  have hix:∀ k:Nat,k<c.length→c[k]?=some (c.getD k 0):=fun k h=>xB h
  refine rgn [] [[]] ?_
  refine op1 tok ?_
  refine qA (AW.seq (cnd ?_ ?_))
  ·intro h23
   try simp at h23
   have hdk:=(wB _).1 (List.all_eq_true.1 hcd _ (List.mem_of_getElem? (hix k h23)))
   have hv8:qR (c.take k)<100000000:=hck2 (by simp; omega)
   have hsn:qR (c.take (k+1))=qR (c.take k) * 10+((c.getD k 0).toNat-48):=by rw [List.take_add_one,hix k h23]; exact qAG _ _
   have hbk:zA c k=((c.getD k 0).toNat:Int):=rfl
   have hw1:IntKind.u8.wrap (zA c k-48)=zA c k-48:=qQK (by omega) (by omega)
   have hw2:IntKind.u64.wrap ((qR (c.take k):Int) * 10)=(qR (c.take k):Int) * 10:=wW (by omega) (by omega)
   have hw3:IntKind.u64.wrap ((qR (c.take k):Int) * 10+(zA c k-48))=(qR (c.take (k+1)):Int):=by rw [wW (by omega) (by omega),hsn]; omega
   refine AW.skip (AW.seq (AW.block (rgn [.int .u8 (zA c k)] [[],[],[0,3,4,5,7,20,21,22]] ?_)))
   iterate 3 refine op1 tok ?_ (hv:=by first | with_reducible exact True.intro | (first | exact xA (hix k h23) | simp; done) | omega | simp | (simp +contextual; omega))
   refine qA (rgz [] [[],[],[],[0,3,4,20,21,22,27,29],[],[],[0,3,4,5,20,21,22]] ?_)
   iterate 7 refine op1 tok ?_
   refine qA (rgz [] [[],[0,3,4,5,20,21,22]] ?_)
   iterate 2 refine op1 tok ?_
   refine qA ?_
   exact ⟨k+1,by omega,by omega,qF (by simp [hw1,hw2,hw3]),rfl,by simp [hw1,hw2,hw3],by simp [hw1,hw2,hw3]⟩
  intro h23
  try simp at h23
  have hkc:k=c.length:=by omega
  subst hkc
  simp only [List.take_length,hvc]
  have hlz:=qAN (s:=s) (e:=n) (by omega)
  have h3':acc++[vS s n]++jT s ((n:Int)-9).toNat=jT s s.length:=by
   rw [← h3,show ((n:Int)).toNat=n by omega,hlz,show ((n:Int)-9).toNat=n-9 by omega]; simp
  refine AW.exit ?_
  simp
  refine rgz [.int .u64 (vS s n:Nat)] [[],[],[],[0,4,36],[0,3,4]] ?_
  iterate 5 refine op1 tok ?_ (hv:=by first | with_reducible exact True.intro | ((simp; omega); done) | omega | simp | (simp +contextual; omega))
  refine qA (rgz [] [[],[],[0,3,4]] ?_)
  iterate 3 refine op1 tok ?_
  refine qA ?_
  exact ⟨(n:Int)-9,acc++[vS s n],⟨by omega,by omega,by simp; omega,h3'⟩,by omega,qF (by simp),rfl,by simp,by simp⟩
 intro h11
 try simp at h11
 have hacc:acc=jT s s.length:=by rw [← h3,show e.toNat=0 by omega,yZ]; simp
 subst hacc
 refine AW.exit ?_
 simp
 refine rgn [.nilp,.sl 1 ((jB s).map zM)] [[],[],[2]] ?_
 iterate 3 refine op1 tok ?_ (hv:=by first | with_reducible exact True.intro | (exact qJY _; done) | omega | simp | (simp +contextual; omega))
 exact qA (AW.ret qK)
theorem qSS (l m:List Nat) (h1:l.length≤1000000) (h2:m.length≤1000000):AFn Tryz.prog G 164 [.sl 1 (l.map zM),.sl 1 (m.map zM)] (.int .i64 (jS l m)):=by
 refine AFn.introU tok Tryz.func164 (by kernel_rfl) rfl rfl ?_
 simp only [Tryz.f164,qO,List.map_cons,List.map_nil]
 have hixl:∀ k:Nat,k<l.length→l[k]?=some (l.getD k 0):=fun k h=>by simp [List.getD_eq_getElem?_getD,h]
 have hixm:∀ k:Nat,k<m.length→m[k]?=some (m.getD k 0):=fun k h=>by simp [List.getD_eq_getElem?_getD,h]
 refine rgn [] [[0,1]] ?_
 refine op1 tok ?_
 refine qA (AW.seq (rgn [] [[],[],[],[],[0,1,10]] ?_))
 iterate 5 refine op1 tok ?_
 refine qA (cnd ?_ ?_)
 ·intro h10
  try simp at h10
  have hN:jS l m=(l.length:Int)-m.length:=by simp only [jS]; rw [if_pos (by omega)]
  refine rgn [] [[],[],[],[12,14],[],[4]] ?_
  iterate 6 refine op1 tok ?_
  refine qA ?_
  exact AW.ret (qK (k:=by simp [hN]))
 intro h10
 try simp at h10
 have hlen:l.length=m.length:=by omega
 have hN:jS l m=xO l m l.length:=by simp only [jS]; rw [if_neg (by omega)]
 rw [hN]
 refine AW.skip (AW.seq (rgn [] [[],[],[],[0,1,5]] ?_))
 iterate 4 refine op1 tok ?_
 refine qA (AW.block ?_)
 refine AW.loop (α:=Nat) (fun k=>k≤l.length∧xO l m l.length=xO l m k) (fun k=>⟨zF 41 [(0,.p (.sl 1 (l.map zM))),(1,.p (.sl 1 (m.map zM))),(5,.p (.int .i64 (k-1)))],[],[],0⟩) (fun k=>k) (l.length) ⟨Nat.le_refl _,rfl⟩ ⟨qF (by simp),rfl,by simp,by simp⟩ ?_
 rintro k ⟨hk,ht⟩
 refine AW.seq (rgn [] [[],[0,1,5,20]] ?_)
 iterate 2 refine op1 tok ?_
 refine qA (cnd ?_ ?_)
 ·intro h20
  try simp at h20
  obtain ⟨k,rfl⟩:∃ j,k=j+1:=⟨k-1,by omega⟩
  have hkl:k<l.length:=by omega
  have hkm:k<m.length:=by omega
  have hgl:=hixl k hkl
  have hgm:=hixm k hkm
  have hti:((k+1:Nat):Int)-1=k:=by omega
  simp only [hti]
  generalize hx:l.getD k 0=x at *
  generalize hy:m.getD k 0=y at *
  simp only [xO,hx,hy] at ht
  rw [ht]
  refine AW.skip (AW.seq (AW.block ?_))
  refine AW.seqRunDrawK tok mixed [0,1,5,31] 9 [[0],[5],[23,24],[25],[1],[5],[27,28],[29],[26,30]] [.int .u64 x,.int .u64 y] [] (by kernel_rfl) (by intro C; conv=>lhs; simp) (by simp [hgl,hgm]) (by simp [Sm.sum,Sm.foot,Sm.tch,Sm.refs]; kernel_rfl) (by intro C; conv=>lhs; simp) (by first | with_reducible exact True.intro | omega | simp | (simp +contextual; omega)) ?_
  refine cnd ?_ ?_
  ·intro h31
   try simp at h31
   rw [if_neg (by omega)]
   refine AW.seq ?_
   refine AW.seqRunDrawK tok mixed [40] 9 [[0],[5],[32,33],[34],[1],[5],[36,37],[38],[35,39]] [.int .u64 x,.int .u64 y] [] (by kernel_rfl) (by intro C; conv=>lhs; simp) (by simp [hgl,hgm]) (by simp [Sm.sum,Sm.foot,Sm.tch,Sm.refs]; kernel_rfl) (by intro C; conv=>lhs; simp) (by first | with_reducible exact True.intro | omega | simp | (simp +contextual; omega)) ?_
   refine cnd ?_ ?_
   ·intro h40
    try simp at h40
    rw [if_pos (by omega)]
    refine rgn [] [[]] ?_
    refine op1 tok ?_
    exact qA (AW.ret qK)
   intro h40
   try simp at h40
   rw [if_neg (by omega)]
   refine AW.skip (rgn [] [[]] ?_)
   refine op1 tok ?_
   exact qA (AW.ret qK)
  intro h31
  try simp at h31
  refine AW.skip (rgz [] [[],[],[0,1,5]] ?_)
  iterate 3 refine op1 tok ?_
  refine qA ?_
  exact ⟨k,⟨by omega,by rw [if_pos (by omega)]⟩,by omega,qF (by simp),rfl,by simp,by simp⟩
 intro h20
 try simp at h20
 have hk0:k=0:=by omega
 subst hk0
 rw [ht]
 simp only [xO]
 refine AW.exit ?_
 simp
 refine rgn [] [[]] ?_
 refine op1 tok ?_
 exact qA (AW.ret qK)
def kU (d:Dc) (sc:Int):List UInt8:=d.digits++List.replicate (sc-d.scale).toNat 48
theorem qOE (d:Dc) (sc:Int) (h1:d.digits.length≤1000) (h2:0≤d.scale) (h3:d.scale≤sc) (h4:sc≤1000) (hd:d.digits.all qG=true):AFn Tryz.prog G 202 [d.enc,.ref [.int .i64 sc]] (.sl 1 ((jB (kU d sc)).map zM)):=by
 refine AFn.introU tok Tryz.func202 (by kernel_rfl) rfl rfl ?_
 simp only [Tryz.f202,qO,List.map_cons,List.map_nil]
 have hre:=qDT (G:=G) [48] (sc-d.scale).toNat (by simp; omega)
 rw [qRP,show (((sc-d.scale).toNat:Nat):Int)=sc-d.scale by omega] at hre
 have hna:=qVC (G:=G) (kU d sc) (yE hd _) (by simp [kU]; omega)
 unfold kU at hna
 unfold kU
 refine rgn [] [[],[1,2]] ?_
 iterate 2 refine op1 tok ?_
 refine qA ?_
 refine AW.seqRunDrawK tok mixed [3] 9 [[2],[4],[1],[2],[7],[6,8],[9],[5,10],[11]] [.nilp,.str (List.replicate (sc-d.scale).toNat 48),.nilp,.sl 1 ((jB (d.digits++List.replicate (sc-d.scale).toNat 48)).map zM)] [] (by kernel_rfl) (by intro C; conv=>lhs; simp) (by ((repeat' (first | with_reducible apply And.intro | intro _)) <;> first | exact (hre) | exact (hna) | assumption | omega | contradiction | simp_all)) (by simp [Sm.sum,Sm.foot,Sm.tch,Sm.refs]; kernel_rfl) (by intro C; conv=>lhs; simp) (by first | with_reducible exact True.intro | omega | simp | (simp +contextual; omega)) ?_
 exact AW.ret qK
def qX (a b:Dc):Int:=if a.scale<b.scale then b.scale else a.scale
def okD (d:Dc):Prop:=d.digits.length≤1000∧0≤d.scale∧d.scale≤1000∧d.digits.all qG=true
theorem qQG (a b:Dc) (ha:okD a) (hb:okD b):AFn Tryz.prog G 163 [a.enc,b.enc] (.tup [.sl 1 ((jB (kU a (qX a b))).map zM),.sl 1 ((jB (kU b (qX a b))).map zM),.int .i64 (qX a b)]):=by
 refine AFn.introU tok Tryz.func163 (by kernel_rfl) rfl rfl ?_
 simp only [Tryz.f163,qO,List.map_cons,List.map_nil]
 obtain ⟨a1,a2,a3,a4⟩:=ha
 obtain ⟨b1,b2,b3,b4⟩:=hb
 have hm1:a.scale≤qX a b:=by unfold qX; split <;> omega
 have hm2:b.scale≤qX a b:=by unfold qX; split <;> omega
 have hm3:qX a b≤1000:=by unfold qX; split <;> omega
 have e1:=qOE (G:=G) a (qX a b) a1 a2 hm1 hm3 a4
 have e2:=qOE (G:=G) b (qX a b) b1 b2 hm2 hm3 b4
 have hmx:(if a.scale<b.scale then b.scale else a.scale)=qX a b:=rfl
 refine rgn [] [[],[],[],[2,3],[2,3]] ?_
 iterate 5 refine op1 tok ?_
 refine qA (rgn [] [[],[],[],[],[2,3,13],[],[2,3,7]] ?_)
 iterate 7 refine op1 tok ?_
 refine qA (rgn [] [[],[2,3,7,8]] ?_)
 iterate 2 refine op1 tok ?_
 refine qA ?_
 refine AW.freezeV 7 (by conv=>lhs; simp [hmx]) ?_
 refine AW.seqRunDrawK tok mixed [4,5,6] 9 [[8],[2],[15,16],[8],[3],[18,19],[7],[17],[20]] [.nilp,.sl 1 ((jB (kU a (qX a b))).map zM),.nilp,.sl 1 ((jB (kU b (qX a b))).map zM)] [] (by kernel_rfl) (by intro C; conv=>lhs; simp) (by ((repeat' (first | with_reducible apply And.intro | intro _)) <;> first | exact (e1) | exact (e2) | assumption | omega | contradiction | simp_all)) (by simp [Sm.sum,Sm.foot,Sm.tch,Sm.refs]; kernel_rfl) (by intro C; conv=>lhs; simp) (by first | with_reducible exact True.intro | omega | simp | (simp +contextual; omega)) ?_
 exact AW.ret qK
def qKH (a b:Dc):Int:=jS (jB (kU a (qX a b))) (jB (kU b (qX a b)))
def qCP (a b:Dc):Int:=if a.neg=b.neg then (if a.neg=true then sgn (- qKH a b) else sgn (qKH a b)) else if a.neg=true then -1 else 1
end Go.Proofs.YtgcbapchinideaaGreatDoor
namespace Go.Proofs.YtgcbapchinideaaGreatDoor.Sy
open Go
section
variable {P:Program} {T:Tab} {G:qM} {Q:Exit→St→Prop} {st st':St}
theorem Turned.refl (w:World) (b:Nat):Turned w w b:=⟨rfl,rfl,rfl,rfl,fun _ _=>rfl⟩
theorem Rel.beginBox {c : Ctx} {M : qY} {μ : Mu} {st : St} {tmps : Array Value} {w : World} (r : Rel c M μ st tmps w) {id k j : Nat} {e : TypeId} {cells : List V} (hb : zR id st.H = some (.vars e cells)) (hj : cells[j]? = some .nilsl)
  (hf:st.fresh k=true) (e':TypeId) (sz:Nat):∃ μ',Rel c M μ' { st with H:=zZ id (.vars e (cells.set j (.ms k))) ((k,.row e' sz [])::st.H) } tmps w:=by
 have hm:=zG hb
 have hk:qJ id st.H=true:=qE.2 ⟨_,hm⟩
 have hne:id≠k:=by
  rintro rfl
  have:=(St.fresh_spec hf).2.2.2
  rw [hk] at this; cases this
 have r1:=r.adopt (l:=⟨none,.slice none 0 0⟩) hf (fun b hb=>by cases hb) (bx := .row e' sz []) (.rowN (by rw [qT]) (by rw [qT]))
 have hbx:=r1.box id _ (List.mem_cons_of_mem _ hm)
 cases hbx with
 | @vars _ _ b arr h0 hh hs ho hc =>
 refine ⟨_,r1.write (id:=id) (b:=b) (w':=w) (bx := .vars e (cells.set j (.ms k))) (by simp [qJ,hk]) h0 (Turned.refl w b) (.vars h0 hh (by simpa using hs) ho fun i u x hu hx => ?_)⟩
 rw [List.getElem?_set] at hx
 split at hx
 ·rename_i hji
  subst hji
  split at hx
  ·cases hx
   have:=hc j u .nilsl hu hj
   cases this
   exact .ms (by rw [qT]) rfl
  cases hx
 exact hc i u x hu hx
theorem AW.beginBox {c : Code} (id k j : Nat) (e' : TypeId) (sz : Nat) {e : TypeId} {cells : List V} (hb : zR id st.H = some (.vars e cells)) (hj : cells[j]? = some .nilsl) (hf : st.fresh k = true)
  (h:({ st with H:=zZ id (.vars e (cells.set j (.ms k))) ((k,.row e' sz [])::st.H) }:St)=st') (k:AW P G c Q st'):AW P G c Q st:=fun x M μ tmps w hg r=>by
 obtain ⟨μ',r'⟩:=r.beginBox hb hj hf e' sz
 exact k x M μ' tmps w hg (h ▸ r')
theorem qH.beginBox {ops : Array Oper} {l : List Oper} {orc : List PD} (id k j : Nat) (e' : TypeId) (sz : Nat) {e : TypeId} {cells : List V} (hb : zR id st.H = some (.vars e cells)) (hj : cells[j]? = some .nilsl) (hf : st.fresh k = true)
  (h:({ st with H:=zZ id (.vars e (cells.set j (.ms k))) ((k,.row e' sz [])::st.H) }:St)=st') (k:qH P G ops Q l st' orc):qH P G ops Q l st orc:=fun x M μ tmps w hg r=>by
 obtain ⟨μ',r'⟩:=r.beginBox hb hj hf e' sz
 exact k x M μ' tmps w hg (h ▸ r')
end
end Go.Proofs.YtgcbapchinideaaGreatDoor.Sy
namespace Go.Proofs.YtgcbapchinideaaGreatDoor
open Sy Go
set_option maxRecDepth 100000
set_option linter.unusedSimpArgs false
set_option linter.unusedVariables false
variable {G:qM}
def yC (s p:List UInt8):Bool:=decide (p.length≤s.length) && decide (s.take p.length=p)
@[simp] theorem qXO (s p:List UInt8):AFn Tryz.prog G 103 [.str s,.str p] (.bool (yC s p)):=by
 refine AFn.intro tok Tryz.func103 (by kernel_rfl) rfl ?_
 simp only [Tryz.f103,St.start]
 refine AW.seqRun tok [] (by intro C; conv=>lhs; simp) trivial ?_
 refine AW.seqRun tok [] (by intro C; conv=>lhs; simp) (by simp +contextual) ?_
 exact AW.ret ⟨.inr rfl,_,_,by (conv=>lhs; simp),trivial,by simp [yC]⟩
@[simp] theorem qZN (s p:List UInt8):AFn Tryz.prog G 72 [.str s,.str p] (.bool (yC s p)):=by
 refine AFn.intro tok Tryz.func72 (by kernel_rfl) rfl ?_
 simp only [Tryz.f72,St.start]
 refine AW.seqRun tok [] (by intro C; conv=>lhs; simp) trivial ?_
 refine AW.seqRun tok [.tup [.str s,.str p],.bool (yC s p)] (by intro C; conv=>lhs; simp) (by simp) ?_
 exact AW.ret ⟨.inr rfl,_,_,by (conv=>lhs; simp),trivial,by simp⟩
def xS (s p:List UInt8):List UInt8:=if yC s p then s.drop p.length else s
@[simp] theorem qXP (s p:List UInt8):AFn Tryz.prog G 144 [.str s,.str p] (.tup [.str (xS s p),.bool (yC s p)]):=by
 refine AFn.intro tok Tryz.func144 (by kernel_rfl) rfl ?_
 simp only [Tryz.f144,St.start]
 refine AW.seqRun tok [] (by intro C; conv=>lhs; simp) trivial ?_
 refine AW.seq ?_
 refine AW.seqRun tok [.tup [.str s,.str p],.bool (yC s p)] (by intro C; conv=>lhs; simp) (by simp) ?_
 refine AW.cond (c := .tmp 9) (by conv=>lhs; simp) trivial ?_ ?_
 ·intro h1
  simp at h1
  refine AW.seqRun tok [] (by intro C; conv=>lhs; simp) trivial ?_
  exact AW.ret ⟨.inr rfl,_,_,by (conv=>lhs; simp),trivial,by simp [xS,h1]⟩
 intro h1
 simp at h1
 refine AW.skip ?_
 refine AW.seqRun tok [] (by intro C; conv=>lhs; simp) (by simp [yC] at h1 ⊢; omega) ?_
 exact AW.ret ⟨.inr rfl,_,_,by (conv=>lhs; simp),trivial,by simp [xS,h1]⟩
@[simp] theorem qCS (s p:List UInt8):AFn Tryz.prog G 105 [.str s,.str p] (.tup [.str (xS s p),.bool (yC s p)]):=by
 refine AFn.intro tok Tryz.func105 (by kernel_rfl) rfl ?_
 simp only [Tryz.f105,St.start]
 refine AW.seqRun tok [] (by intro C; conv=>lhs; simp) trivial ?_
 refine AW.seqRun tok [.tup [.str s,.str p],.tup [.str (xS s p),.bool (yC s p)]] (by intro C; conv=>lhs; simp) (by simp) ?_
 exact AW.ret ⟨.inr rfl,_,_,by (conv=>lhs; simp),trivial,by simp⟩
theorem zDW:qRN Tryz.prog 226 Extern.BytealgIndexByte.indexByte:=fun args w=>run_callFunc_extern Tryz.func226 (by kernel_rfl) (by kernel_rfl) (by kernel_rfl) (by kernel_rfl) args w
@[simp] theorem qHO (s:List UInt8) (n:Int):AFn Tryz.prog G 198 [.str s,.int .u8 n] (.int .i64 (Lib.indexByte s n.toNat.toUInt8)):=by
 refine AFn.intro tok Tryz.func198 (by kernel_rfl) rfl ?_
 simp only [Tryz.f198,St.start]
 refine AW.seqRun tok [] (by intro C; conv=>lhs; simp) trivial ?_
 refine AW.seqRunX tok 2 [] [] rfl rfl (by intro C; conv=>lhs; simp) trivial (qLQ (s:=s) (n:=n) (p:=True) (q:=True) (r:=True) zDW rfl (by simp) trivial (by simp) trivial (by simp) trivial) (by intro C; conv=>lhs; simp) trivial ?_
 exact AW.ret ⟨.inr rfl,_,_,by (conv=>lhs; simp),trivial,by simp⟩
@[simp] theorem qLN (s:List UInt8) (n:Int):AFn Tryz.prog G 155 [.str s,.int .u8 n] (.int .i64 (Lib.indexByte s n.toNat.toUInt8)):=by
 refine AFn.intro tok Tryz.func155 (by kernel_rfl) rfl ?_
 simp only [Tryz.f155,St.start]
 refine AW.seqRun tok [] (by intro C; conv=>lhs; simp) trivial ?_
 refine AW.seqRun tok [.tup [.str s,.int .u8 n],.int .i64 (Lib.indexByte s n.toNat.toUInt8)] (by intro C; conv=>lhs; simp) (by simp) ?_
 exact AW.ret ⟨.inr rfl,_,_,by (conv=>lhs; simp),trivial,by simp⟩
set_option maxHeartbeats 4000000
theorem qNM {s:List UInt8} {k:Nat} (h:k<s.length):s[k]?=some (s.getD k 0):=by simp [List.getD_eq_getElem?_getD,h]
theorem qES (s:List UInt8) (c:UInt8):AFn Tryz.prog G 173 [.str s,.int .u8 c.toNat] (.str (s.dropWhile (fun b=>b == c))):=by
 refine AFn.introU tok Tryz.func173 (by kernel_rfl) rfl rfl ?_
 simp only [Tryz.f173,qO,List.map_cons,List.map_nil]
 refine rgn [] [[0,1]] ?_
 refine op1 tok ?_
 refine qA (AW.seq (AW.block ?_))
 refine AW.loop (α:=List UInt8) (fun r=>r.dropWhile (fun b=>b == c)=s.dropWhile (fun b=>b == c)) (fun r=>⟨zF 17 [(0,.p (.str r)),(1,.p (.int .u8 c.toNat))],[],[],0⟩) (fun r=>r.length) (s) rfl ⟨qF (by simp),rfl,by simp,by simp⟩ ?_
 rintro r hr
 have hix:0<r.length→r[0]?=some (r.getD 0 0):=fun h=>qNM h
 refine AW.seq (rgn [.int .u8 (r.getD 0 0).toNat] [[],[],[],[],[],[0,1,8,10],[],[],[0,1,13]] ?_)
 iterate 4 refine op1 tok ?_ (hv:=by first | with_reducible exact True.intro | (first | exact fun h=>⟨h,_,hix (by omega),rfl⟩ | simp; done) | omega | simp | (simp +contextual; omega))
 iterate 4 refine op2 tok ?_ (hv:=by first | with_reducible exact True.intro | (first | exact fun h=>⟨h,_,hix (by omega),rfl⟩ | simp; done) | omega | simp | (simp +contextual; omega))
 refine op1 tok ?_ (hv:=by first | with_reducible exact True.intro | (first | exact fun h=>⟨h,_,hix (by omega),rfl⟩ | simp; done) | omega | simp | (simp +contextual; omega))
 refine qA (cnd ?_ ?_)
 ·intro h13
  try simp at h13
  obtain ⟨b,r,rfl⟩:∃ b r',r=b::r':=by
   cases r with
   | nil=>simp at h13
   | cons b r=>exact ⟨b,r,rfl⟩
  have hb:b=c:=UInt8.toNat_inj.1 (by have:=h13.2; simp at this; omega)
  subst hb
  have hr2:List.dropWhile (fun b'=>b' == b) r=List.dropWhile (fun b'=>b' == b) s:=by rw [← hr]; simp
  refine AW.skip (AW.block (rgz [] [[],[],[0,1]] ?_))
  iterate 3 refine op1 tok ?_
  refine qA ?_
  exact ⟨r,hr2,by simp,qF (by simp),rfl,by simp,by simp⟩
 intro h13
 try simp at h13
 have hr3:s.dropWhile (fun b=>b == c)=r:=by
  rw [← hr]
  cases r with
  | nil=>rfl
  | cons b r =>
   have hb:b≠c:=by rintro rfl; simp at h13
   simp [hb]
 rw [hr3]
 refine AW.exit ?_
 simp
 refine rgn [] [[],[4]] ?_
 iterate 2 refine op1 tok ?_
 exact qA (AW.ret qK)
theorem qMC (s:List UInt8) (c:UInt8):(decide (1≤(s.length:Int)) && decide (List.drop (s.length-1) s=[c]))=decide (s.getLast?=some c):=by
 by_cases h:s=[]
 ·subst h; simp
 obtain ⟨a,b,rfl⟩:∃ a b,s=a++[b]:=⟨s.dropLast,s.getLast h,(List.dropLast_concat_getLast h).symm⟩
 rw [Bool.eq_iff_iff]
 simp
 intro _; omega
theorem qHP (s:List UInt8) (c:UInt8):AFn Tryz.prog G 104 [.str s,.str [c]] (.bool (decide (s.getLast?=some c))):=by
 refine AFn.introU tok Tryz.func104 (by kernel_rfl) rfl rfl ?_
 simp only [Tryz.f104,qO,List.map_cons,List.map_nil]
 refine AW.strFactU (i:=0) rfl (by decide) ?_
 intro hlen
 have hsuf:(decide (1≤(s.length:Int)) && decide (List.drop (s.length-1) s=[c]))=decide (s.getLast?=some c):=qMC s c
 refine rgn [] [[0,1]] ?_
 refine op1 tok ?_
 refine qA (rgn [] [[],[],[],[],[0,1,9],[],[],[],[],[],[1,10,11,13,15],[],[1,10,17],[],[],[20],[4]] ?_)
 iterate 6 refine op1 tok ?_
 iterate 9 refine op2 tok ?_
 iterate 2 refine op1 tok ?_
 refine qA ?_
 exact AW.ret (qK (k:=by simp [hsuf]))
theorem qLO (s:List UInt8) (c:UInt8):AFn Tryz.prog G 73 [.str s,.str [c]] (.bool (decide (s.getLast?=some c))):=by
 refine AFn.introU tok Tryz.func73 (by kernel_rfl) rfl rfl ?_
 simp only [Tryz.f73,qO,List.map_cons,List.map_nil]
 refine rgn [] [[0,1]] ?_
 refine op1 tok ?_
 refine qA (rgn [.nilp,.bool (decide (s.getLast?=some c))] [[],[],[7],[4]] ?_)
 iterate 4 refine op1 tok ?_ (hv:=by first | with_reducible exact True.intro | (exact qHP s c; done) | omega | simp | (simp +contextual; omega))
 exact qA (AW.ret qK)
theorem qLK (s:List UInt8) (c:UInt8) (hc:c.toNat<128):AFn Tryz.prog G 136 [.str s,.str [c]] (.str (s.dropWhile (fun b=>b == c))):=by
 refine AFn.introU tok Tryz.func136 (by kernel_rfl) rfl rfl ?_
 simp only [Tryz.f136,qO,List.map_cons,List.map_nil]
 refine rgn [] [[0,1]] ?_
 refine op1 tok ?_
 refine qA (AW.seq (rgn [] [[],[],[],[],[],[0,1,12]] ?_))
 iterate 3 refine op1 tok ?_
 iterate 2 refine op2 tok ?_
 refine op1 tok ?_
 refine qA (cnd ?_ ?_)
 ·intro h12
  try simp at h12
  subst h12
  refine rgn [] [[],[4]] ?_
  iterate 2 refine op1 tok ?_
  exact qA (AW.ret qK)
 intro h12
 try simp at h12
 refine AW.skip (AW.seq (rgn [.int .u8 c.toNat] [[],[],[],[],[],[0,1,17,19],[],[0,1,21]] ?_))
 iterate 4 refine op1 tok ?_ (hv:=by first | with_reducible exact True.intro | (simp; done) | omega | simp | (simp +contextual; omega))
 iterate 3 refine op2 tok ?_ (hv:=by first | with_reducible exact True.intro | (simp; done) | omega | simp | (simp +contextual; omega))
 refine op1 tok ?_ (hv:=by first | with_reducible exact True.intro | (simp; done) | omega | simp | (simp +contextual; omega))
 refine qA (cnd ?_ ?_)
 ·intro h21
  try simp at h21
  refine rgn [.int .u8 c.toNat,.nilp,.str (s.dropWhile (fun b=>b == c))] [[],[],[],[25],[4]] ?_
  iterate 5 refine op1 tok ?_ (hv:=by first | with_reducible exact True.intro | (first | exact qES s c | simp; done) | omega | simp | (simp +contextual; omega))
  exact qA (AW.ret qK)
 intro h21
 try simp at h21
 omega
def qHG:Dc × Int:=(⟨false,[],0⟩,4)
def qGO (neg:Bool) (digits:List UInt8) (sc:Int):Dc × Int:=if sc<0 then zQ neg (digits++qV (-sc).toNat) 0 else zQ neg digits sc.toNat
def zN (d:Dc):List UInt8:=qV (d.scale.toNat+1-d.digits.length)++d.digits
def zT (d:Dc):List UInt8:=(if d.neg=true then [45] else [])++(if d.scale=0 then zN d else (zN d).take ((zN d).length-d.scale.toNat)++46::(zN d).drop ((zN d).length-d.scale.toNat))
theorem qME (n:Nat) (s:List UInt8):qP (qV n++s)=qP s:=by
 induction n with
 | zero=>rfl
 | succ n ih=>simp only [qV,List.replicate_succ,List.cons_append,qP,List.dropWhile_cons] at ih ⊢; simp [ih]
theorem qIQ {d:Dc} (h:qQ d=true) (n:Nat):zQ d.neg (qV n++d.digits) d.scale.toNat=(d,0):=by
 unfold qQ at h
 simp only [Bool.and_eq_true,decide_eq_true_eq] at h
 obtain ⟨⟨h1,h2⟩,h3⟩:=h
 unfold zQ
 rw [qME]
 by_cases hz:d.digits=[48]
 ·rw [if_pos hz] at h3
  simp at h3
  have:qP d.digits=[]:=by rw [hz]; rfl
  rw [this,h3.1]
  simp only [Int.toNat_zero,zK,if_true]
  obtain ⟨ng,dg,sc⟩:=d
  simp only at hz h3 ⊢
  rw [hz,h3.1,h3.2]
 rw [if_neg hz] at h3
 simp at h3
 obtain ⟨ng,dg,sc⟩:=d
 simp only at hz h1 h2 h3 ⊢
 have e1:qP dg=dg:=by
  cases dg with
  | nil=>rfl
  | cons b t =>
   have hb:b≠48:=by rintro rfl; exact h3.1 rfl
   simp [qP,List.dropWhile_cons,hb]
 have e2:zK dg sc.toNat=(dg,sc.toNat):=by
  cases hs:sc.toNat with
  | zero=>rfl
  | succ k =>
   simp only [zK]
   rw [if_neg]
   intro hl
   have:=(xM (d:=dg) (by omega)).2 hl
   rcases h3.2 with h | h
   ·omega
   exact h this
 rw [e1,e2]
 simp only
 rw [if_neg (by intro e; rw [e] at h2; simp at h2),if_neg (by omega)]
 rw [show ((sc.toNat:Nat):Int)=sc by omega]
theorem qJP (n:Nat):(qV n).all qG=true:=by
 rw [List.all_eq_true]; intro b hb; have:=(List.mem_replicate.1 hb).2; subst this; decide
theorem qTR {p:UInt8→Bool} {l:List UInt8} (h:l.all p=true) (n:Nat):(l.take n).all p=true:=by
 rw [List.all_eq_true] at h ⊢; exact fun b hb=>h b (List.mem_of_mem_take hb)
theorem qTS {p:UInt8→Bool} {l:List UInt8} (h:l.all p=true) (n:Nat):(l.drop n).all p=true:=by
 rw [List.all_eq_true] at h ⊢; exact fun b hb=>h b (List.mem_of_mem_drop hb)
theorem qGE {d:Dc} (h:qQ d=true):∃ W R:List UInt8,zT d=(if d.neg=true then [45] else [])++(W++if R=[] then [] else 46::R)∧W.all qG=true∧R.all qG=true∧W≠[]∧(W.length=1∨zA W 0≠48)∧zQ d.neg (W++R) R.length=(d,0):=by
 have hd:=h
 unfold qQ at hd
 simp only [Bool.and_eq_true,decide_eq_true_eq] at hd
 obtain ⟨⟨h1,h2⟩,h3⟩:=hd
 have hpa:(zN d).all qG=true:=by unfold zN; rw [List.all_append,qJP,h1]; rfl
 have hpl:(zN d).length=if d.scale.toNat+1≤d.digits.length then d.digits.length else d.scale.toNat+1:=by
  unfold zN; simp [qV]; split <;> omega
 have hn:=qIQ h (d.scale.toNat+1-d.digits.length)
 have hp0:zA (zN d) 0=48→zN d=[48]∨(d.digits.length≤d.scale.toNat):=by
  intro hb
  by_cases hz:d.digits.length≤d.scale.toNat
  ·exact .inr hz
  refine .inl ?_
  have e:zN d=d.digits:=by unfold zN; rw [show d.scale.toNat+1-d.digits.length=0 by omega]; rfl
  rw [e] at hb ⊢
  by_cases hz:d.digits=[48]
  ·exact hz
  rw [if_neg hz] at h3; simp at h3; exact absurd hb h3.1
 unfold zT
 by_cases hs:d.scale=0
 ·rw [if_pos hs]
  refine ⟨zN d,[],by simp,hpa,rfl,by intro e; rw [e] at hpl; simp at hpl; split at hpl <;> omega, ?_, ?_⟩
  ·by_cases hb:zA (zN d) 0=48
   ·rcases hp0 hb with e | e
    ·rw [e]; exact .inl rfl
    omega
   exact .inr hb
  rw [List.append_nil,List.length_nil,show (0:Nat)=d.scale.toNat by omega]
  exact hn
 rw [if_neg hs]
 have hle:d.scale.toNat+1≤(zN d).length:=by rw [hpl]; split <;> omega
 have hRl:((zN d).drop ((zN d).length-d.scale.toNat)).length=d.scale.toNat:=by rw [List.length_drop]; omega
 have hWl:((zN d).take ((zN d).length-d.scale.toNat)).length=(zN d).length-d.scale.toNat:=by rw [List.length_take]; omega
 have hRne:(zN d).drop ((zN d).length-d.scale.toNat)≠[]:=by intro e; rw [e] at hRl; simp at hRl; omega
 have hWne:(zN d).take ((zN d).length-d.scale.toNat)≠[]:=by intro e; rw [e] at hWl; simp at hWl; omega
 have hb0:zA ((zN d).take ((zN d).length-d.scale.toNat)) 0=zA (zN d) 0:=by
  unfold zA
  rw [List.getD_eq_getElem?_getD,List.getElem?_take,if_pos (by omega),← List.getD_eq_getElem?_getD]
 refine ⟨(zN d).take ((zN d).length-d.scale.toNat),(zN d).drop ((zN d).length-d.scale.toNat),by rw [if_neg hRne],qTR hpa _,qTS hpa _,hWne, ?_, ?_⟩
 ·rw [hb0]
  by_cases hb:zA (zN d) 0=48
  ·rcases hp0 hb with e | e
   ·rw [e] at hle; simp at hle; omega
   left; rw [hWl,hpl,if_neg (by omega)]; omega
  exact .inr hb
 rw [hRl,List.take_append_drop]
 exact hn
def yO (t:List UInt8):List UInt8:=if t.head?=some 45∨t.head?=some 43 then t.drop 1 else t
def qCJ (s:List UInt8):Option Int:=match s with
 | []=>some 0
 | b::t=>if b≠101∧b≠69 then none
  else if (yO t).dropWhile qG≠[]∨((yO t).takeWhile qG).length<1∨2<((yO t).takeWhile qG).length then none
  else some (if t.head?=some 45 then-(qAR ((yO t).takeWhile qG):Int) else qAR ((yO t).takeWhile qG))
def qMW (s:List UInt8):Bool:=decide (s.head?=some 45)
def xC (s:List UInt8):List UInt8:=if s.head?=some 45 then s.drop 1 else s
def qCI (r:List UInt8):Option (List UInt8 × List UInt8) :=
 if r.head?=some 46 then (if (r.drop 1).takeWhile qG=[] then none else some ((r.drop 1).takeWhile qG,(r.drop 1).dropWhile qG)) else some ([],r)
def qPP (neg:Bool) (W P:List UInt8):Option Int→Dc × Int
 | none=>qHG
 | some up=>if W=[]∨(1<W.length∧W.head?=some 48) then qHG else qGO neg (W++P) (P.length-up)
def xU (s:List UInt8):Dc × Int:=match qCI ((xC s).dropWhile qG) with
 | none=>qHG
 | some (P,r)=>qPP (qMW s) ((xC s).takeWhile qG) P (qCJ r)
theorem qLZ {W F:List UInt8} (hW:W.all qG=true) (hF:∀ b,F.head?=some b→qG b=false):(W++F).takeWhile qG=W∧(W++F).dropWhile qG=F:=by
 induction W with
 | nil =>
  cases F with
  | nil=>exact ⟨rfl,rfl⟩
  | cons b F=>have:=hF b rfl; simp [List.takeWhile_cons,List.dropWhile_cons,this]
 | cons b W ih =>
  simp only [List.all_cons,Bool.and_eq_true] at hW
  obtain ⟨h1,h2⟩:=ih hW.2
  simp [List.takeWhile_cons,List.dropWhile_cons,hW.1,h1,h2]
theorem qED (ng : Bool) (W R : List UInt8) (hW : W.all qG = true) (hR : R.all qG = true) (h0 : W ≠ []) (h1 : W.length = 1 ∨ zA W 0 ≠ 48) :
  xU ((if ng=true then [45] else [])++(W++if R=[] then [] else 46::R))=zQ ng (W++R) R.length:=by
 generalize hF:(if R=[] then [] else 46::R)=F
 generalize hs:((if ng=true then [45] else [])++(W++F))=s
 obtain ⟨w0,W',rfl⟩:∃ w0 W',W=w0::W':=by cases W with
  | nil=>exact absurd rfl h0
  | cons a W=>exact ⟨a,W,rfl⟩
 have hw0:qG w0=true:=by simp only [List.all_cons,Bool.and_eq_true] at hW; exact hW.1
 have hw1:w0≠45:=by rintro rfl; revert hw0; decide
 have hb:xC s=(w0::W')++F∧qMW s=ng:=by
  rw [← hs]
  cases ng with
  | true=>simp [xC,qMW]
  | false=>simp [xC,qMW,hw1]
 have hFh:∀ b,F.head?=some b→qG b=false:=by
  rw [← hF]; split
  ·simp
  intro b hb; simp at hb; subst hb; decide
 obtain ⟨t1,t2⟩:=qLZ hW hFh
 have hfr:qCI F=some (R,[]):=by
  rw [← hF]
  split
  ·rename_i hR0; subst hR0; rfl
  rename_i hR0
  obtain ⟨t3,t4⟩:=qLZ (W:=R) (F:=[]) hR (by simp)
  rw [List.append_nil] at t3 t4
  unfold qCI
  simp only [List.head?_cons,if_true,List.drop_succ_cons,List.drop_zero,t3,t4]
  rw [if_neg hR0]
 unfold xU
 rw [hb.1,hb.2,t1,t2,hfr]
 simp only [qCJ,qPP]
 rw [if_neg (by
  rintro (h | ⟨h,h'⟩)
  ·cases h
  rcases h1 with h1 | h1
  ·omega
  simp at h'; subst h'; exact h1 rfl)]
 unfold qGO
 rw [if_neg (by omega)]
 simp
theorem qKJ {d:Dc} (h:qQ d=true):xU (zT d)=(d,0):=by
 obtain ⟨W,R,hp,hW,hR,h0,h1,hn⟩:=qGE h
 rw [hp,qED d.neg W R hW hR h0 h1,hn]
theorem qMB (s:List UInt8):(if s.all (fun b => !xQ b.toNat) then (-1:Int) else (((s.takeWhile fun b => !xQ b.toNat).length:Nat):Int))=if s.all qG then -1 else ((s.takeWhile qG).length:Int):=by
 have e:(fun b:UInt8 => !xQ b.toNat)=qG:=by funext b; rw [qSK]; simp
 rw [e]
theorem qNL (s:List UInt8):xR xQ s=if s.all qG then -1 else ((s.takeWhile qG).length:Int):=by
 rw [qKS (fun n h=>by simp [xQ] <;> omega),qMB]
theorem qXB {s:List UInt8} (h:s.all qG=true):s.takeWhile qG=s∧s.dropWhile qG=[]:=by
 have:=qLZ (W:=s) (F:=[]) h (by simp)
 simpa using this
theorem qYC (s:List UInt8):s.take (s.takeWhile qG).length=s.takeWhile qG∧s.drop (s.takeWhile qG).length=s.dropWhile qG:=by
 have h:=List.takeWhile_append_dropWhile (p:=qG) (l:=s)
 generalize s.takeWhile qG=A at *
 generalize s.dropWhile qG=B at *
 subst h
 simp
theorem qUG (s:List UInt8):(s.takeWhile qG).length≤s.length:=(List.takeWhile_sublist _).length_le
theorem qZZ (s:List UInt8):(s.dropWhile qG).length≤s.length:=(List.dropWhile_sublist _).length_le
theorem qLH {s:List UInt8} {n:Int} (hc:(if s.all qG=true then (-1:Int) else ((s.takeWhile qG).length:Int))=n) (h:n<0):(s.takeWhile qG).length=s.length:=by
 split at hc
 ·rename_i ha; rw [(qXB ha).1]
 omega
theorem qFU {s:List UInt8} {n:Int} (hc:(if s.all qG=true then (-1:Int) else ((s.takeWhile qG).length:Int))=n) (h:0≤n):n=((s.takeWhile qG).length:Int):=by
 split at hc
 ·omega
 omega
theorem qBI (s:List UInt8):AFn Tryz.prog G 106 [.str s] (.tup [.str (s.takeWhile qG),.str (s.dropWhile qG)]):=by
 refine AFn.introU tok Tryz.func106 (by kernel_rfl) rfl rfl ?_
 simp only [Tryz.f106,qO,List.map_cons,List.map_nil]
 have hI:=qLM (G:=G) s 146 xQ qUV
 rw [qNL] at hI
 have htw:=qYC s
 have hle:=qUG s
 generalize hc:(if s.all qG=true then (-1:Int) else ((s.takeWhile qG).length:Int))=n at hI
 refine rgn [] [[],[0]] ?_
 iterate 2 refine op1 tok ?_
 refine qA (rgn [.nilp,.int .i64 n] [[],[],[0,4]] ?_)
 iterate 3 refine oq1 tok hI ?_
 refine qA ?_
 refine AW.join (α:=Unit) (fun _=>True) (fun a=>⟨zF 17 [(0,.p (.str s)),(4,.p (.int .i64 (s.takeWhile qG).length))],[],[],0⟩) ?_ ?_
 ·
  refine rgn [] [[],[0,4,8]] ?_
  iterate 2 refine op1 tok ?_
  refine qA (cnd ?_ ?_)
  ·intro h8
   try simp at h8
   refine rgz [] [[],[],[0,4]] ?_
   iterate 3 refine op1 tok ?_
   refine qA ?_
   exact ⟨(),trivial,qF (by simp [qLH hc h8]),rfl,by simp [qLH hc h8],by simp [qLH hc h8]⟩
  intro h8
  try simp at h8
  refine AW.skip ?_
  exact ⟨(),trivial,qF (by simp [qFU hc h8]),rfl,by simp [qFU hc h8],by simp [qFU hc h8]⟩
 ·
  rintro a hI
  refine AW.seqRunDrawK tok mixed [2,3] 7 [[0],[4],[11,12],[0],[4],[14,15],[13]] [] [] (by kernel_rfl) (by intro C; conv=>lhs; simp) (by omega) (by simp [Sm.sum,Sm.foot,Sm.tch,Sm.refs]; kernel_rfl) (by intro C; conv=>lhs; simp) (by first | with_reducible exact True.intro | omega | simp | (simp +contextual; omega)) ?_
  exact AW.ret (qK (k:=by simp [htw.1,htw.2]))
theorem qYW (s:List UInt8):(qP s).length≤s.length:=(List.dropWhile_sublist _).length_le
theorem yA {d:Dc} (h:qQ d=true):1≤d.digits.length∧d.digits.length≤60∧0≤d.scale∧d.scale≤60:=by
 unfold qQ at h; simp only [Bool.and_eq_true,decide_eq_true_eq] at h; omega
theorem qFD (t:List UInt8) (c:UInt8):yC t [c]=decide (t.head?=some c):=by cases t <;> simp [yC]
theorem qIE (D:List UInt8) (c:UInt8):qAR (D++[c])=qAR D * 10+(c.toNat-48):=by simp [qAR]
theorem qQM {D:List UInt8} (h:D.all qG=true):qAR D<10 ^ D.length:=by
 have key:∀ (r:List UInt8),r.all qG=true→qAR r.reverse<10 ^ r.length:=by
  intro r
  induction r with
  | nil=>intro _; decide
  | cons b r ih =>
   intro h
   simp only [List.all_cons,Bool.and_eq_true,qG,uV,decide_eq_true_eq] at h
   have:=ih h.2
   rw [List.reverse_cons,qIE,List.length_cons,Nat.pow_succ]; omega
 have:=key D.reverse (by simpa using h)
 simpa using this
theorem qUH (s:List UInt8):(s.takeWhile qG).all qG=true:=List.all_takeWhile
theorem qYF (t:List UInt8):(yO t).length≤t.length:=by unfold yO; split <;> simp
theorem zDO {t:List UInt8} {a b:Bool} (h1:a=decide (t.head?=some 45)) (h2:b=decide (t.head?=some 43)) (h:a=true∨b=true):t.tail=yO t∧1≤t.length:=by
 subst h1; subst h2
 simp only [decide_eq_true_eq] at h
 unfold yO; rw [if_pos h]
 refine ⟨by simp, ?_⟩
 cases t with
 | nil=>simp at h
 | cons a t=>simp
theorem qUM {t:List UInt8} {a b:Bool} (h1:a=decide (t.head?=some 45)) (h2:b=decide (t.head?=some 43)) (h:a=false∧b=false):t=yO t:=by
 subst h1; subst h2
 simp only [decide_eq_false_iff_not] at h
 unfold yO; rw [if_neg (fun h'=>h'.elim h.1 h.2)]
theorem qNQ (s:List UInt8) (hs:s.length≤1000000000000):AFn Tryz.prog G 107 [.str s] (.tup [.int .i64 ((qCJ s).getD 0),.bool (qCJ s).isSome]):=by
 refine AFn.introU tok Tryz.func107 (by kernel_rfl) rfl rfl ?_
 simp only [Tryz.f107,qO,List.map_cons,List.map_nil]
 refine rgn [] [[],[0]] ?_
 iterate 2 refine op1 tok ?_
 refine qA (AW.seq (rgn [] [[],[0,11]] ?_))
 iterate 2 refine op1 tok ?_
 refine qA (cnd ?_ ?_)
 ·intro h11
  try simp at h11
  subst h11
  refine rgn [] [[],[]] ?_
  iterate 2 refine op1 tok ?_
  refine qA ?_
  exact AW.ret (qK (k:=by simp [qCJ]))
 intro h11
 try simp at h11
 obtain ⟨b,t,rfl⟩:∃ b t,s=b::t:=by
  cases s with
  | nil=>exact absurd rfl h11
  | cons b t=>exact ⟨b,t,rfl⟩
 have hp1:=qFD t 45
 have hp2:=qFD t 43
 have hlt:=qYF t
 simp only [List.length_cons] at hs
 refine AW.skip (AW.seq (rgn [.int .u8 b.toNat,.int .u8 b.toNat] [[],[],[],[],[],[0,15,17],[],[0,19]] ?_))
 iterate 4 refine op1 tok ?_ (hv:=by first | with_reducible exact True.intro | (simp; done) | omega | simp | (simp +contextual; omega))
 iterate 3 refine op2 tok ?_ (hv:=by first | with_reducible exact True.intro | (simp; done) | omega | simp | (simp +contextual; omega))
 refine op1 tok ?_ (hv:=by first | with_reducible exact True.intro | (simp; done) | omega | simp | (simp +contextual; omega))
 refine qA (cnd ?_ ?_)
 ·intro h19
  try simp at h19
  have he:qCJ (b::t)=none:=by
   unfold qCJ; simp only; rw [if_pos ⟨by rintro rfl; exact h19.1 rfl,by rintro rfl; exact h19.2 rfl⟩]
  refine rgn [] [[],[]] ?_
  iterate 2 refine op1 tok ?_
  refine qA ?_
  exact AW.ret (qK (k:=by simp [he]))
 intro h19
 try simp at h19
 have hb:¬ (b≠101∧b≠69):=by
  rintro ⟨h1,h2⟩
  have h1':b.toNat≠101:=fun e=>h1 (UInt8.toNat_inj.1 e)
  have h2':b.toNat≠69:=fun e=>h2 (UInt8.toNat_inj.1 e)
  have:=h19 (by omega)
  omega
 have he : qCJ (b :: t) = if (yO t).dropWhile qG ≠ [] ∨ ((yO t).takeWhile qG).length < 1 ∨ 2 < ((yO t).takeWhile qG).length then none
   else some (if t.head?=some 45 then-(qAR ((yO t).takeWhile qG):Int) else qAR ((yO t).takeWhile qG)):=by
  unfold qCJ; simp only; rw [if_neg hb]
 rw [he]
 clear he
 have hlead:=qBI (G:=G) (yO t)
 have hall:=qUH (yO t)
 refine AW.skip (rgn [] [[],[],[0]] ?_)
 iterate 3 refine op1 tok ?_
 refine qA (rgn [.nilp,.bool (yC t [45])] [[],[],[0,4]] ?_)
 iterate 3 refine op1 tok ?_
 refine qA ?_
 refine AW.join (α:=Unit) (fun _=>True) (fun a=>⟨zF 63 [(0,.p (.str (yO t))),(4,.p (.bool (yC t [45])))],[],[],0⟩) ?_ ?_
 ·
  refine rgn [.nilp,.bool (yC t [43])] [[],[],[],[],[0,4,28]] ?_
  iterate 2 refine op1 tok ?_
  iterate 2 refine op2 tok ?_
  refine op1 tok ?_
  refine qA (cnd ?_ ?_)
  ·intro h28
   try simp at h28
   have hsT:=zDO hp1 hp2 h28
   refine rgz [] [[],[],[0,4]] ?_
   iterate 3 refine op1 tok ?_
   refine qA ?_
   exact ⟨(),trivial,qF (by simp [hsT.1]),rfl,by simp [hsT.1],by simp [hsT.1]⟩
  intro h28
  try simp at h28
  refine AW.skip ?_
  exact ⟨(),trivial,qF (by simp [(qUM hp1 hp2 h28).symm]),rfl,by simp [(qUM hp1 hp2 h28).symm],by simp [(qUM hp1 hp2 h28).symm]⟩
 ·
  rintro a hI
  generalize yO t=u at *
  generalize u.takeWhile qG=D at *
  generalize u.dropWhile qG=E at *
  refine rgn [.nilp,.tup [.str D,.str E]] [[],[],[],[],[4,34,35],[],[4,5,6]] ?_
  iterate 7 refine oq1 tok hlead ?_
  refine qA (AW.seq (rgn [] [[],[],[],[],[4,5,38,40],[],[],[4,5,43],[],[],[],[4,5,47]] ?_))
  iterate 12 first | refine op1 tok ?_ | refine op2 tok ?_
  refine qA (cnd ?_ ?_)
  ·intro h47
   try simp at h47
   rw [if_pos (h47.elim (fun h=>h.elim .inl (fun h => .inr (.inl (by omega)))) (fun h => .inr (.inr (by omega))))]
   refine rgn [] [[],[]] ?_
   iterate 2 refine op1 tok ?_
   exact qA (AW.ret qK)
  intro h47
  try simp at h47
  rw [if_neg (by
   rintro (h | h)
   ·exact h h47.1.1
   omega)]
  have hD2:D.length≤2:=by omega
  refine AW.skip (rgn [] [[]] ?_)
  refine op1 tok ?_
  refine qA (AW.seq (rgn [] [[],[4,7,49]] ?_))
  iterate 2 refine op1 tok ?_
  refine qA (AW.block ?_)
  refine AW.loop (α:=Nat) (fun pos=>pos≤D.length) (fun pos=>⟨zF 63 [(4,.p (.bool (yC t [45]))),(7,.p (.int .i64 (qAR (D.take pos)))),(49,.it 49)],[],[(49,.iter D pos)],0⟩) (fun pos=>D.length-pos) (0) (by omega) ⟨qF (by simp [qAR]),rfl,by simp,by simp⟩ ?_
  rintro pos hp
  have hvl:qAR (D.take pos)<10 ^ (D.take pos).length:=qQM (qAE hall pos)
  have hpw:10 ^ (D.take pos).length≤10 ^ 2:=Nat.pow_le_pow_right (by omega) (by simp; omega)
  by_cases hs14:pos<D.length
  ·
   refine rgn [.bool true] [[],[]] ?_
   iterate 2 refine oq1 tok hs14 ?_
   refine qA (AW.seq (cnd ?_ ?_))
   ·intro h51
    try simp at h51
    obtain ⟨c,hc⟩:∃ c,D[pos]?=some c:=⟨D[pos],by simp [hs14]⟩
    have hcd:qG c=true:=List.all_eq_true.1 hall c (List.mem_of_getElem? hc)
    have hcd2:48≤c.toNat∧c.toNat≤57:=by simp [qG,uV] at hcd; omega
    have hdl:jG D pos=(c.toNat,1):=by
     have hg:D.getD pos 0=c:=by simp [List.getD_eq_getElem?_getD,hc]
     have:=qHC (s:=D) (pos:=pos) hs14 (by rw [hg]; omega)
     rw [hg] at this; exact this
    have hsn:qAR (D.take (pos+1))=qAR (D.take pos) * 10+(c.toNat-48):=by rw [List.take_add_one,hc]; exact qIE _ _
    rw [hdl]
    refine AW.skip (AW.block (rgn [] [[],[4,7,9,49]] ?_))
    iterate 2 refine op1 tok ?_
    refine qA (rgz [] [[],[],[],[4,49,54,56],[],[],[4,7,49]] ?_)
    iterate 7 refine op1 tok ?_ (hv:=by first | with_reducible exact True.intro | (omega; done) | omega | simp | (simp +contextual; omega))
    refine qA ?_
    exact ⟨pos+1,by omega,by omega,qF (by simp [hsn,(show ((c.toNat-48:Nat):Int)=(c.toNat:Int)-48 by omega)]),rfl,by simp [hsn,(show ((c.toNat-48:Nat):Int)=(c.toNat:Int)-48 by omega)],by simp [hsn,(show ((c.toNat-48:Nat):Int)=(c.toNat:Int)-48 by omega)]⟩
   intro h51
   try simp at h51
  ·
   refine rgn [.bool false] [[],[]] ?_
   iterate 2 refine oq1 tok hs14 ?_
   refine qA (AW.seq (cnd ?_ ?_))
   ·intro h51
    try simp at h51
   intro h51
   try simp at h51
   have hpD:D.take pos=D:=List.take_of_length_le (by omega)
   rw [hpD] at hvl hpw ⊢
   refine AW.exit ?_
   simp
   refine AW.seq (rgn [] [[7,59]] ?_)
   refine op1 tok ?_
   refine qA (cnd ?_ ?_)
   ·intro h59
    try simp at h59
    rw [hp1] at h59
    have ht:t.head?=some 45:=by simpa using h59
    rw [if_pos ht]
    have hw:IntKind.i64.wrap (-(qAR D:Int)) = -(qAR D:Int):=by simp [IntKind.wrap,IntKind.bits,IntKind.signed]; omega
    refine rgz [] [[],[],[7]] ?_
    iterate 3 refine op1 tok ?_ (hv:=by first | with_reducible exact True.intro | (omega; done) | omega | simp | (simp +contextual; omega))
    refine qA (rgn [] [[],[],[2,3]] ?_)
    iterate 3 refine op1 tok ?_
    refine qA ?_
    exact AW.ret (qK (k:=by simp [hw]))
   intro h59
   try simp at h59
   rw [hp1] at h59
   have ht:¬ t.head?=some 45:=by simpa using h59
   rw [if_neg ht]
   refine AW.skip (rgn [] [[],[],[2,3]] ?_)
   iterate 3 refine op1 tok ?_
   exact qA (AW.ret qK)
theorem qFC (neg:Bool) (digits:List UInt8) (scale:Nat) (hd:digits.length≤10000000000) (hs:scale≤10000000000):AFn Tryz.prog G 95 [.bool neg,.str digits,.int .i64 scale] (.tup [(zQ neg digits scale).1.enc,.int .i64 (zQ neg digits scale).2]):=by
 refine AFn.introU tok Tryz.func95 (by kernel_rfl) rfl rfl ?_
 simp only [Tryz.f95,qO,List.map_cons,List.map_nil]
 have hstr:(qP digits).length≤digits.length:=qYW digits
 refine rgn [] [[],[0,1,2,6]] ?_
 iterate 2 refine op1 tok ?_
 refine qA (rgn [.nilp,.str (qP digits)] [[],[],[0,1,2,6]] ?_)
 iterate 3 refine op1 tok ?_ (hv:=by first | with_reducible exact True.intro | (exact qLK digits 48 (by decide); done) | omega | simp | (simp +contextual; omega))
 refine qA (AW.seq (AW.block ?_))
 refine AW.loop (α:=List UInt8 × Nat) (fun a=>zK (qP digits) scale=zK a.1 a.2∧a.2≤scale∧a.1.length≤digits.length) (fun a=>⟨zF 40 [(0,.p (.bool neg)),(1,.p (.str a.1)),(2,.p (.int .i64 a.2)),(6,.ptr 6 0)],[],[(6,.vars 26 [.p (.bool false),.p (.str []),.p (.int .i64 0)])],0⟩) (fun a=>a.2) ((qP digits,scale)) ⟨rfl,Nat.le_refl _,hstr⟩ ⟨qF (by simp),rfl,by simp,by simp⟩ ?_
 rintro ⟨d,k⟩ ⟨ht,hk,hdl⟩
 simp only at ht hk hdl
 have hsf:=qLO (G:=G) d 48
 refine AW.seq (rgn [.nilp,.bool (decide (d.getLast?=some 48))] [[],[],[],[],[],[0,1,2,6,15]] ?_)
 iterate 3 refine op1 tok ?_ (hv:=by first | with_reducible exact True.intro | (first | exact fun h=>⟨h,hsf⟩ | simp; done) | omega | simp | (simp +contextual; omega))
 iterate 2 refine op2 tok ?_ (hv:=by first | with_reducible exact True.intro | (first | exact fun h=>⟨h,hsf⟩ | simp; done) | omega | simp | (simp +contextual; omega))
 refine op1 tok ?_ (hv:=by first | with_reducible exact True.intro | (first | exact fun h=>⟨h,hsf⟩ | simp; done) | omega | simp | (simp +contextual; omega))
 refine qA (cnd ?_ ?_)
 ·intro h15
  try simp at h15
  obtain ⟨k,rfl⟩:∃ k',k=k'+1:=⟨k-1,by omega⟩
  have hl:d.getLast?=some 48:=by simpa using h15.2
  have hpos:0<d.length:=by cases d with
   | nil=>simp at hl
   | cons=>simp
  have ht':zK (qP digits) scale=zK d.dropLast k:=by rw [ht]; simp only [zK]; rw [if_pos hl]
  refine AW.skip (AW.block (rgz [] [[],[],[],[],[0,2,6,20],[],[],[],[0,1,2,6]] ?_))
  iterate 9 refine op1 tok ?_ (hv:=by first | with_reducible exact True.intro | (omega; done) | omega | simp | (simp +contextual; omega))
  refine qA ?_
  exact ⟨(d.dropLast,k),⟨ht',by simp only []; omega,by simp; omega⟩,by simp,qF (by simp [jH]),rfl,by simp [jH],by simp [jH]⟩
 intro h15
 try simp at h15
 have htl:zK (qP digits) scale=(d,k):=by
  rw [ht]
  cases k with
  | zero=>rfl
  | succ k =>
   simp only [zK]
   rw [if_neg]
   intro hl
   have:=h15 (by omega)
   simp [hl] at this
 have hN:zQ neg digits scale=if d=[] then (⟨false,[48],0⟩,0) else if 60<d.length∨60<k then (⟨false,[],0⟩,3) else (⟨neg,d,k⟩,0):=by unfold zQ; simp only [htl]
 rw [hN]
 refine AW.exit ?_
 simp
 refine AW.seq (AW.block (rgn [] [[],[],[0,1,2,6,23]] ?_))
 iterate 3 refine op1 tok ?_
 refine qA (cnd ?_ ?_)
 ·intro h23
  try simp at h23
  subst h23
  refine rgn [] [[],[],[6,7]] ?_
  iterate 3 refine op1 tok ?_
  exact qA (AW.ret qK)
 intro h23
 try simp at h23
 rw [if_neg h23]
 refine rgn [] [[],[],[],[],[],[0,1,2,6,31,33],[],[0,1,2,6,27]] ?_
 iterate 4 refine op1 tok ?_
 iterate 2 refine op2 tok ?_
 iterate 2 refine op1 tok ?_
 refine qA (cnd ?_ ?_)
 ·intro h27
  try simp at h27
  rw [if_pos (by omega)]
  refine rgn [] [[],[],[6,7]] ?_
  iterate 3 refine op1 tok ?_
  exact qA (AW.ret qK)
 intro h27
 try simp at h27
 rw [if_neg (by omega)]
 refine AW.skip (rgn [] [[],[],[],[6,39],[],[6,7]] ?_)
 iterate 6 refine op1 tok ?_
 exact qA (AW.ret qK)
theorem qWU (s:List UInt8):xS s [45]=xC s∧yC s [45]=qMW s:=by
 have h:=qFD s 45
 unfold xS xC qMW
 rw [h]
 refine ⟨?_,rfl⟩
 simp
theorem qZC (s:List UInt8):(xC s).length≤s.length:=by unfold xC; split <;> simp
theorem zAW {W:List UInt8} (h:(((W[0]?.getD 0).toNat:Nat):Int)=48):W.head?=some 48:=by
 cases W with
 | nil=>simp at h
 | cons b W=>simp at h ⊢; exact UInt8.toNat_inj.1 (by show b.toNat=48; omega)
theorem qZS (n:Nat):Lib.repeatL [48] n=qV n:=by
 unfold qV
 induction n with
 | zero=>rfl
 | succ n ih=>simp only [Lib.repeatL,List.replicate_succ,ih]; rfl
theorem qPN (q:List UInt8) : -99≤(qCJ q).getD 0∧(qCJ q).getD 0≤99:=by
 unfold qCJ
 split
 ·simp
 rename_i b t
 split
 ·simp
 split
 ·simp
 rename_i h
 have h1:=qQM (qUH (yO t))
 have h2:10 ^ ((yO t).takeWhile qG).length≤10 ^ 2:=Nat.pow_le_pow_right (by omega) (by omega)
 simp only [Option.getD_some]
 split <;> omega
theorem qER (s:List UInt8) (hs:s.length≤1000000000):AFn Tryz.prog G 74 [.str s] (.tup [(xU s).1.enc,.int .i64 (xU s).2]):=by
 refine AFn.introU tok Tryz.func74 (by kernel_rfl) rfl rfl ?_
 simp only [Tryz.f74,qO,List.map_cons,List.map_nil]
 have hbp:=qWU s
 have hbl:=qZC s
 have hP:xU s=match qCI ((xC s).dropWhile qG) with
  | none=>qHG
  | some (P,r)=>qPP (qMW s) ((xC s).takeWhile qG) P (qCJ r):=rfl
 rw [hP]
 clear hP
 have hl1:=qBI (G:=G) (xC s)
 have hw1:=qUG (xC s)
 have hw2:=qZZ (xC s)
 have hcp:=qCS (G:=G) s [45]
 rw [hbp.1,hbp.2] at hcp
 generalize xC s=u at *
 generalize qMW s=ng at *
 generalize u.takeWhile qG=W at *
 generalize u.dropWhile qG=r at *
 have hcr:=qCS (G:=G) r [46]
 have hr46:=qFD r 46
 have hcut:xS r [46]=if r.head?=some 46 then r.drop 1 else r:=by unfold xS; rw [hr46]; simp
 have hl2:=qBI (G:=G) (r.drop 1)
 have hv1:=qUG (r.drop 1)
 have hv2:=qZZ (r.drop 1)
 rw [List.length_drop] at hv1 hv2
 refine rgn [] [[],[0,2]] ?_
 iterate 2 refine op1 tok ?_
 refine qA (rgn [.nilp,.tup [.str u,.bool ng]] [[],[],[],[],[2,17,18],[],[2,4,5]] ?_)
 iterate 7 refine oq1 tok hcp ?_
 refine qA (rgn [.nilp,.tup [.str W,.str r]] [[],[],[],[],[2,5,22,23],[],[2,4,5,6]] ?_)
 iterate 7 refine oq1 tok hl1 ?_
 refine qA (rgn [] [[]] ?_)
 refine op1 tok ?_
 refine qA ?_
 refine AW.join (α:=List UInt8 × List UInt8) (fun a=>qCI r=some (a.1,a.2)∧a.1.length≤s.length∧a.2.length≤s.length) (fun a=>⟨zF 80 [(2,.ptr 2 0),(4,.p (.str a.2)),(5,.p (.bool ng)),(6,.p (.str W)),(7,.p (.str a.1))],[],[(2,.vars 26 [.p (.bool false),.p (.str []),.p (.int .i64 0)])],0⟩) ?_ ?_
 ·
  refine rgn [.nilp,.tup [.str (xS r [46]),.bool (yC r [46])]] [[],[],[],[],[],[2,4,5,6,7,8,28],[2,4,5,6,7,8,9]] ?_
  iterate 7 refine oq1 tok hcr ?_
  refine qA (rgn [] [[2,4,5,6,7,8,29]] ?_)
  refine op1 tok ?_
  refine qA (cnd ?_ ?_)
  ·intro h29
   try simp at h29
   have hh:r.head?=some 46:=by rw [hr46] at h29; simpa using h29
   rw [if_pos hh] at hcut
   rw [hcut]
   have hF:qCI r=if (r.drop 1).takeWhile qG=[] then none else some ((r.drop 1).takeWhile qG,(r.drop 1).dropWhile qG):=by unfold qCI; rw [if_pos hh]
   rw [hF]
   generalize (r.drop 1).takeWhile qG=P at *
   generalize (r.drop 1).dropWhile qG=q at *
   rw [List.drop_one] at hl2
   refine rgn [.nilp,.tup [.str P,.str q]] [[],[],[],[],[2,5,6,33,34],[],[2,4,5,6,7]] ?_
   iterate 7 refine oq1 tok hl2 ?_
   refine qA (rgn [] [[],[2,4,5,6,7,36]] ?_)
   iterate 2 refine op1 tok ?_
   refine qA (cnd ?_ ?_)
   ·intro h36
    try simp at h36
    rw [if_pos h36]
    refine rgn [] [[],[],[2,3]] ?_
    iterate 3 refine op1 tok ?_
    refine qA ?_
    exact AW.ret (qK (k:=by simp [qHG]))
   intro h36
   try simp at h36
   rw [if_neg h36]
   refine AW.skip ?_
   exact ⟨(P,q),⟨rfl,by simp only []; omega,by simp only []; omega⟩,qF (by simp),rfl,by simp,by simp⟩
  intro h29
  try simp at h29
  have hh:¬ r.head?=some 46:=by rw [hr46] at h29; simpa using h29
  have hF:qCI r=some ([],r):=by unfold qCI; rw [if_neg hh]
  rw [hF]
  refine AW.skip ?_
  exact ⟨([],r),⟨rfl,by simp,by simp only []; omega⟩,qF (by simp),rfl,by simp,by simp⟩
 ·
  rintro ⟨P,q⟩ ⟨hf,hpl,hql⟩
  simp only at hpl hql
  rw [hf]
  simp only
  have hex:=qNQ (G:=G) q (by omega)
  have hrg:=qPN q
  generalize qCJ q=e at *
  have hix:∀ h:W≠[],W[0]?=some (W.getD 0 0):=fun h=>qNM (List.length_pos_iff.2 h)
  refine rgn [.nilp,.tup [.int .i64 (e.getD 0),.bool e.isSome]] [[],[],[],[],[2,5,6,7,41,42],[],[2,5,6,7,10,11]] ?_
  iterate 7 refine oq1 tok hex ?_
  refine qA (AW.seq (rgn [.int .u8 (W.getD 0 0).toNat] [[],[],[],[],[2,5,6,7,10,45,47],[],[],[],[2,5,6,7,10,49,51],[],[],[],[],[2,5,6,7,10,49,53,56],[],[2,5,6,7,10,58]] ?_))
  iterate 16 first | refine op1 tok ?_ (hv:=by first | with_reducible exact True.intro | (first | exact fun h1 h2 h3=>⟨⟨⟨h1,h2⟩,h3⟩,_,hix h2,rfl⟩ | exact fun h1 h2=>⟨⟨h1,h2⟩,fun h3=>⟨⟨h1,h2⟩,h3⟩⟩ | simp; done) | omega | simp | (simp +contextual; omega)) | refine op2 tok ?_ (hv:=by first | with_reducible exact True.intro | (first | exact fun h1 h2 h3=>⟨⟨⟨h1,h2⟩,h3⟩,_,hix h2,rfl⟩ | exact fun h1 h2=>⟨⟨h1,h2⟩,fun h3=>⟨⟨h1,h2⟩,h3⟩⟩ | simp; done) | omega | simp | (simp +contextual; omega))
  refine qA (cnd ?_ ?_)
  ·intro h58
   try simp at h58
   have hbad:qPP ng W P e=qHG:=by
    cases e with
    | none=>rfl
    | some up =>
     simp only [qPP]
     rw [if_pos]
     rcases h58 with (h | h) | h
     ·cases h
     ·exact .inl h
     exact .inr ⟨by omega,zAW h.2⟩
   rw [hbad]
   refine rgn [] [[],[],[2,3]] ?_
   iterate 3 refine op1 tok ?_
   refine qA ?_
   exact AW.ret (qK (k:=by simp [qHG]))
  intro h58
  try simp at h58
  obtain ⟨up,rfl⟩:∃ up,e=some up:=by
   cases e with
   | none=>exact absurd rfl h58.1.1
   | some up=>exact ⟨up,rfl⟩
  have hend:qPP ng W P (some up)=qGO ng (W++P) (P.length-up):=by
   simp only [qPP]; rw [if_neg]
   rintro (h | ⟨h,h'⟩)
   ·exact h58.1.2 h
   refine h58.2 (by omega) ?_
   cases W with
   | nil=>simp at h'
   | cons b W=>simp at h'; subst h'; rfl
  rw [hend]
  simp only [Option.getD_some] at hrg ⊢
  have hWP:(W++P).length≤2000000000:=by simp; omega
  refine AW.skip (rgn [] [[],[],[],[2,5,10,62,63],[],[],[2,5,62,66],[],[2,5,12,13]] ?_)
  iterate 9 refine op1 tok ?_
  refine qA (AW.seq (rgn [] [[],[2,5,12,13,68]] ?_))
  iterate 2 refine op1 tok ?_
  refine qA (cnd ?_ ?_)
  ·intro h68
   try simp at h68
   obtain ⟨z,hz⟩:∃ z:Nat,(z:Int)=up-P.length:=⟨(up-P.length).toNat,by omega⟩
   have hw3:IntKind.i64.wrap (-((P.length:Int)-up))=(z:Int):=by simp [IntKind.wrap,IntKind.bits,IntKind.signed]; omega
   have hrp:=qDT (G:=G) [48] z (by simp; omega)
   rw [qZS] at hrp
   have hL:qGO ng (W++P) ((P.length:Int)-up)=zQ ng (W++(P++qV z)) 0:=by
    unfold qGO; rw [if_pos h68,show (-((P.length:Int)-up)).toNat=z by omega,List.append_assoc]
   have hzl:(qV z).length=z:=by simp [qV]
   rw [hL]
   have hmd:=qFC (G:=G) ng (W++(P++qV z)) 0 (by simp [qV] at hWP ⊢; omega) (by omega)
   refine rgz [.nilp,.str (qV z)] [[],[],[],[2,5,69,72],[],[],[2,5,12,13]] ?_
   iterate 7 refine op1 tok ?_ (hv:=by first | with_reducible exact True.intro | (first | (rw [hw3]; exact hrp) | (simp at hWP; omega); done) | omega | simp | (simp +contextual; omega))
   refine qA (rgn [.nilp,.tup [(zQ ng (W++(P++qV z)) 0).1.enc,.int .i64 (zQ ng (W++(P++qV z)) 0).2]] [[],[],[],[2,77],[],[],[],[2,3]] ?_)
   iterate 8 refine oq1 tok hmd ?_
   exact qA (AW.ret qK)
  intro h68
  try simp at h68
  obtain ⟨sc,hsc⟩:∃ sc:Nat,(sc:Int)=P.length-up:=⟨((P.length:Int)-up).toNat,by omega⟩
  have hL:qGO ng (W++P) ((P.length:Int)-up)=zQ ng (W++P) sc:=by
   unfold qGO; rw [if_neg (by omega),show ((P.length:Int)-up).toNat=sc by omega]
  rw [hL]
  have hmd:=qFC (G:=G) ng (W++P) sc (by omega) (by omega)
  rw [hsc] at hmd
  refine AW.skip (rgn [.nilp,.tup [(zQ ng (W++P) sc).1.enc,.int .i64 (zQ ng (W++P) sc).2]] [[],[],[],[2,77],[],[],[],[2,3]] ?_)
  iterate 8 refine oq1 tok hmd ?_
  exact qA (AW.ret qK)
theorem qEQ (d:Dc) (hd:qQ d=true):AFn Tryz.prog G 114 [d.enc] (.str (zT d)):=by
 refine AFn.introU tok Tryz.func114 (by kernel_rfl) rfl rfl ?_
 simp only [Tryz.f114,qO,List.map_cons,List.map_nil]
 have hb:=yA hd
 have hrp:=qDT (G:=G) [48] (d.scale.toNat+1-d.digits.length) (by simp; omega)
 rw [qZS] at hrp
 have hmx:(if (d.digits.length:Int)<d.scale+1 then d.scale+1-d.digits.length else 0)=((d.scale.toNat+1-d.digits.length:Nat):Int):=by split <;> omega
 have hzl:(qV (d.scale.toNat+1-d.digits.length)).length=d.scale.toNat+1-d.digits.length:=by simp [qV]
 have hpl:(zN d).length=d.scale.toNat+1-d.digits.length+d.digits.length:=by simp [zN,qV]
 have hP:zT d=(if d.neg=true then [45] else [])++(if d.scale=0 then zN d else (zN d).take ((zN d).length-d.scale.toNat)++46::(zN d).drop ((zN d).length-d.scale.toNat)):=rfl
 have hpad:qV (d.scale.toNat+1-d.digits.length)++d.digits=zN d:=rfl
 rw [hP]
 refine rgn [] [[],[1]] ?_
 iterate 2 refine op1 tok ?_
 refine qA ?_
 refine AW.seqRunDrawK tok mixed [1,3] 12 [[1],[6],[7],[1],[9],[10],[8,11],[12],[13],[1],[15],[14,16]] [.nilp,.str (qV (d.scale.toNat+1-d.digits.length))] [] (by kernel_rfl) (by intro C; conv=>lhs; simp) (by rw [hmx]; refine ⟨by omega,by omega,hrp,by omega⟩) (by simp [Sm.sum,Sm.foot,Sm.tch,Sm.refs]; kernel_rfl) (by intro C; conv=>lhs; simp) (by first | with_reducible exact True.intro | omega | simp | (simp +contextual; omega)) ?_
 refine rgn [] [[]] ?_
 refine op1 tok ?_
 refine qA ?_
 refine AW.join (α:=Unit) (fun _=>True) (fun a=>⟨zF 41 [(1,.ptr 1 0),(3,.p (.str (zN d))),(4,.p (.str (if d.neg=true then [45] else [])))],[],[(1,.vars 26 [.p (.bool d.neg),.p (.str d.digits),.p (.int .i64 d.scale)])],0⟩) ?_ ?_
 ·
  refine rgn [] [[],[1,3,4,19]] ?_
  iterate 2 refine op1 tok ?_
  refine qA (cnd ?_ ?_)
  ·intro h19
   try simp at h19
   refine rgz [] [[]] ?_
   refine op1 tok ?_
   refine qA ?_
   exact ⟨(),trivial,qF (by simp [hpad,h19]),rfl,by simp [hpad,h19],by simp [hpad,h19]⟩
  intro h19
  try simp at h19
  refine AW.skip ?_
  exact ⟨(),trivial,qF (by simp [hpad,h19]),rfl,by simp [hpad,h19],by simp [hpad,h19]⟩
 ·
  rintro a hI
  have hsg:(if d.neg=true then [45] else []:List UInt8).length≤1:=by split <;> simp
  generalize (if d.neg=true then [45] else []:List UInt8)=sg at *
  have hk:((zN d).length-d.scale).toNat=(zN d).length-d.scale.toNat:=by omega
  generalize zN d=pd at *
  refine AW.seq (rgn [] [[],[],[1,3,4,22]] ?_)
  iterate 3 refine op1 tok ?_
  refine qA (cnd ?_ ?_)
  ·intro h22
   try simp at h22
   refine rgn [] [[],[],[25],[2]] ?_
   iterate 4 refine op1 tok ?_ (hv:=by first | with_reducible exact True.intro | (omega; done) | omega | simp | (simp +contextual; omega))
   refine qA ?_
   exact AW.ret (qK (k:=by simp [h22]))
  intro h22
  try simp at h22
  refine AW.skip (rgn [] [[],[],[],[],[3,4,30],[3,4,5]] ?_)
  iterate 6 refine op1 tok ?_
  refine qA ?_
  refine AW.seqRunDrawK tok mixed [2] 10 [[4],[3],[5],[32,33],[31,34],[35],[3],[5],[37,38],[36,39]] [] [] (by kernel_rfl) (by intro C; conv=>lhs; simp) (by omega) (by simp [Sm.sum,Sm.foot,Sm.tch,Sm.refs]; kernel_rfl) (by intro C; conv=>lhs; simp) (by first | with_reducible exact True.intro | omega | simp | (simp +contextual; omega)) ?_
  exact AW.ret (qK (k:=by simp [h22,hk]))
theorem zJ {d:Dc} (h:qQ d=true):okD d∧d.digits.length≤60∧d.scale≤60:=by
 unfold qQ at h
 simp only [Bool.and_eq_true,decide_eq_true_eq] at h
 obtain ⟨⟨h1,h2⟩,_⟩:=h
 exact ⟨⟨by omega,by omega,by omega,h1⟩,by omega,by omega⟩
def qN (d:Dc):Nat:=qR d.digits * 10 ^ (60-d.scale.toNat)
def qD (d:Dc):Int:=if d.neg=true then-(qN d:Int) else qN d
theorem qYG {a:Int} {k:Int} (hk:0<k):sgn (a * k)=sgn a:=by
 unfold sgn
 by_cases h1:a<0
 ·rw [if_pos h1,if_pos (Int.mul_neg_of_neg_of_pos h1 hk)]
 rw [if_neg h1]
 by_cases h2:a=0
 ·subst h2; simp
 have:=Int.mul_pos (show 0<a by omega) hk
 rw [if_neg h2,if_neg (by omega),if_neg (by omega)]
theorem qUQ {a b:Dc} (ha:qQ a=true) (hb:qQ b=true):sgn (qKH a b)=sgn ((qN a:Int)-qN b):=by
 obtain ⟨⟨a1,a2,a3,a4⟩,a5,a6⟩:=zJ ha
 obtain ⟨⟨b1,b2,b3,b4⟩,b5,b6⟩:=zJ hb
 have hm1:a.scale≤qX a b:=by unfold qX; split <;> omega
 have hm2:b.scale≤qX a b:=by unfold qX; split <;> omega
 have hm3:qX a b≤60:=by unfold qX; split <;> omega
 unfold qKH kU
 rw [qEF (qCD (yE a4 _)) (qCD (yE b4 _)),qCC (yE a4 _),qCC (yE b4 _),jN,jN]
 have ea:(qN a:Int)=((qR a.digits * 10 ^ (qX a b-a.scale).toNat:Nat):Int) * ((10 ^ (60-(qX a b).toNat):Nat):Int):=by
  rw [← Int.natCast_mul,Nat.mul_assoc,← Nat.pow_add,show (qX a b-a.scale).toNat+(60-(qX a b).toNat)=60-a.scale.toNat by omega]; rfl
 have eb:(qN b:Int)=((qR b.digits * 10 ^ (qX a b-b.scale).toNat:Nat):Int) * ((10 ^ (60-(qX a b).toNat):Nat):Int):=by
  rw [← Int.natCast_mul,Nat.mul_assoc,← Nat.pow_add,show (qX a b-b.scale).toNat+(60-(qX a b).toNat)=60-b.scale.toNat by omega]; rfl
 rw [ea,eb,← Int.sub_mul,qYG (by have:=Nat.pow_pos (n:=60-(qX a b).toNat) (show 0<10 by omega); omega)]
theorem qQS (n:Int):sgn (- n) = - sgn n:=by unfold sgn; split <;> split <;> (try split) <;> omega
theorem kT {s:List UInt8} (hd:s.all qG=true) (hl:0<s.length) (h:zA s 0≠48):10 ^ (s.length-1)≤qR s:=by
 cases s with
 | nil=>simp at hl
 | cons b s =>
  simp only [List.all_cons,Bool.and_eq_true] at hd
  have h1:=(wB b).1 hd.1
  have h2:b.toNat≠48:=by simp [zA] at h; omega
  rw [wZ]
  have:=Nat.mul_le_mul_right (10 ^ s.length) (show 1≤b.toNat-48 by omega)
  simp; omega
theorem qQT {d:Dc} (h:qQ d=true) (h0:qN d=0):d.neg=false:=by
 have hk:=zJ h
 unfold qQ at h
 simp only [Bool.and_eq_true,decide_eq_true_eq] at h
 obtain ⟨⟨h1,h2⟩,h3⟩:=h
 by_cases hz:d.digits=[48]
 ·rw [if_pos hz] at h3; simp at h3; exact h3.2
 rw [if_neg hz] at h3
 simp at h3
 have:=kT h1 (by omega) h3.1
 have hp:=Nat.pow_pos (n:=d.digits.length-1) (show 0<10 by omega)
 have hq:0<qN d:=Nat.mul_pos (by omega) (Nat.pow_pos (by omega))
 omega
theorem qAP {a b:Dc} (ha:qQ a=true) (hb:qQ b=true):qCP a b=sgn (qD a-qD b):=by
 have hr:=qUQ ha hb
 unfold qCP
 by_cases h:a.neg=b.neg
 ·rw [if_pos h]
  unfold qD
  rw [← h]
  split
  ·rw [qQS,hr,← qQS]; congr 1; omega
  exact hr
 rw [if_neg h]
 have hz1:=fun h0=>qQT ha h0
 have hz2:=fun h0=>qQT hb h0
 unfold qD
 cases hna:a.neg with
 | true =>
  have hnb:b.neg=false:=by rw [hna] at h; simpa using h
  have:qN a≠0:=fun e=>by have:=hz1 e; rw [hna] at this; cases this
  rw [hnb]; simp [sgn]; omega
 | false =>
  have hnb:b.neg=true:=by rw [hna] at h; simpa using h
  have:qN b≠0:=fun e=>by have:=hz2 e; rw [hnb] at this; cases this
  rw [hnb]; simp [sgn]; omega
theorem qFG:∀ (x y:List UInt8),x.length=y.length→x.all qG=true→y.all qG=true→(Op.bytesLess x y=true↔qR x<qR y)
 | [],[],_,_,_=>by simp [Op.bytesLess]
 | [],_::_,h,_,_=>by simp at h
 | _::_,[],h,_,_=>by simp at h
 | a::x,b::y,h,hx,hy=>by
  simp only [List.all_cons,Bool.and_eq_true] at hx hy
  have hl:x.length=y.length:=by simpa using h
  have ih:=qFG x y hl hx.2 hy.2
  have da:=(wB a).1 hx.1
  have db:=(wB b).1 hy.1
  have lx:=wH hx.2
  have ly:=wH hy.2
  rw [wZ,wZ,hl]
  rw [hl] at lx
  simp only [Op.bytesLess,Bool.or_eq_true,Bool.and_eq_true,decide_eq_true_eq,beq_iff_eq,UInt8.lt_iff_toNat_lt,ih]
  by_cases h1:a.toNat<b.toNat
  ·have:=Nat.mul_le_mul_right (10 ^ y.length) (show a.toNat-48+1≤b.toNat-48 by omega)
   rw [Nat.add_mul,Nat.one_mul] at this
   exact ⟨fun _=>by omega,fun _ => .inl h1⟩
  by_cases h2:a=b
  ·subst h2
   exact ⟨fun h => by rcases h with h | h; · omega
                      ·omega,fun h => .inr ⟨rfl,by omega⟩⟩
  have h3:b.toNat<a.toNat:=by have:a.toNat≠b.toNat:=fun e=>h2 (UInt8.toNat_inj.1 e); omega
  have:=Nat.mul_le_mul_right (10 ^ y.length) (show b.toNat-48+1≤a.toNat-48 by omega)
  rw [Nat.add_mul,Nat.one_mul] at this
  exact ⟨fun h => by rcases h with h | h; · omega
                     ·exact (h2 h.1).elim,fun h=>by omega⟩
theorem qKY:∀ (x y:List UInt8),x.length=y.length→x.all qG=true→y.all qG=true→qR x=qR y→x=y
 | [],[],_,_,_,_=>rfl
 | [],_::_,h,_,_,_=>by simp at h
 | _::_,[],h,_,_,_=>by simp at h
 | a::x,b::y,h,hx,hy,he=>by
  simp only [List.all_cons,Bool.and_eq_true] at hx hy
  have hl:x.length=y.length:=by simpa using h
  have da:=(wB a).1 hx.1
  have db:=(wB b).1 hy.1
  have lx:=wH hx.2
  have ly:=wH hy.2
  rw [wZ,wZ,hl] at he
  rw [hl] at lx
  have hab:a.toNat=b.toNat:=by
   by_cases h1:a.toNat<b.toNat
   ·have:=Nat.mul_le_mul_right (10 ^ y.length) (show a.toNat-48+1≤b.toNat-48 by omega)
    rw [Nat.add_mul,Nat.one_mul] at this; omega
   by_cases h3:b.toNat<a.toNat
   ·have:=Nat.mul_le_mul_right (10 ^ y.length) (show b.toNat-48+1≤a.toNat-48 by omega)
    rw [Nat.add_mul,Nat.one_mul] at this; omega
   omega
  rw [hab] at he
  rw [UInt8.toNat_inj.1 hab,qKY x y hl hx.2 hy.2 (by omega)]
theorem qNF {x y:List UInt8} (hx:x.all qG=true) (hy:y.all qG=true) (lx:0<x.length) (ly:0<y.length) (h1:zA x 0≠48) (h2:zA y 0≠48) (h:qR x=qR y):x.length=y.length:=by
 have a1:=kT hx lx h1
 have a2:=kT hy ly h2
 have b1:=wH hx
 have b2:=wH hy
 by_cases h3:x.length<y.length
 ·have:=Nat.pow_le_pow_right (show 0<10 by omega) (show x.length≤y.length-1 by omega); omega
 by_cases h4:y.length<x.length
 ·have:=Nat.pow_le_pow_right (show 0<10 by omega) (show y.length≤x.length-1 by omega); omega
 omega
theorem vB {d:Dc} (h:qQ d=true):(d.digits=[48]∧d.scale=0∧d.neg=false)∨(zA d.digits 0≠48∧(d.scale=0∨zA d.digits (d.digits.length-1)≠48)):=by
 unfold qQ at h
 simp only [Bool.and_eq_true] at h
 obtain ⟨_,h3⟩:=h
 split at h3
 ·rename_i h4; simp at h3; exact .inl ⟨h4,h3.1,h3.2⟩
 simp at h3; exact .inr h3
theorem qVN {s:List UInt8} (h:0<s.length) (hd:s.all qG=true):((qR s % 10:Nat):Int)=zA s (s.length-1)-48:=by
 obtain ⟨t,b,rfl⟩:∃ t b,s=t++[b]:=⟨s.dropLast,s.getLast (List.length_pos_iff.1 h),(List.dropLast_concat_getLast (List.length_pos_iff.1 h)).symm⟩
 rw [List.all_append] at hd
 simp at hd
 have db:=(wB b).1 hd.2
 rw [qAG]
 have:zA (t++[b]) ((t++[b]).length-1)=(b.toNat:Int):=by simp [zA]
 rw [this]; omega
theorem zAE {a b:Dc} (ha:qQ a=true) (hb:qQ b=true) (hq:qN a=qN b):a.digits=b.digits∧a.scale=b.scale:=by
 obtain ⟨⟨a1,a2,a3,a4⟩,a5,a6⟩:=zJ ha
 obtain ⟨⟨b1,b2,b3,b4⟩,b5,b6⟩:=zJ hb
 have la:0<a.digits.length:=by unfold qQ at ha; simp at ha; omega
 have lb:0<b.digits.length:=by unfold qQ at hb; simp at hb; omega
 have key:∀ a b:Dc,qQ a=true→qQ b=true→qN a=qN b→a.scale<b.scale→False:=by
  intro a b ha hb hq hlt
  obtain ⟨⟨a1,a2,a3,a4⟩,a5,a6⟩:=zJ ha
  obtain ⟨⟨b1,b2,b3,b4⟩,b5,b6⟩:=zJ hb
  have lb:0<b.digits.length:=by unfold qQ at hb; simp at hb; omega
  rcases vB hb with h | h
  ·omega
  have hl:=h.2.resolve_left (by omega)
  unfold qN at hq
  have e:60-a.scale.toNat=((b.scale-a.scale).toNat-1)+1+(60-b.scale.toNat):=by omega
  rw [e,Nat.pow_add,← Nat.mul_assoc] at hq
  have hq':=Nat.eq_of_mul_eq_mul_right (Nat.pow_pos (n:=60-b.scale.toNat) (show 0<10 by omega)) hq
  have h10:qR b.digits % 10=0:=by rw [← hq',Nat.pow_succ,← Nat.mul_assoc]; exact Nat.mul_mod_left _ _
  have h11:=qVN lb b4
  rw [h10] at h11
  have hb':48≤zA b.digits (b.digits.length-1):=by
   obtain ⟨t,c,e⟩:∃ t c,b.digits=t++[c]:=⟨b.digits.dropLast,b.digits.getLast (List.length_pos_iff.1 lb),(List.dropLast_concat_getLast (List.length_pos_iff.1 lb)).symm⟩
   rw [e] at b4 ⊢
   rw [List.all_append] at b4
   simp at b4
   have:=(wB c).1 b4.2
   simp [zA]; omega
  omega
 have hs:a.scale=b.scale:=by
  by_cases h1:a.scale<b.scale
  ·exact (key a b ha hb hq h1).elim
  by_cases h2:b.scale<a.scale
  ·exact (key b a hb ha hq.symm h2).elim
  omega
 refine ⟨?_,hs⟩
 unfold qN at hq
 rw [hs] at hq
 have hv:=Nat.eq_of_mul_eq_mul_right (Nat.pow_pos (n:=60-b.scale.toNat) (show 0<10 by omega)) hq
 have hz:∀ d:Dc,qQ d=true→0<d.digits.length→zA d.digits 0≠48→qR d.digits≠0:=fun d hd hl h0 h=>by
  have:=kT (zJ hd).1.2.2.2 hl h0
  have:=Nat.pow_pos (n:=d.digits.length-1) (show 0<10 by omega)
  omega
 have v0:qR [48]=0:=by simp [qR]
 rcases vB ha with h1 | h1 <;> rcases vB hb with h2 | h2
 ·rw [h1.1,h2.1]
 ·rw [h1.1,v0] at hv; exact (hz b hb lb h2.1 hv.symm).elim
 ·rw [h2.1,v0] at hv; exact (hz a ha la h1.1 hv).elim
 exact qKY _ _ (qNF a4 b4 la lb h1.1 h2.1 hv) a4 b4 hv
def wO (a b:Dc):List UInt8:=a.digits++qV (qX a b-a.scale).toNat
def wN (a b:Dc):List UInt8:=b.digits++qV (qX a b-b.scale).toNat
def alX (p q:List UInt8):List UInt8:=qV ((if p.length<q.length then (q.length:Int) else (p.length:Int))-p.length).toNat++p
def alY (p q:List UInt8):List UInt8:=qV ((if p.length<q.length then (q.length:Int) else (p.length:Int))-q.length).toNat++q
theorem qQH (p q:List UInt8):(alX p q).length=(alY p q).length:=by
 unfold alX alY qV; simp only [List.length_append,List.length_replicate]; split <;> omega
theorem qFH (n:Nat):(qV n).all qG=true:=List.all_eq_true.2 fun b hb=>by rw [(List.mem_replicate.1 hb).2]; rfl
theorem qXD {p q:List UInt8} (hp:p.all qG=true) (hq:q.all qG=true):(alX p q).all qG=true∧(alY p q).all qG=true:=by
 unfold alX alY; rw [List.all_append,List.all_append,hp,hq,qFH,qFH]; exact ⟨rfl,rfl⟩
theorem qXC (p q:List UInt8):qR (alX p q)=qR p∧qR (alY p q)=qR q:=by
 unfold alX alY qV; rw [yF,yF,qAZ,qAZ]; simp
theorem qSZ {a b:Dc} (ha:qQ a=true) (hb:qQ b=true):(Op.bytesLess (alX (wO a b) (wN a b)) (alY (wO a b) (wN a b))=true↔qN a<qN b)∧(Op.bytesLess (alY (wO a b) (wN a b)) (alX (wO a b) (wN a b))=true↔qN b<qN a):=by
 obtain ⟨⟨a1,a2,a3,a4⟩,a5,a6⟩:=zJ ha
 obtain ⟨⟨b1,b2,b3,b4⟩,b5,b6⟩:=zJ hb
 have hm1:a.scale≤qX a b:=by unfold qX; split <;> omega
 have hm2:b.scale≤qX a b:=by unfold qX; split <;> omega
 have hm3:qX a b≤60:=by unfold qX; split <;> omega
 have dx:(wO a b).all qG=true:=yE a4 _
 have dy:(wN a b).all qG=true:=yE b4 _
 have hal:=qXD dx dy
 have hv:=qXC (wO a b) (wN a b)
 have ea:qN a=qR (wO a b) * 10 ^ (60-(qX a b).toNat):=by
  unfold wO qV; rw [jN,Nat.mul_assoc,← Nat.pow_add,show (qX a b-a.scale).toNat+(60-(qX a b).toNat)=60-a.scale.toNat by omega]; rfl
 have eb:qN b=qR (wN a b) * 10 ^ (60-(qX a b).toNat):=by
  unfold wN qV; rw [jN,Nat.mul_assoc,← Nat.pow_add,show (qX a b-b.scale).toNat+(60-(qX a b).toNat)=60-b.scale.toNat by omega]; rfl
 have hp:=Nat.pow_pos (n:=60-(qX a b).toNat) (show 0<10 by omega)
 rw [qFG _ _ (qQH _ _) hal.1 hal.2,qFG _ _ (qQH _ _).symm hal.2 hal.1,hv.1,hv.2,ea,eb]
 exact ⟨(Nat.mul_lt_mul_right hp).symm,(Nat.mul_lt_mul_right hp).symm⟩
theorem qMK {a b : Dc} (ha : qQ a = true) (hb : qQ b = true) (hne : a ≠ b) :
  qCP a b=if (if a.neg=b.neg then (if a.neg=true then Op.bytesLess (alY (wO a b) (wN a b)) (alX (wO a b) (wN a b)) else Op.bytesLess (alX (wO a b) (wN a b)) (alY (wO a b) (wN a b))) else a.neg)=true then -1 else 1:=by
 obtain ⟨l1,l2⟩:=qSZ ha hb
 by_cases hn:a.neg=b.neg
 ·have hq:qN a≠qN b:=fun h=>by
   obtain ⟨h1,h2⟩:=zAE ha hb h
   exact hne (Dc.ext' hn h1 h2)
  rw [qAP ha hb,if_pos hn]
  unfold qD
  rw [← hn]
  cases a.neg with
  | true =>
   simp only [if_true]
   by_cases h:qN b<qN a
   ·rw [if_pos (l2.2 h)]; unfold sgn; rw [if_pos (by omega)]
   rw [if_neg (fun e=>h (l2.1 e))]; unfold sgn; rw [if_neg (by omega),if_neg (by omega)]
  | false =>
   simp only [Bool.false_eq_true,if_false]
   by_cases h:qN a<qN b
   ·rw [if_pos (l1.2 h)]; unfold sgn; rw [if_pos (by omega)]
   rw [if_neg (fun e=>h (l1.1 e))]; unfold sgn; rw [if_neg (by omega),if_neg (by omega)]
 unfold qCP
 rw [if_neg hn,if_neg hn]
theorem qTG {a:Dc} (ha:qQ a=true):qCP a a=0:=by rw [qAP ha ha]; unfold sgn; rw [if_neg (by omega),if_pos (by omega)]
def wY:Nat→Nat→List UInt8
 | 0,_=>[]
 | w+1,v=>UInt8.ofNat (48+v / 10 ^ w % 10)::wY w v
theorem yJ:∀ w v,(wY w v).length=w
 | 0,_=>rfl
 | w+1,v=>by simp [wY,yJ w v]
theorem kS {n:Nat} (h:n<10):(UInt8.ofNat (48+n)).toNat=48+n:=by rw [UInt8.toNat_ofNat']; omega
theorem jX:∀ w v,(wY w v).all qG=true
 | 0,_=>rfl
 | w+1,v=>by
  have h:v / 10 ^ w % 10<10:=Nat.mod_lt _ (by decide)
  simp only [wY,List.all_cons,jX w v,Bool.and_true]
  rw [wB,kS h]; omega
theorem jW:∀ w v,qR (wY w v)=v % 10 ^ w
 | 0,v=>by simp [wY,qR,Nat.mod_one]
 | w+1,v=>by
  have h:v / 10 ^ w % 10<10:=Nat.mod_lt _ (by decide)
  simp only [wY]
  rw [wZ,jW w v,yJ,kS h,Nat.mod_pow_succ,Nat.mul_comm (10 ^ w)]
  rw [show 48+v / 10 ^ w % 10-48=v / 10 ^ w % 10 by omega]; omega
def zP (neg:Bool) (v scale:Nat):Dc × Int:=zQ neg (Lib.decDigits v) scale
theorem vG (u:Nat):qR (Lib.decDigits u)=u:=by
 induction u using Nat.strongRecOn with
 | _ u ih =>
  rw [Lib.decDigits]
  split
  ·rename_i h
   simp only [qR,List.foldl_cons,List.foldl_nil,kS h]; omega
  rename_i h
  rw [qAG,ih (u / 10) (by omega),kS (Nat.mod_lt _ (by decide))]; omega
theorem vH (u:Nat):(Lib.decDigits u).all qG=true:=by
 induction u using Nat.strongRecOn with
 | _ u ih =>
  rw [Lib.decDigits]
  split
  ·rename_i h
   simp only [List.all_cons,List.all_nil,Bool.and_true]
   rw [wB,kS h]; omega
  rename_i h
  rw [List.all_append,ih (u / 10) (by omega)]
  simp only [List.all_cons,List.all_nil,Bool.and_true,Bool.true_and]
  rw [wB,kS (Nat.mod_lt _ (by decide))]; omega
theorem jI:∀ s:List UInt8,qR (qP s)=qR s
 | []=>rfl
 | b::s=>by
  unfold qP
  rw [List.dropWhile_cons]
  by_cases h:b=48
  ·subst h
   simp only [beq_self_eq_true,if_true]
   have:=jI s
   unfold qP at this
   rw [this,wZ]; simp
  rw [if_neg (by simpa using h)]
theorem vL (s:List UInt8) (h:0<(qP s).length):zA (qP s) 0≠48:=by
 unfold qP at h ⊢
 have:=List.head?_dropWhile_not (fun b:UInt8=>b == 48) s
 cases hs:s.dropWhile (fun b=>b == 48) with
 | nil=>rw [hs] at h; simp at h
 | cons b r =>
  rw [hs] at this
  simp only [List.head?_cons] at this
  have hb:¬ b=48:=by simpa using this
  unfold zA
  simp only [List.getD_cons_zero]
  intro e
  exact hb (UInt8.toNat_inj.1 (by show b.toNat=48; omega))
theorem jJ {s:List UInt8} (h:s.all qG=true):(qP s).all qG=true:=by
 rw [List.all_eq_true] at h ⊢
 exact fun b hb=>h b ((List.dropWhile_sublist _).subset hb)
theorem qMF {x y:List UInt8} (hx:x.all qG=true) (hy:y.all qG=true) (h:qR x=qR y):qP x=qP y:=by
 rw [← jI x,← jI y] at h
 have z:∀ s:List UInt8,s.all qG=true→0<(qP s).length→qR (qP s)≠0:=fun s hs hl e=>by
  have:=kT (jJ hs) hl (vL s hl)
  have:=Nat.pow_pos (n:=(qP s).length-1) (show 0<10 by omega)
  omega
 by_cases h1:0<(qP x).length
 ·by_cases h2:0<(qP y).length
  ·exact qKY _ _ (qNF (jJ hx) (jJ hy) h1 h2 (vL x h1) (vL y h2) h) (jJ hx) (jJ hy) h
  have e:qP y=[]:=List.length_eq_zero_iff.1 (by omega)
  rw [e] at h
  exact absurd h (z x hx h1)
 have e:qP x=[]:=List.length_eq_zero_iff.1 (by omega)
 by_cases h2:0<(qP y).length
 ·rw [e] at h
  exact absurd h.symm (z y hy h2)
 rw [e,List.length_eq_zero_iff.1 (show (qP y).length=0 by omega)]
theorem jR (neg:Bool) {s:List UInt8} (h:s.all qG=true) (sc:Nat):zQ neg s sc=zP neg (qR s) sc:=by
 unfold zP zQ
 rw [qMF h (vH (qR s)) (vG _).symm]
def yU (l m:List Nat):Nat→List Nat × Nat
 | 0=>([],0)
 | i+1=>((yU l m i).1++[(l.getD i 0+m.getD i 0+(yU l m i).2) % qL],(l.getD i 0+m.getD i 0+(yU l m i).2) / qL)
def qLI (l m:List Nat):List Nat:=wD ((yU l m (max l.length m.length)).1++[(yU l m (max l.length m.length)).2])
theorem xK {l:List Nat} (h:okL l) (i:Nat):l.getD i 0<qL:=by
 rw [List.getD_eq_getElem?_getD]
 cases hi:l[i]? with
 | none=>simp [qL]
 | some x=>exact h x (List.mem_of_getElem? hi)
theorem qBW {l:List Nat} (i:Nat):qS (l.take (i+1))=qS (l.take i)+qL ^ i * l.getD i 0:=by
 by_cases h:i<l.length
 ·rw [qBC h,yG,List.length_take,Nat.min_eq_left (by omega)]
 rw [List.take_of_length_le (by omega),List.take_of_length_le (by omega)]
 simp [List.getD_eq_getElem?_getD,List.getElem?_eq_none (show l.length≤i by omega)]
theorem qAF (l m:List Nat):∀ i,(yU l m i).1.length=i
 | 0=>rfl
 | i+1=>by simp [yU,qAF l m i]
theorem qDS {l m:List Nat} (hl:okL l) (hm:okL m):∀ i,okL (yU l m i).1∧(yU l m i).2≤1∧qS (yU l m i).1+qL ^ i * (yU l m i).2=qS (l.take i)+qS (m.take i)
 | 0=>⟨(by intro x hx; cases hx),by simp [yU],by simp [yU,qS]⟩
 | i+1=>by
  obtain ⟨h1,h2,h3⟩:=qDS hl hm i
  have hlen:=qAF l m i
  have a1:=xK hl i
  have a2:=xK hm i
  rw [qBW,qBW]
  simp only [yU]
  generalize yU l m i=A at *
  generalize l.getD i 0=x at *
  generalize m.getD i 0=y at *
  have hd:=Nat.div_add_mod (x+y+A.2) qL
  have hb:0<qL:=by decide
  refine ⟨?_, ?_, ?_⟩
  ·intro z hz
   rcases List.mem_append.1 hz with h | h
   ·exact h1 z h
   rw [List.mem_singleton.1 h]; exact Nat.mod_lt _ hb
  ·have:(x+y+A.2) / qL<2:=(Nat.div_lt_iff_lt_mul hb).2 (by omega)
   omega
  rw [yG,hlen,Nat.pow_succ]
  have e:qL ^ i * ((x+y+A.2) % qL)+qL ^ i * qL * ((x+y+A.2) / qL)=qL ^ i * (x+y+A.2):=by
   rw [Nat.mul_assoc,← Nat.mul_add,Nat.add_comm,hd]
  have e2:qL ^ i * (x+y+A.2)=qL ^ i * x+qL ^ i * y+qL ^ i * A.2:=by rw [Nat.mul_add,Nat.mul_add]
  omega
theorem qTU {l m:List Nat} (hl:okL l) (hm:okL m):okL (qLI l m)∧qS (qLI l m)=qS l+qS m:=by
 obtain ⟨h1,h2,h3⟩:=qDS hl hm (max l.length m.length)
 have hlen:=qAF l m (max l.length m.length)
 unfold qLI
 refine ⟨qCX ?_, ?_⟩
 ·intro z hz
  rcases List.mem_append.1 hz with h | h
  ·exact h1 z h
  rw [List.mem_singleton.1 h]; unfold qL; omega
 rw [qBA,yG,hlen,h3,List.take_of_length_le (by omega),List.take_of_length_le (by omega)]
theorem qFO (l:List Nat):(wD l).length≤l.length:=by
 unfold wD; rw [List.length_reverse]; have:=(List.dropWhile_sublist (fun x:Nat=>x == 0) (l:=l.reverse)).length_le; simpa using this
theorem qXF (l m:List Nat):(qLI l m).length≤max l.length m.length+1:=by
 unfold qLI
 have:=qFO ((yU l m (max l.length m.length)).1++[(yU l m (max l.length m.length)).2])
 rw [List.length_append,qAF] at this
 simpa using this
def kE (l m:List Nat):Nat→List Nat × Nat
 | 0=>([],0)
 | i+1=>((kE l m i).1++[(l.getD i 0+qL-m.getD i 0-(kE l m i).2) % qL],1-(l.getD i 0+qL-m.getD i 0-(kE l m i).2) / qL)
def qKB (l m:List Nat):List Nat:=wD (kE l m l.length).1
theorem uJ (l m:List Nat):∀ i,(kE l m i).1.length=i
 | 0=>rfl
 | i+1=>by simp [kE,uJ l m i]
theorem qCZ {l m:List Nat} (hl:okL l) (hm:okL m):∀ i,okL (kE l m i).1∧(kE l m i).2≤1∧qS (kE l m i).1+qS (m.take i)=qS (l.take i)+qL ^ i * (kE l m i).2
 | 0=>⟨(by intro x hx; cases hx),by simp [kE],by simp [kE,qS]⟩
 | i+1=>by
  obtain ⟨h1,h2,h3⟩:=qCZ hl hm i
  have hlen:=uJ l m i
  have a1:=xK hl i
  have a2:=xK hm i
  rw [qBW,qBW]
  simp only [kE]
  generalize kE l m i=A at *
  generalize l.getD i 0=x at *
  generalize m.getD i 0=y at *
  generalize hz:x+qL-y-A.2=z
  have hd:=Nat.div_add_mod z qL
  have hb:0<qL:=by decide
  have hq:z / qL<2:=(Nat.div_lt_iff_lt_mul hb).2 (by omega)
  refine ⟨?_,Nat.sub_le _ _, ?_⟩
  ·intro w hw
   rcases List.mem_append.1 hw with h | h
   ·exact h1 w h
   rw [List.mem_singleton.1 h]; exact Nat.mod_lt _ hb
  rw [yG,hlen,Nat.pow_succ]
  have e:qL ^ i * (z % qL)+qL ^ i * qL * (z / qL)=qL ^ i * z:=by
   rw [Nat.mul_assoc,← Nat.mul_add,Nat.add_comm,hd]
  have e2:qL ^ i * z+qL ^ i * y+qL ^ i * A.2=qL ^ i * x+qL ^ i * qL:=by
   rw [← Nat.mul_add,← Nat.mul_add,← Nat.mul_add]; congr 1; omega
  have e3:qL ^ i * qL * (1-z / qL)+qL ^ i * qL * (z / qL)=qL ^ i * qL:=by
   rw [← Nat.mul_add]
   generalize z / qL=q at *
   rw [show 1-q+q=1 by omega,Nat.mul_one]
  omega
theorem qII {l m:List Nat} (hl:okL l) (hm:okL m) (hlen:m.length≤l.length) (h:qS m≤qS l):okL (qKB l m)∧qS (qKB l m)=qS l-qS m:=by
 obtain ⟨h1,h2,h3⟩:=qCZ hl hm l.length
 have hlt:=uO h1
 rw [uJ] at hlt
 rw [List.take_of_length_le (Nat.le_refl _),List.take_of_length_le hlen] at h3
 have h0:(kE l m l.length).2=0:=by
  rcases Nat.eq_zero_or_pos (kE l m l.length).2 with h0 | h0
  ·exact h0
  have:(kE l m l.length).2=1:=by omega
  rw [this,Nat.mul_one] at h3; omega
 rw [h0,Nat.mul_zero] at h3
 unfold qKB
 exact ⟨qCX h1,by rw [qBA]; omega⟩
theorem qMD (l m:List Nat):(qKB l m).length≤l.length:=by
 unfold qKB
 have:=qFO (kE l m l.length).1
 rwa [uJ] at this
theorem qKP (l:List Nat) (i:Nat):AFn Tryz.prog G 207 [.sl 1 (l.map zM),.int .i64 i] (.int .u64 (l.getD i 0:Nat)):=by
 refine AFn.introU tok Tryz.func207 (by kernel_rfl) rfl rfl ?_
 simp only [Tryz.f207,qO,List.map_cons,List.map_nil]
 refine rgn [] [[0,1]] ?_
 refine op1 tok ?_
 refine qA (AW.seq (rgn [] [[],[],[],[0,1,8]] ?_))
 iterate 4 refine op1 tok ?_
 refine qA (cnd ?_ ?_)
 ·intro h8
  try simp at h8
  obtain ⟨x,hx⟩:∃ x,l[i]?=some x:=⟨l[i]'(by omega),List.getElem?_eq_getElem _⟩
  rw [show l.getD i 0=x by rw [List.getD_eq_getElem?_getD,hx]; rfl]
  refine rgn [.int .u64 (x:Nat)] [[],[],[11],[],[4]] ?_
  iterate 5 refine op1 tok ?_ (hv:=by first | with_reducible exact True.intro | ((simp [hx]; try omega); done) | omega | simp | (simp +contextual; omega))
  exact qA (AW.ret qK)
 intro h8
 try simp at h8
 rw [show l.getD i 0=0 by rw [List.getD_eq_getElem?_getD,List.getElem?_eq_none (by omega)]; rfl]
 refine AW.skip (rgn [] [[]] ?_)
 refine op1 tok ?_
 exact qA (AW.ret qK)
theorem qYK (l m:List Nat) (hl:okL l) (hm:okL m) (h1:l.length≤1000000) (h2:m.length≤1000000):AFn Tryz.prog G 170 [.sl 1 (l.map zM),.sl 1 (m.map zM)] (.sl 1 ((qLI l m).map zM)):=by
 refine AFn.introU tok Tryz.func170 (by kernel_rfl) rfl rfl ?_
 simp only [Tryz.f170,qO,List.map_cons,List.map_nil]
 refine rgn [] [[0,1]] ?_
 refine op1 tok ?_
 refine qA (rgn [] [[]] ?_)
 refine op1 tok ?_
 refine qA (rgn [] [[]] ?_)
 refine op1 tok ?_
 refine qA (AW.seq (rgn [] [[],[],[],[],[0,1,5,6,13],[]] ?_))
 iterate 6 refine op1 tok ?_
 refine qA (AW.block ?_)
 refine AW.beginE 5 90 24 1 (by simp) (by simp) (by conv=>lhs; simp) ?_
 refine AW.loop (α:=Nat) (fun k=>k≤max l.length m.length) (fun k=>⟨zF 39 [(0,.p (.sl 1 (l.map zM))),(1,.p (.sl 1 (m.map zM))),(5,.ms 90),(6,.p (.int .u64 ((yU l m k).2:Nat))),(13,.p (.int .i64 (max l.length m.length:Nat))),(14,.p (.int .i64 k))],[],[(90,.row 24 1 ((yU l m k).1.map zM))],0⟩) (fun k=>max l.length m.length-k) (0) (by omega) ⟨qF (by simp [yU]; split <;> omega),rfl,by simp [yU],by simp [yU]⟩ ?_
 rintro k hk
 obtain ⟨s1,s2,s3⟩:=qDS hl hm k
 have sl:=qAF l m k
 have g1:=xK hl k
 have g2:=xK hm k
 unfold qL at g1 g2
 refine rgn [] [[]] ?_
 refine op1 tok ?_
 refine qA (AW.seq (cnd ?_ ?_))
 ·intro h15
  try simp at h15
  have hk':k<max l.length m.length:=by omega
  have lv1:=qKP (G:=G) l k
  have lv2:=qKP (G:=G) m k
  have hst:yU l m (k+1)=((yU l m k).1++[(l.getD k 0+m.getD k 0+(yU l m k).2) % qL],(l.getD k 0+m.getD k 0+(yU l m k).2) / qL):=rfl
  generalize yU l m k=A at *
  generalize l.getD k 0=x at *
  generalize m.getD k 0=y at *
  have w1:IntKind.u64.wrap ((x:Int)+y)=(x:Int)+y:=wW (by omega) (by omega)
  obtain ⟨z,hz⟩:∃ z,z=x+y+A.2:=⟨_,rfl⟩
  rw [← hz] at hst
  have w2:IntKind.u64.wrap ((x:Int)+y+A.2)=(z:Int):=by rw [wW (by omega) (by omega)]; omega
  have dm:(z:Int).tmod 1000000000=((z % qL:Nat):Int):=(Int.ofNat_tmod z 1000000000).symm
  have dq:IntKind.u64.wrap ((z:Int) / 1000000000)=((z / qL:Nat):Int):=by
   unfold qL
   rw [wW (by omega) (by omega)]; omega
  generalize z % qL=r at *
  generalize z / qL=q at *
  refine AW.skip (AW.seq (AW.block (rgn [] [[],[0,1,5,6,7,13,14]] ?_)))
  iterate 2 refine op1 tok ?_
  refine qA (rgn [.nilp,.int .u64 (x:Nat),.nilp,.int .u64 (y:Nat)] [[],[],[],[],[],[0,1,5,6,13,14,19,22],[],[],[0,1,5,13,14,25],[0,1,5,8,13,14]] ?_)
  iterate 10 refine oq1 tok (ai lv1 lv2) ?_ (h:=by intro C; conv=>lhs; simp [w1,w2])
  refine qA (rgz [.int .u64 (r:Nat)] [[],[],[],[],[0,1,8,13,14,30],[],[],[],[0,1,5,6,13,14]] ?_)
  iterate 9 refine op1 tok ?_ (h:=by intro C; conv=>lhs; simp [dm,dq]) (hv:=by first | with_reducible exact True.intro | ((simp [dm]); done) | omega | simp | (simp +contextual; omega))
  refine qA (rgz [] [[],[0,1,5,6,13,14]] ?_)
  iterate 2 refine op1 tok ?_
  refine qA ?_
  exact ⟨k+1,by omega,by omega,qF (by simp [hst]),rfl,by simp [hst],by simp [hst]⟩
 intro h15
 try simp at h15
 obtain rfl:k=max l.length m.length:=by omega
 have htr:=qJY (G:=G) ((yU l m (max l.length m.length)).1++[(yU l m (max l.length m.length)).2])
 rw [show wD ((yU l m (max l.length m.length)).1++[(yU l m (max l.length m.length)).2])=qLI l m from rfl] at htr
 simp only [List.map_append,List.map_cons,List.map_nil,zM] at htr
 refine AW.exit ?_
 simp
 refine rgn [.int .u64 ((yU l m (max l.length m.length)).2:Nat),.nilp,.sl 1 ((qLI l m).map zM)] [[],[],[],[37],[],[4]] ?_
 iterate 6 refine oq1 tok htr ?_ (h:=by intro C; conv=>lhs; simp [List.map_append])
 exact qA (AW.ret qK)
theorem qIS (l m:List Nat) (hl:okL l) (hm:okL m) (h1:l.length≤1000000) (h2:m.length≤1000000):AFn Tryz.prog G 172 [.sl 1 (l.map zM),.sl 1 (m.map zM)] (.sl 1 ((qKB l m).map zM)):=by
 refine AFn.introU tok Tryz.func172 (by kernel_rfl) rfl rfl ?_
 simp only [Tryz.f172,qO,List.map_cons,List.map_nil]
 refine rgn [] [[0,1]] ?_
 refine op1 tok ?_
 refine qA (rgn [] [[]] ?_)
 refine op1 tok ?_
 refine qA (rgn [] [[]] ?_)
 refine op1 tok ?_
 refine qA (AW.seq (rgn [] [[],[],[0,1,5,6,10,11]] ?_))
 iterate 3 refine op1 tok ?_
 refine qA (AW.block ?_)
 refine AW.beginE 5 90 24 1 (by simp) (by simp) (by conv=>lhs; simp) ?_
 refine AW.loop (α:=Nat) (fun k=>k≤l.length) (fun k=>⟨zF 36 [(0,.p (.sl 1 (l.map zM))),(1,.p (.sl 1 (m.map zM))),(5,.ms 90),(6,.p (.int .u64 ((kE l m k).2:Nat))),(10,.p (.int .i64 l.length)),(11,.p (.int .i64 k))],[],[(90,.row 24 1 ((kE l m k).1.map zM))],0⟩) (fun k=>l.length-k) (0) (by omega) ⟨qF (by simp [kE]),rfl,by simp [kE],by simp [kE]⟩ ?_
 rintro k hk
 obtain ⟨s1,s2,s3⟩:=qCZ hl hm k
 have sl:=uJ l m k
 have g1:=xK hl k
 have g2:=xK hm k
 unfold qL at g1 g2
 refine rgn [] [[]] ?_
 refine op1 tok ?_
 refine qA (AW.seq (cnd ?_ ?_))
 ·intro h12
  try simp at h12
  have lv2:=qKP (G:=G) m k
  obtain ⟨x0,hgl⟩:∃ x,l[k]?=some x:=⟨l[k]'(by omega),List.getElem?_eq_getElem _⟩
  have hx0:l.getD k 0=x0:=by rw [List.getD_eq_getElem?_getD,hgl]; rfl
  have hst:kE l m (k+1)=((kE l m k).1++[(l.getD k 0+qL-m.getD k 0-(kE l m k).2) % qL],1-(l.getD k 0+qL-m.getD k 0-(kE l m k).2) / qL):=rfl
  generalize kE l m k=A at *
  rw [hx0] at hst g1
  generalize m.getD k 0=y at *
  generalize x0=x at *
  obtain ⟨z,hz⟩:∃ z,z=x+qL-y-A.2:=⟨_,rfl⟩
  rw [← hz] at hst
  have hzd:z / qL≤1:=by
   have:z / qL<2:=(Nat.div_lt_iff_lt_mul (by decide)).2 (by rw [hz]; unfold qL; omega)
   omega
  unfold qL at hz
  have w1:IntKind.u64.wrap ((x:Int)+1000000000)=(x:Int)+1000000000:=wW (by omega) (by omega)
  have w2:IntKind.u64.wrap ((x:Int)+1000000000-y)=(x:Int)+1000000000-y:=wW (by omega) (by omega)
  have w3:IntKind.u64.wrap ((x:Int)+1000000000-y-A.2)=(z:Int):=by rw [wW (by omega) (by omega)]; omega
  have dm:(z:Int).tmod 1000000000=((z % qL:Nat):Int):=(Int.ofNat_tmod z 1000000000).symm
  have dq:IntKind.u64.wrap ((z:Int) / 1000000000)=((z / qL:Nat):Int):=by
   unfold qL
   rw [wW (by omega) (by omega)]; omega
  generalize z % qL=r at *
  generalize z / qL=q at *
  have w4:IntKind.u64.wrap (1-(q:Int))=((1-q:Nat):Int):=by
   rw [wW (by omega) (by omega)]; omega
  generalize 1-q=b at *
  refine AW.skip (AW.seq (AW.block (rgn [] [[],[0,1,5,6,7,10,11]] ?_)))
  iterate 2 refine op1 tok ?_
  refine qA ?_
  refine AW.seqDrawS tok mixed 11 [[0],[7],[14,15],[16],[17],[1],[7],[19,20],[18,21],[6],[22,23]] [.int .u64 (x:Nat),.nilp,.int .u64 (y:Nat)] [] (by kernel_rfl) ?_
  iterate 11 refine d1 ?_ (h:=by intro C; conv=>lhs; simp [w1,w2,w3]) (hv:=by first | with_reducible exact True.intro | (first | exact lv2 | (simp [hgl]; done) | (simp [hgl]; omega); done) | omega | simp | (simp +contextual; omega))
  refine DGo.nil (by kernel_rfl) ⟨by kernel_rfl, ?_⟩
  refine qH.run [[0,1,5,8,10,11]] ?_
  refine op1 tok ?_ (h:=by intro C; conv=>lhs; simp [w1,w2,w3])
  refine qA (rgz [.int .u64 (r:Nat)] [[],[],[],[],[0,1,8,10,11,29],[],[],[],[0,1,5,10,11,32],[0,1,5,6,10,11]] ?_)
  iterate 10 refine op1 tok ?_ (h:=by intro C; conv=>lhs; simp [dm,dq,w4]) (hv:=by first | with_reducible exact True.intro | ((simp [dm]); done) | omega | simp | (simp +contextual; omega))
  refine qA (rgz [] [[],[0,1,5,6,10,11]] ?_)
  iterate 2 refine op1 tok ?_
  refine qA ?_
  exact ⟨k+1,by omega,by omega,qF (by simp [hst]),rfl,by simp [hst],by simp [hst]⟩
 intro h12
 try simp at h12
 obtain rfl:k=l.length:=by omega
 have htr:=qJY (G:=G) (kE l m l.length).1
 refine AW.exit ?_
 simp
 refine rgn [.nilp,.sl 1 ((qKB l m).map zM)] [[],[],[4]] ?_
 iterate 3 refine oq1 tok htr ?_
 exact qA (AW.ret qK)
def kI (n w V:Nat):List PD:=qI (List.replicate (n-w) 0++wY w V)
theorem qNS (n V:Nat):kI n 0 V=List.replicate n (.int .u8 0):=by simp [kI,wY,qI]
theorem qPS {n w V:Nat} (h:w≤n):(kI n w V).length=n:=by simp [kI,yJ]; omega
theorem qPT {n w V:Nat} (h:w<n):(kI n w V)[n-1-w]?=some (.int .u8 0):=by
 unfold kI
 refine xA (b:=0) ?_
 rw [List.getElem?_append_left (by simp; omega),List.getElem?_replicate,if_pos (by omega)]
theorem qPR {n w V:Nat} (h:w<n):(kI n w V).set (n-1-w) (.int .u8 (48+V / 10 ^ w % 10:Nat))=kI n (w+1) V:=by
 unfold kI qI
 have hd:V / 10 ^ w % 10<10:=Nat.mod_lt _ (by decide)
 rw [show PD.int .u8 (48+V / 10 ^ w % 10:Nat)=(fun b:UInt8=>PD.int .u8 b.toNat) (UInt8.ofNat (48+V / 10 ^ w % 10)) by simp only [kS hd],← List.map_set]
 congr 1
 rw [show n-w=(n-(w+1))+1 by omega,List.replicate_succ',List.append_assoc,List.set_append_right _ _ (by simp; omega)]
 simp only [List.length_replicate]
 rw [show n-1-w-(n-(w+1))=0 by omega]
 rfl
theorem qPU (n V:Nat):kI n n V=qI (wY n V):=by simp [kI]
theorem qVI {l:List Nat} (h:okL l) (i:Nat):qS l / qL ^ i % qL=l.getD i 0:=by
 induction l generalizing i with
 | nil=>simp [qS]
 | cons a l ih =>
  have ha:a<qL:=h a (by simp)
  have ih:=ih (fun x hx=>h x (by simp [hx]))
  have hb:0<qL:=by decide
  cases i with
  | zero=>simp [qS,Nat.add_mul_mod_self_left,Nat.mod_eq_of_lt ha]
  | succ i =>
   simp only [qS,List.getD_cons_succ]
   rw [Nat.pow_succ,Nat.mul_comm (qL ^ i),← Nat.div_div_eq_div_mul,Nat.add_mul_div_left _ _ hb,Nat.div_eq_of_lt ha,Nat.zero_add]
   exact ih i
theorem qWH {l:List Nat} (h:okL l) (i:Nat) {j:Nat} (hj:j<9):qS l / 10 ^ (9 * i+j) % 10=l.getD i 0 / 10 ^ j % 10:=by
 rw [← qVI h i,Nat.pow_add,Nat.pow_mul,← Nat.div_div_eq_div_mul,show (10:Nat) ^ 9=qL from rfl]
 generalize qS l / qL ^ i=M
 obtain ⟨d,hd⟩:∃ d,d+j=8:=⟨8-j,by omega⟩
 rw [show qL=10 ^ j * (10 * 10 ^ d) by rw [← Nat.pow_succ',← Nat.pow_add,show j+(d+1)=9 by omega]; rfl,Nat.mod_mul_right_div_self,Nat.mod_mul_right_mod]
def qHN (x j:Nat):Nat:=x / 10 ^ j
theorem qRX (x:Nat):qHN x 0=x:=by simp [qHN]
theorem qRY (x j:Nat):qHN x j / 10=qHN x (j+1):=by unfold qHN; rw [Nat.div_div_eq_div_mul,← Nat.pow_succ]
theorem qDN (l:List Nat) (hl:okL l) (h1:l.length≤1000000):AFn Tryz.prog G 171 [.sl 1 (l.map zM)] (.str (wY (9 * l.length) (qS l))):=by
 refine AFn.introU tok Tryz.func171 (by kernel_rfl) rfl rfl ?_
 simp only [Tryz.f171,qO,List.map_cons,List.map_nil]
 have hz:kI (9 * l.length) 0 (qS l)=List.replicate (9 * l.length) (.int .u8 0):=qNS _ _
 have hall:=qPU (9 * l.length) (qS l)
 have hdl:=fun k j (h:j<9)=>qWH hl k (j:=j) h
 have hset:=fun w=>qPR (n:=9 * l.length) (w:=w) (V:=qS l)
 have hget:=fun w=>qPT (n:=9 * l.length) (w:=w) (V:=qS l)
 have hlen:=fun w=>qPS (n:=9 * l.length) (w:=w) (V:=qS l)
 have hmul:((l.length:Int) * 9).toNat=9 * l.length:=by omega
 generalize qS l=V at *
 obtain ⟨N,hN⟩:∃ N,N=9 * l.length:=⟨_,rfl⟩
 rw [← hN] at hz hall hset hget hlen hmul ⊢
 refine rgn [] [[0]] ?_
 refine op1 tok ?_
 refine qA (rgn [.int .u8 0] [[],[],[],[],[0,3]] ?_)
 iterate 5 refine op1 tok ?_
 refine qA (AW.seq (rgn [] [[],[],[3,11,12,13]] ?_))
 iterate 3 refine op1 tok ?_
 refine qA (AW.block ?_)
 refine AW.loop (α:=Nat) (fun k=>k≤l.length) (fun k=>⟨zF 41 [(3,.ms 10),(11,.p (.sl 1 (l.map zM))),(12,.p (.int .i64 l.length)),(13,.p (.int .i64 k))],[],[(10,.row 5 1 (kI N (9 * k) V))],0⟩) (fun k=>l.length-k) (0) (by omega) ⟨qF (by simp),rfl,by (simp [hz,hmul]),by simp [hz,hmul]⟩ ?_
 rintro k hk
 refine rgn [] [[]] ?_
 refine op1 tok ?_
 refine qA (AW.seq (cnd ?_ ?_))
 ·intro h14
  try simp at h14
  obtain ⟨x,hx⟩:∃ x,l[k]?=some x:=⟨l[k]'(by omega),List.getElem?_eq_getElem _⟩
  have hxd:l.getD k 0=x:=by rw [List.getD_eq_getElem?_getD,hx]; rfl
  have hxb:x<1000000000:=hl x (List.mem_of_getElem? hx)
  have hx0:=qRX x
  refine AW.skip (AW.seq (AW.block (rgn [.int .u64 (x:Nat)] [[],[],[],[],[3,4,5,11,12,13]] ?_)))
  iterate 5 refine op1 tok ?_ (hv:=by first | with_reducible exact True.intro | (simp [hx]; done) | omega | simp | (simp +contextual; omega))
  refine qA (rgn [] [[]] ?_)
  refine op1 tok ?_
  refine qA (AW.block ?_)
  refine AW.loop (α:=Nat) (fun j=>j≤9) (fun j=>⟨zF 41 [(3,.ms 10),(4,.p (.int .i64 k)),(5,.p (.int .u64 (qHN x j:Nat))),(11,.p (.sl 1 (l.map zM))),(12,.p (.int .i64 l.length)),(13,.p (.int .i64 k)),(18,.p (.int .i64 j))],[],[(10,.row 5 1 (kI N (9 * k+j) V))],0⟩) (fun j=>9-j) (0) (by omega) ⟨qF (by simp [hx0]),rfl,by simp,by simp⟩ ?_
  rintro j hj
  refine rgn [] [[]] ?_
  refine op1 tok ?_
  refine qA (AW.seq (cnd ?_ ?_))
  ·intro h19
   try simp at h19
   have hdj:=hdl k j (by omega)
   rw [hxd,show x / 10 ^ j=qHN x j from rfl] at hdj
   have hset:=hset (9 * k+j) (by omega)
   have hget:=hget (9 * k+j) (by omega)
   have hlen:=hlen (9 * k+j) (by omega)
   rw [hdj] at hset
   have hxj:qHN x j<1000000000:=Nat.lt_of_le_of_lt (Nat.div_le_self _ _) hxb
   have hnx:=qRY x j
   generalize qHN x j=z at *
   have hix:((N:Int)-1-k * 9).toNat-j=N-1-(9 * k+j):=by omega
   have dm:(z:Int).tmod 10=((z % 10:Nat):Int):=(Int.ofNat_tmod z 10).symm
   have dc:IntKind.u8.wrap (IntKind.u64.wrap (48+((z % 10:Nat):Int)))=((48+z % 10:Nat):Int):=by
    rw [wW (by omega) (by omega),qQK (by omega) (by omega)]; omega
   have dq:IntKind.u64.wrap ((z:Int) / 10)=((qHN x (j+1):Nat):Int):=by rw [← hnx,wW (by omega) (by omega)]; omega
   generalize hr:z % 10=r at *
   have e9:9 * k+j+1=9 * k+(j+1):=rfl
   rw [e9,show ((48+r:Nat):Int)=48+(r:Int) by omega] at hset
   refine AW.skip (AW.seq (AW.block (rgn [] [[],[3,4,5,6,11,12,13,18]] ?_)))
   iterate 2 refine op1 tok ?_
   refine qA (rgn [.int .u8 0,.int .u8 (48+r:Nat)] [[],[],[],[],[],[],[3,4,5,6,11,12,13,18,21,27],[],[],[],[3,4,5,11,12,13,18,21,29,31],[],[],[3,4,5,11,12,13,18,33,34],[3,4,5,11,12,13,18]] ?_)
   iterate 15 refine op1 tok ?_ (h:=by intro C; conv=>lhs; simp [hlen,hget,hix,dm,dc]) (hv:=by first | with_reducible exact True.intro | (first | (simp [hlen,hget,hix,dm,dc]; done) | (simp [hlen,hget,hix,dm,dc]; omega); done) | omega | simp | (simp +contextual; omega))
   refine qA (rgz [] [[],[],[3,4,5,11,12,13,18]] ?_)
   iterate 3 refine op1 tok ?_
   refine qA (rgz [] [[],[3,4,5,11,12,13,18]] ?_)
   iterate 2 refine op1 tok ?_
   refine qA ?_
   exact ⟨j+1,by omega,by omega,qF (by simp [dq,hset,hlen,hix]),rfl,by simp [dq,hset,hlen,hix],by simp [dq,hset,hlen,hix]⟩
  intro h19
  try simp at h19
  obtain rfl:j=9:=by omega
  refine AW.exit ?_
  simp
  refine rgz [] [[],[3,11,12,13]] ?_
  iterate 2 refine op1 tok ?_
  refine qA ?_
  exact ⟨k+1,by omega,by omega,qF (by simp [show 9 * (k+1)=9 * k+9 from rfl]),rfl,by simp [show 9 * (k+1)=9 * k+9 from rfl],by simp [show 9 * (k+1)=9 * k+9 from rfl]⟩
 intro h14
 try simp at h14
 obtain rfl:k=l.length:=by omega
 rw [← hN,hall]
 refine AW.exit ?_
 simp
 refine rgn [.str (wY N V)] [[],[],[2]] ?_
 iterate 3 refine op1 tok ?_
 exact qA (AW.ret qK)
theorem qPQ {l:List Nat} (h:okL l):qR (wY (9 * l.length) (qS l))=qS l:=by
 rw [jW,Nat.mod_eq_of_lt]
 rw [Nat.pow_mul]
 exact uO h
theorem qBG (neg : Bool) {l : List Nat} (hl : okL l) (h : l.length ≤ 1000000) (sc : Nat) (hs : sc ≤ 1000000) :
  AFn Tryz.prog G 95 [.bool neg,.str (wY (9 * l.length) (qS l)),.int .i64 sc] (.tup [(zP neg (qS l) sc).1.enc,.int .i64 (zP neg (qS l) sc).2]):=by
 have:=qFC (G:=G) neg (wY (9 * l.length) (qS l)) sc (by rw [yJ]; omega) (by omega)
 rwa [jR neg (jX _ _),qPQ hl] at this
def qFM (a b:Dc):Nat:=qR (kU a (qX a b))
def qFL (a b:Dc):Nat:=qR (kU b (qX a b))
def yK (a b:Dc):Dc × Int :=
 if a.neg=b.neg then zP a.neg (qFM a b+qFL a b) (qX a b).toNat
 else if qFL a b≤qFM a b then zP a.neg (qFM a b-qFL a b) (qX a b).toNat else zP b.neg (qFL a b-qFM a b) (qX a b).toNat
theorem qSR {l m:List Nat} (hl:qEV l) (hm:qEV m):(0≤jS l m)↔qS m≤qS l:=by
 have h:=qEF hl hm
 unfold sgn at h
 constructor
 ·intro h0
  rw [if_neg (show ¬ jS l m<0 by omega)] at h
  split at h <;> split at h <;> (try split at h) <;> omega
 intro h0
 rw [if_neg (show ¬ ((qS l:Int)-qS m<0) by omega)] at h
 split at h <;> split at h <;> (try split at h) <;> omega
theorem qRK {l m:List Nat} (hl:qEV l) (hm:qEV m) (h:qS m≤qS l):m.length≤l.length:=by
 apply Nat.le_of_not_lt
 intro h2
 have:=qGN hl hm h2
 omega
theorem qJS (a b:Dc) (ha:okD a) (hb:okD b):AFn Tryz.prog G 131 [a.enc,b.enc] (.tup [(yK a b).1.enc,.int .i64 (yK a b).2]):=by
 refine AFn.introU tok Tryz.func131 (by kernel_rfl) rfl rfl ?_
 simp only [Tryz.f131,qO,List.map_cons,List.map_nil]
 have hal:=qQG (G:=G) a b ha hb
 obtain ⟨a1,a2,a3,a4⟩:=ha
 obtain ⟨b1,b2,b3,b4⟩:=hb
 have hm3:qX a b≤1000:=by unfold qX; split <;> omega
 have hm0:0≤qX a b:=by unfold qX; split <;> omega
 have hx:=qCD (yE a4 (qX a b-a.scale).toNat)
 have hy:=qCD (yE b4 (qX a b-b.scale).toNat)
 have vx:=qCC (yE a4 (qX a b-a.scale).toNat)
 have vy:=qCC (yE b4 (qX a b-b.scale).toNat)
 have lx:(jB (kU a (qX a b))).length≤2000:=by have:=qMX (kU a (qX a b)); simp [kU] at *; omega
 have ly:(jB (kU b (qX a b))).length≤2000:=by have:=qMX (kU b (qX a b)); simp [kU] at *; omega
 have hD:yK a b=if a.neg=b.neg then zP a.neg (qFM a b+qFL a b) (qX a b).toNat else if qFL a b≤qFM a b then zP a.neg (qFM a b-qFL a b) (qX a b).toNat else zP b.neg (qFL a b-qFM a b) (qX a b).toNat:=rfl
 rw [show qFM a b=qS (jB (kU a (qX a b))) from vx.symm,show qFL a b=qS (jB (kU b (qX a b))) from vy.symm] at hD
 rw [hD]
 change qEV (jB (kU a (qX a b))) at hx
 change qEV (jB (kU b (qX a b))) at hy
 clear vx vy hD
 generalize jB (kU a (qX a b))=x at *
 generalize jB (kU b (qX a b))=y at *
 obtain ⟨sc,hsc⟩:∃ sc:Nat,qX a b=sc:=⟨(qX a b).toNat,by omega⟩
 rw [hsc] at hal ⊢
 rw [Int.toNat_natCast]
 have hcm:=qSS (G:=G) x y (by omega) (by omega)
 have hge:=qSR hx hy
 generalize jS x y=c at *
 have hp:=qYK (G:=G) x y hx.1 hy.1 (by omega) (by omega)
 obtain ⟨op,vp⟩:=qTU hx.1 hy.1
 have lp:=qXF x y
 generalize qLI x y=p at *
 have dp:=qDN (G:=G) p op (by omega)
 have mp:=qBG (G:=G) a.neg op (by omega) sc (by omega)
 have hq:=qIS (G:=G) x y hx.1 hy.1 (by omega) (by omega)
 have sq:=fun h=>qII hx.1 hy.1 (qRK hx hy h) h
 have lq:=qMD x y
 generalize qKB x y=q at *
 have hr:=qIS (G:=G) y x hy.1 hx.1 (by omega) (by omega)
 have sr:=fun h=>qII hy.1 hx.1 (qRK hy hx h) h
 have lr:=qMD y x
 generalize qKB y x=r at *
 refine rgn [] [[],[],[],[2,3,4]] ?_
 iterate 4 refine op1 tok ?_
 refine qA (rgn [.nilp,.tup [.sl 1 (x.map zM),.sl 1 (y.map zM),.int .i64 sc]] [[],[],[],[],[],[],[2,3,4,13,14,15],[],[],[2,3,4,6,7,8]] ?_)
 iterate 10 refine oq1 tok hal ?_
 refine qA (AW.seq (AW.block (rgn [] [[],[],[],[],[2,3,4,6,7,8,21],[2,3,4,6,7,8,16]] ?_)))
 iterate 6 refine op1 tok ?_
 refine qA (cnd ?_ ?_)
 ·intro h16
  try simp at h16
  rw [if_pos h16,← vp]
  generalize wY (9 * p.length) (qS p)=dg at *
  generalize zP a.neg (qS p) sc=R at *
  refine AW.seqDrawS tok mixed 10 [[2],[22],[6],[7],[24,25],[26],[8],[23,27,28],[29],[29]] [.nilp,.sl 1 (p.map zM),.nilp,.str dg,.nilp,.tup [R.1.enc,.int .i64 R.2]] [] (by kernel_rfl) ?_
  iterate 10 refine dq1 (ai hp (ai dp mp)) ?_
  refine DGo.nil (by kernel_rfl) ⟨by kernel_rfl, ?_⟩
  refine qH.run [[],[4,5]] ?_
  iterate 2 refine op1 tok ?_
  exact qA (AW.ret qK)
 intro h16
 try simp at h16
 rw [if_neg h16]
 refine rgn [.nilp,.int .i64 c] [[],[],[],[],[2,3,4,6,7,8,32]] ?_
 iterate 5 refine oq1 tok hcm ?_
 refine qA (cnd ?_ ?_)
 ·intro h32
  try simp at h32
  obtain ⟨oq,vq⟩:=sq (hge.1 h32)
  rw [if_pos (hge.1 h32),← vq]
  have dq:=qDN (G:=G) q oq (by omega)
  have mq:=qBG (G:=G) a.neg oq (by omega) sc (by omega)
  generalize wY (9 * q.length) (qS q)=dg at *
  generalize zP a.neg (qS q) sc=R at *
  refine AW.seqDrawS tok mixed 10 [[2],[37],[6],[7],[39,40],[41],[8],[38,42,43],[44],[44]] [.nilp,.sl 1 (q.map zM),.nilp,.str dg,.nilp,.tup [R.1.enc,.int .i64 R.2]] [] (by kernel_rfl) ?_
  iterate 10 refine dq1 (ai hq (ai dq mq)) ?_
  refine DGo.nil (by kernel_rfl) ⟨by kernel_rfl, ?_⟩
  refine qH.run [[],[4,5]] ?_
  iterate 2 refine op1 tok ?_
  exact qA (AW.ret qK)
 intro h32
 try simp at h32
 have hlt:¬ qS y≤qS x:=fun h=>by have:=hge.2 h; omega
 obtain ⟨or,vr⟩:=sr (by omega)
 rw [if_neg hlt,← vr]
 have dr:=qDN (G:=G) r or (by omega)
 have mr:=qBG (G:=G) b.neg or (by omega) sc (by omega)
 generalize wY (9 * r.length) (qS r)=dg at *
 generalize zP b.neg (qS r) sc=R at *
 refine AW.skip ?_
 refine AW.seqDrawS tok mixed 10 [[3],[47],[7],[6],[49,50],[51],[8],[48,52,53],[54],[54]] [.nilp,.sl 1 (r.map zM),.nilp,.str dg,.nilp,.tup [R.1.enc,.int .i64 R.2]] [] (by kernel_rfl) ?_
 iterate 10 refine dq1 (ai hr (ai dr mr)) ?_
 refine DGo.nil (by kernel_rfl) ⟨by kernel_rfl, ?_⟩
 refine qH.run [[],[4,5]] ?_
 iterate 2 refine op1 tok ?_
 exact qA (AW.ret qK)
structure Item where
 kind:Int
 many:Int
 mask:Int
 num:List UInt8
 text:List UInt8
 keys:List (List UInt8)
@[simp] def Item.enc (x:Item):PD := .agg [.int .i64 x.kind,.int .i64 x.many,.int .u64 x.mask,.str x.num,.str x.text,.sl 1 (x.keys.map PD.str)]
@[simp] def Val.cells (v:Val):List V:=[.p (.int .i64 v.kind),.p (.int .u64 v.mask),.p (.bool v.num.neg),.p (.str v.num.digits),.p (.int .i64 v.num.scale),.p (.str v.text),.p (.sl 1 (v.keys.map PD.str)),.p (.sl 9 (v.kids.map Val.enc)),.p (.int .i64 v.code)]
def qID (s:List UInt8):Bool:=decide ((s.length:Int)≤4096) && Lib.validD s
def qNH (l:List (List UInt8)):Bool:=l.all qID && decide l.Nodup
def qYM (v:Val):Bool:=if v.kind=4 then qQ v.num else decide (v.num.neg=false∧v.num.digits=[]∧v.num.scale=0)
def qUK (v:Val):Bool:=if v.kind=5 then qID v.text else decide (v.text=[])
def qGI (v:Val):Bool:=if v.kind=7 then decide ((v.keys.length:Int)=v.kids.length) && qNH v.keys else decide (v.keys=[])
def qVO (v:Val):Bool:=decide (v.kids=[]) || decide (v.kind=6) || decide (v.kind=7)
def qWO (v:Val):Bool:=decide (decide (v.kind=8) = !decide (v.code=0))
def qBD (v:Val):Bool:=qWO v && qYM v && qUK v && qGI v && qVO v
def qAQ (v:Val):Bool:=decide (1≤v.kind∧v.kind≤8∧v.kids.length≤200)
mutual
def xF:Val→Bool
 | .mk k m n t ks vs c=>qAQ (.mk k m n t ks vs c) && qBD (.mk k m n t ks vs c) && qNA vs
def qNA:List Val→Bool
 | []=>true
 | v::vs=>xF v && qNA vs
end
theorem qIU:∀ l,qNA l=l.all xF
 | []=>by simp [qNA]
 | v::vs=>by simp [qNA,qIU vs]
theorem qAM (v:Val):xF v=(qAQ v && qBD v && v.kids.all xF):=by
 cases v; simp only [xF,qIU,Val.kids]
theorem qKO {v k:Val} (h:xF v=true) (hk:k∈v.kids):xF k=true:=by
 rw [qAM] at h; simp only [Bool.and_eq_true,List.all_eq_true] at h; exact h.2 k hk
theorem qYN {v:Val} (h:xF v=true) (h7:v.kind=7):v.keys.length=v.kids.length∧v.keys.length≤200∧v.keys.Nodup:=by
 rw [qAM] at h
 simp only [Bool.and_eq_true,qAQ,qBD,qGI,decide_eq_true_eq] at h
 obtain ⟨⟨h1,⟨⟨_,h2⟩,_⟩⟩,_⟩:=h
 rw [if_pos h7] at h2
 simp [qNH] at h2
 exact ⟨by omega,by omega,h2.2.2⟩
theorem qQY {v:Val} (h:xF v=true) (h4:v.kind=4):qQ v.num=true:=by
 rw [qAM] at h
 simp only [Bool.and_eq_true,qBD,qYM] at h
 obtain ⟨⟨h1,⟨⟨⟨⟨_,h2⟩,_⟩,_⟩,_⟩⟩,_⟩:=h
 rw [if_pos h4] at h2; exact h2
theorem qOQ {s:List UInt8} (h:s.all qG=true):(qP s).all qG=true:=by
 rw [List.all_eq_true] at h ⊢
 exact fun b hb=>h b ((List.dropWhile_sublist _).subset hb)
theorem qMG {s:List UInt8} (h:qP s≠[]):zA (qP s) 0≠48:=by
 induction s with
 | nil=>exact (h rfl).elim
 | cons b s ih =>
  by_cases hb:b=48
  ·have e:qP (b::s)=qP s:=by simp [qP,hb]
   rw [e] at h ⊢; exact ih h
  have e:qP (b::s)=b::s:=by simp [qP,hb]
  rw [e]
  intro h2
  simp [zA] at h2
  exact hb (UInt8.toNat_inj.1 (by show b.toNat=48; omega))
theorem qFP:∀ (k:Nat) (d:List UInt8),(∃ r,d=(zK d k).1++r)∧((zK d k).2=0∨(zK d k).1.getLast?≠some 48)
 | 0,d=>⟨⟨[],by simp [zK]⟩,.inl rfl⟩
 | k+1,d=>by
  simp only [zK]
  split
  ·obtain ⟨⟨r,hr⟩,h2⟩:=qFP k d.dropLast
   refine ⟨⟨r++d.drop (d.length-1), ?_⟩,h2⟩
   have e:d.dropLast++d.drop (d.length-1)=d:=by rw [List.dropLast_eq_take,List.take_append_drop]
   rw [← List.append_assoc,← hr,e]
  rename_i h; exact ⟨⟨[],by simp⟩,.inr h⟩
theorem qJR {neg:Bool} {digits:List UInt8} {scale:Nat} (hd:digits.all qG=true) (h:(zQ neg digits scale).2=0):qQ (zQ neg digits scale).1=true:=by
 unfold zQ at h ⊢
 simp only at h ⊢
 obtain ⟨⟨r,hr⟩,hl⟩:=qFP scale (qP digits)
 generalize zK (qP digits) scale=x at *
 split
 ·decide +kernel
 rename_i hne
 rw [if_neg hne] at h
 split
 ·rename_i hb; rw [if_pos hb] at h; simp at h
 rename_i hb
 have hpos:0<x.1.length:=List.length_pos_iff.2 hne
 have hall:x.1.all qG=true:=by
  have:=qOQ hd
  rw [hr,List.all_append,Bool.and_eq_true] at this; exact this.1
 have hh:zA x.1 0≠48:=by
  have h1:=qMG (s:=digits) (by rw [hr]; simp [hne])
  rw [hr] at h1
  obtain ⟨c,d,hx⟩:∃ c d,x.1=c::d:=by
   cases hx:x.1 with
   | nil=>exact (hne hx).elim
   | cons c d=>exact ⟨c,d,rfl⟩
  rw [hx] at h1 ⊢
  simpa [zA] using h1
 rw [qJM (by simp only []; omega) hall]
 simp only
 rw [if_neg (by intro e; rw [e] at hh; exact hh rfl)]
 have hlast:x.2=0∨zA x.1 (x.1.length-1)≠48:=hl.imp id fun h h2=>h ((xM hpos).1 h2)
 simp [hh]
 exact hlast
def rowN:Nat→Nat→List Nat
 | 0,_=>[]
 | w+1,v=>v / 10 ^ w % 10::rowN w v
def qTN (a b k:Nat):Bool:=decide (a % 10 ^ k<b % 10 ^ k)
def qBO (a b k:Nat):Nat:=if qTN a b k=true then 1 else 0
theorem qWS (a b:Nat):qBO a b 0=0:=by simp [qBO,qTN,Nat.mod_one]
theorem qWT (a b k:Nat):qTN a b (k+1)=decide (((a / 10 ^ k % 10:Nat):Int)-(b / 10 ^ k % 10:Nat)-qBO a b k<0):=by
 have e:∀ x:Nat,x % 10 ^ (k+1)=x % 10 ^ k+10 ^ k * (x / 10 ^ k % 10):=fun x=>Nat.mod_pow_succ
 have hp:0<10 ^ k:=Nat.pow_pos (by decide)
 unfold qBO qTN
 rw [e a,e b]
 have ha:=Nat.mod_lt a hp
 have hb:=Nat.mod_lt b hp
 generalize a / 10 ^ k % 10=x
 generalize b / 10 ^ k % 10=y
 generalize a % 10 ^ k=u at *
 generalize b % 10 ^ k=t at *
 generalize 10 ^ k=p at *
 rcases Nat.lt_trichotomy x y with h | h | h
 ·have:p * (x+1)≤p * y:=Nat.mul_le_mul_left _ h
  rw [Nat.mul_add,Nat.mul_one] at this
  have h1:u+p * x<t+p * y:=by omega
  simp only [h1,decide_true]
  symm; rw [decide_eq_true_iff]; split <;> omega
 ·subst h
  by_cases h2:u<t
  ·have h1:u+p * x<t+p * x:=by omega
   simp [h1,h2] <;> omega
  have h1:¬ u+p * x<t+p * x:=by omega
  simp [h1,h2]
 have:p * (y+1)≤p * x:=Nat.mul_le_mul_left _ h
 rw [Nat.mul_add,Nat.mul_one] at this
 have h1:¬ u+p * x<t+p * y:=by omega
 simp only [h1,decide_false]
 symm; rw [decide_eq_false_iff_not]; split <;> omega
theorem qWJ {n : Nat} (a b k : Nat) (hk : k < n) (hb : b < 10 ^ n) :
  (((a+10 ^ n-b) / 10 ^ k % 10:Nat):Int)=(if ((a / 10 ^ k % 10:Nat):Int)-(b / 10 ^ k % 10:Nat)-qBO a b k<0 then ((a / 10 ^ k % 10:Nat):Int)-(b / 10 ^ k % 10:Nat)-qBO a b k+10 else ((a / 10 ^ k % 10:Nat):Int)-(b / 10 ^ k % 10:Nat)-qBO a b k):=by
 obtain ⟨d,rfl⟩:∃ d,n=k+(d+1):=⟨n-k-1,by omega⟩
 have hp:0<10 ^ k:=Nat.pow_pos (by decide)
 have e1:10 ^ (k+(d+1))=10 ^ k * (10 * 10 ^ d):=by rw [Nat.pow_add,Nat.pow_succ,Nat.mul_comm (10 ^ d)]
 rw [e1] at hb ⊢
 have da:=Nat.div_add_mod a (10 ^ k)
 have db:=Nat.div_add_mod b (10 ^ k)
 have ma:=Nat.mod_lt a hp
 have mb:=Nat.mod_lt b hp
 have hB:b / 10 ^ k<10 * 10 ^ d:=(Nat.div_lt_iff_lt_mul hp).2 (by rw [Nat.mul_comm]; exact hb)
 unfold qBO qTN
 generalize a / 10 ^ k=A at *
 generalize b / 10 ^ k=B at *
 generalize a % 10 ^ k=a0 at *
 generalize b % 10 ^ k=b0 at *
 generalize 10 ^ d=M at *
 generalize 10 ^ k=p at *
 by_cases h:a0<b0
 ·have e2:(a+p * (10 * M)-b) / p=A+10 * M-B-1:=by
   rw [Nat.div_eq_iff hp]
   have h3:p * (A+10 * M-B-1)+p=p * (A+10 * M-B):=by rw [← Nat.mul_succ]; congr 1; omega
   have h4:p * (A+10 * M-B)+p * B=p * A+p * (10 * M):=by rw [← Nat.mul_add,← Nat.mul_add]; congr 1; omega
   have h5:(A+10 * M-B-1) * p=p * (A+10 * M-B-1):=Nat.mul_comm _ _
   constructor <;> omega
  rw [e2]
  simp only [h,decide_true,if_true]
  split <;> omega
 have e2:(a+p * (10 * M)-b) / p=A+10 * M-B:=by
  rw [Nat.div_eq_iff hp]
  have h4:p * (A+10 * M-B)+p * B=p * A+p * (10 * M):=by rw [← Nat.mul_add,← Nat.mul_add]; congr 1; omega
  have h5:(A+10 * M-B) * p=p * (A+10 * M-B):=Nat.mul_comm _ _
  constructor <;> omega
 rw [e2]
 simp only [h,decide_false]
 simp
 split <;> omega
def ndg (Q:Nat):Nat:=(qP (Lib.decDigits Q)).length
theorem zAT (Q k:Nat):ndg Q≤k↔Q<10 ^ k:=by
 unfold ndg
 have ha:=jJ (vH Q)
 have hv:qR (qP (Lib.decDigits Q))=Q:=by rw [jI,vG]
 have hh:=vL (Lib.decDigits Q)
 have h1:=wH ha
 generalize qP (Lib.decDigits Q)=s at *
 rw [hv] at h1
 constructor
 ·intro h
  exact Nat.lt_of_lt_of_le h1 (Nat.pow_le_pow_right (by decide) h)
 intro h
 apply Nat.le_of_not_lt
 intro hk
 have h2:=kT ha (by omega) (hh (by omega))
 rw [hv] at h2
 have:10 ^ k≤10 ^ (s.length-1):=Nat.pow_le_pow_right (by decide) (by omega)
 omega
theorem qIG:∀ (k:Nat) (d:List UInt8),qR (zK d k).1 * 10 ^ (k-(zK d k).2)=qR d∧(zK d k).2≤k
 | 0,d=>by simp [zK]
 | k+1,d=>by
  simp only [zK]
  split
  ·rename_i h
   obtain ⟨h1,h2⟩:=qIG k d.dropLast
   have hd:d=d.dropLast++[48]:=by
    obtain ⟨hne,hl⟩:∃ hne:d≠[],d.getLast hne=48:=by
     cases d with
     | nil=>simp at h
     | cons a t=>exact ⟨by simp,by rw [List.getLast?_eq_some_getLast (by simp)] at h; exact Option.some.inj h⟩
    conv=>lhs; rw [← List.dropLast_concat_getLast hne,hl]
   refine ⟨?_,by omega⟩
   conv=>rhs; rw [hd,qAG,← h1]
   rw [show k+1-(zK d.dropLast k).2=(k-(zK d.dropLast k).2)+1 by omega,Nat.pow_succ,← Nat.mul_assoc]; rfl
  simp
theorem qPB (neg:Bool) (v sc:Nat):(zP neg v sc).2=0∨(zP neg v sc).2=3:=by
 unfold zP zQ; simp only; split
 ·exact .inl rfl
 split
 ·exact .inr rfl
 exact .inl rfl
theorem qMU {neg:Bool} {v sc:Nat} {d:Dc} (h:zP neg v sc=(d,0)):qQ d=true∧d.scale.toNat≤sc∧qR d.digits * 10 ^ (sc-d.scale.toNat)=v∧(v≠0→d.neg=neg)∧(v=0→d.neg=false):=by
 have hm:qQ d=true:=by
  have:=qJR (neg:=neg) (scale:=sc) (vH v) (by show (zP neg v sc).2=0; rw [h])
  have e:(zQ neg (Lib.decDigits v) sc).1=d:=by show (zP neg v sc).1=d; rw [h]
  rwa [e] at this
 refine ⟨hm, ?_⟩
 obtain ⟨h1,h2⟩:=qIG sc (qP (Lib.decDigits v))
 rw [jI,vG] at h1
 unfold zP zQ at h
 simp only at h
 generalize zK (qP (Lib.decDigits v)) sc=x at *
 split at h
 ·rename_i hx
  cases h
  rw [hx] at h1
  simp [qR] at h1
  subst h1
  exact ⟨by simp,by simp [qR],by simp,by simp⟩
 rename_i hx
 split at h
 ·cases h
 cases h
 simp only at hm ⊢
 refine ⟨by simpa using h2,by simpa using h1,by simp,fun h0 => ?_⟩
 rw [h0] at h1
 have hz:qR x.1=0:=by
  rcases Nat.mul_eq_zero.1 h1 with e | e
  ·exact e
  have:=Nat.pow_pos (n:=sc-x.2) (show 0<10 by decide); omega
 rcases vB hm with ⟨_,_,e⟩ | ⟨e,_⟩
 ·exact e
 have:=kT (zJ hm).1.2.2.2 (List.length_pos_iff.2 hx) e
 have:=Nat.pow_pos (n:=x.1.length-1) (show 0<10 by decide)
 simp only at *; omega
theorem qIH (d:List UInt8) (sc:Nat):∀ k,zK (d++List.replicate k 48) (sc+k)=zK d sc
 | 0=>by simp
 | k+1=>by
  rw [show sc+(k+1)=(sc+k)+1 by omega]
  simp only [zK]
  have e:d++List.replicate (k+1) 48=(d++List.replicate k 48)++[48]:=by rw [List.replicate_succ',List.append_assoc]
  rw [e,if_pos (by simp),List.dropLast_concat]
  exact qIH d sc k
theorem qRS:∀ k,zK [] k=([],k)∨zK [] k=([],0)
 | 0 => .inr rfl
 | k+1=>by simp [zK]
theorem vN (neg:Bool) (sc:Nat):zP neg 0 sc=(⟨false,[48],0⟩,0):=by
 have e:qP (Lib.decDigits 0)=[]:=by
  rw [qMF (y:=[]) (vH 0) (by simp) (by rw [vG]; rfl)]; rfl
 unfold zP zQ
 rw [e]
 simp only
 rw [if_pos (by rcases qRS sc with h | h <;> rw [h])]
theorem qMT (neg:Bool) (v sc k:Nat):zP neg (v * 10 ^ k) (sc+k)=zP neg v sc:=by
 by_cases hv:v=0
 ·subst hv; rw [Nat.zero_mul,vN,vN]
 have hd:=yE (vH v) k
 rw [show v * 10 ^ k=qR (Lib.decDigits v++List.replicate k 48) by rw [jN,vG],← jR neg hd]
 show zQ neg (Lib.decDigits v++List.replicate k 48) (sc+k)=zQ neg (Lib.decDigits v) sc
 have hne:qP (Lib.decDigits v)≠[]:=by
  intro e
  have:=jI (Lib.decDigits v)
  rw [e,vG] at this
  exact hv this.symm
 have e:qP (Lib.decDigits v++List.replicate k 48)=qP (Lib.decDigits v)++List.replicate k 48:=by
  unfold qP at hne ⊢
  rw [List.dropWhile_append,if_neg (by simpa using hne)]
 unfold zQ
 rw [e,qIH]
def qMS (z:Int) (sc:Nat):Dc × Int:=zP (decide (z<0)) z.natAbs sc
def zV (d:Dc) (M:Int):Int:=if d.neg=true then-((qR d.digits * 10 ^ (M-d.scale).toNat:Nat):Int) else ((qR d.digits * 10 ^ (M-d.scale).toNat:Nat):Int)
theorem qOI {d:Dc} (h:qQ d=true) (M:Int):decide (zV d M<0)=d.neg:=by
 have hp:0<10 ^ (M-d.scale).toNat:=Nat.pow_pos (by decide)
 unfold zV
 by_cases hn:d.neg=true
 ·have hv:0<qR d.digits:=by
   rcases vB h with ⟨_,_,e⟩ | ⟨e,_⟩
   ·rw [hn] at e; cases e
   obtain ⟨⟨_,_,_,h4⟩,_,_⟩:=zJ h
   have hl:0<d.digits.length:=by
    unfold qQ at h; simp only [Bool.and_eq_true,decide_eq_true_eq] at h; omega
   have:=kT h4 hl e
   have:=Nat.pow_pos (n:=d.digits.length-1) (show 0<10 by decide)
   omega
  have:=Nat.mul_pos hv hp
  rw [if_pos hn,hn]; simp only [decide_eq_true_eq]; omega
 rw [if_neg hn]
 have:d.neg=false:=by simpa using hn
 rw [this]; simp only [decide_eq_false_iff_not]; omega
theorem zAB (d:Dc) (M:Int):(zV d M).natAbs=qR d.digits * 10 ^ (M-d.scale).toNat:=by unfold zV; split <;> omega
theorem qSN {a:Dc} (ha:qQ a=true) {M:Int} (h:a.scale≤M):qMS (zV a M) M.toNat=(a,0):=by
 obtain ⟨⟨_,h2,_,h4⟩,_,_⟩:=zJ ha
 unfold qMS
 rw [qOI ha,zAB,show M.toNat=a.scale.toNat+(M-a.scale).toNat by omega,qMT,← jR a.neg h4]
 exact qIQ ha 0
theorem zAU (a b:Dc):a.scale≤qX a b∧b.scale≤qX a b∧(qX a b=a.scale∨qX a b=b.scale):=by unfold qX; split <;> omega
theorem qQI {a b:Dc} (ha:qQ a=true) (hb:qQ b=true):yK a b=qMS (zV a (qX a b)+zV b (qX a b)) (qX a b).toNat:=by
 have hx:qFM a b=qR a.digits * 10 ^ (qX a b-a.scale).toNat:=jN _ _
 have hy:qFL a b=qR b.digits * 10 ^ (qX a b-b.scale).toNat:=jN _ _
 have na:=qOI ha (qX a b)
 have nb:=qOI hb (qX a b)
 unfold yK qMS
 unfold zV at na nb ⊢
 rw [← hx] at na ⊢
 rw [← hy] at nb ⊢
 generalize qFM a b=x at *
 generalize qFL a b=y at *
 generalize (qX a b).toNat=M
 cases h1:a.neg <;> cases h2:b.neg <;> simp only [h1,h2] at na nb ⊢ <;> simp at na nb ⊢
 ·have e:¬ ((x:Int)+y<0):=by omega
  have e3:((x:Int)+y).natAbs=x+y:=by omega
  simp [e,e3]
 ·split
  ·have e:¬ ((x:Int) + -y<0):=by omega
   have e3:((x:Int) + -y).natAbs=x-y:=by omega
   simp [e,e3]
  have e:((x:Int) + -y<0):=by omega
  have e3:((x:Int) + -y).natAbs=y-x:=by omega
  simp [e,e3]
 ·by_cases hxy:y≤x
  ·rw [if_pos hxy]
   by_cases he:x=y
   ·subst he
    have e:¬ (-(x:Int)+x<0):=by omega
    have e3:(-(x:Int)+x).natAbs=0:=by omega
    rw [Nat.sub_self,e3,vN,vN]
   have e:(-(x:Int)+y<0):=by omega
   have e3:(-(x:Int)+y).natAbs=x-y:=by omega
   simp [e,e3]
  rw [if_neg hxy]
  have e:¬ (-(x:Int)+y<0):=by omega
  have e3:(-(x:Int)+y).natAbs=y-x:=by omega
  simp [e,e3]
 have e3:(-(x:Int) + -y).natAbs=x+y:=by omega
 rw [e3]
 have e:(-(x:Int) + -y<0):=by omega
 simp [e]
theorem qYI {d:Dc} (h:qQ d=true):qD d=zV d 60:=by
 obtain ⟨⟨_,h2,_,_⟩,_,h6⟩:=zJ h
 unfold qD zV qN
 rw [show ((60:Int)-d.scale).toNat=60-d.scale.toNat by omega]
theorem qTV {a b:Dc} (ha:qQ a=true) (hb:qQ b=true):(yK a b).2=0∨(yK a b).2=3:=by rw [qQI ha hb]; exact qPB _ _ _
def wE (c:UInt8):List UInt8→List (List UInt8)
 | []=>[[]]
 | b::r=>if b=c then []::wE c r else match wE c r with
  | []=>[[b]]
  | h::t=>(b::h)::t
theorem qRV (c:UInt8):∀ s,wE c s≠[]
 | []=>by simp [wE]
 | b::r=>by
  simp only [wE]
  split
  ·simp
  split <;> simp
theorem qFT (c:UInt8):∀ s,(wE c s).length=s.count c+1
 | []=>by simp [wE]
 | b::r=>by
  have ih:=qFT c r
  simp only [wE]
  split
  ·rename_i h; subst h; simp [ih]
  rename_i h
  rw [List.count_cons_of_ne h,← ih]
  split
  ·rename_i h2; exact absurd h2 (qRV c r)
  rename_i h2; rw [h2]; simp
theorem qIJ {c:UInt8}:∀ {s},c ∉ s→wE c s=[s]
 | [],_=>rfl
 | b::r,h=>by
  simp only [List.mem_cons,not_or] at h
  simp only [wE,qIJ h.2]
  rw [if_neg (fun e=>h.1 e.symm)]
theorem qIK {c:UInt8}:∀ {a r:List UInt8},c ∉ a→wE c (a++c::r)=a::wE c r
 | [],r,_=>by simp [wE]
 | b::a,r,h=>by
  simp only [List.mem_cons,not_or] at h
  simp only [List.cons_append,wE]
  rw [if_neg (fun e=>h.1 e.symm),qIK h.2]
theorem qDH {c:UInt8}:∀ {a r:List UInt8},c ∉ a→Lib.indexByte (a++c::r) c=a.length
 | [],r,_=>by simp [Lib.indexByte]
 | b::a,r,h=>by
  simp only [List.mem_cons,not_or] at h
  have ih:=qDH (r:=r) h.2
  simp only [List.cons_append,Lib.indexByte]
  rw [if_neg (by intro e; exact h.1 (eq_of_beq e).symm),ih,List.length_cons,if_neg (by intro e; have:=eq_of_beq e; omega)]
  omega
theorem qJG {c:UInt8}:∀ {s:List UInt8},c ∉ s→Lib.indexByte s c = -1
 | [],_=>rfl
 | b::a,h=>by
  simp only [List.mem_cons,not_or] at h
  simp only [Lib.indexByte]
  rw [if_neg (by intro e; exact h.1 (eq_of_beq e).symm),qJG h.2]
  rfl
theorem qSW {c:UInt8} {s:List UInt8} (h:c∈s):∃ a r,s=a++c::r∧c ∉ a:=by
 induction s with
 | nil=>cases h
 | cons b s ih =>
  by_cases e:b=c
  ·subst e; exact ⟨[],s,rfl,by simp⟩
  obtain ⟨a,r,rfl,hn⟩:=ih (by rcases List.mem_cons.1 h with h | h; exact absurd h.symm e; exact h)
  exact ⟨b::a,r,rfl,by simp only [List.mem_cons,not_or]; exact ⟨fun h=>e h.symm,hn⟩⟩
theorem qWM {c:UInt8} {a r:List UInt8} (h:c ∉ a):(a++c::r).count c=r.count c+1:=by
 rw [List.count_append,List.count_cons_self,List.count_eq_zero.2 h]; omega
def jF (u:Nat):List UInt8:=if h:u=0 then [] else jF (u / 10)++[UInt8.ofNat (48+u % 10)]
termination_by u
decreasing_by omega
theorem jL:jF 0=[]:=by rw [jF]; simp
theorem qHA {u:Nat} (h:0<u):jF u=jF (u / 10)++[UInt8.ofNat (48+u % 10)]:=by rw [jF]; rw [dif_neg (by omega)]
theorem qHB:∀ k u:Nat,u<10 ^ k→(jF u).length≤k
 | 0,u,h=>by
  have:u=0:=by simpa using h
  subst this; rw [jL]; simp
 | k+1,u,h=>by
  rcases Nat.eq_zero_or_pos u with h0 | h0
  ·subst h0; rw [jL]; simp
  rw [qHA h0,List.length_append,List.length_singleton]
  have:=qHB k (u / 10) (by rw [Nat.pow_succ] at h; omega)
  omega
def vD (n:Int):Dc:=(zQ (decide (n<0)) (jF n.natAbs) 0).1
def qHR (l:List UInt8) (k:Nat):List UInt8:=(List.range l.length).map fun i=>if i<k∨l.length-k≤i then l.getD (l.length-1-i) 0 else l.getD i 0
theorem xX (l:List UInt8) (k:Nat):(qHR l k).length=l.length:=by simp [qHR]
theorem xY (l:List UInt8) (k:Nat) {i:Nat} (h:i<l.length):(qHR l k)[i]?=some (if i<k∨l.length-k≤i then l.getD (l.length-1-i) 0 else l.getD i 0):=by
 simp [qHR,h]
theorem qAB (L:List UInt8) (i:Nat) (b:UInt8):(qI L).set i (.int .u8 b.toNat)=qI (L.set i b):=by unfold qI; rw [List.map_set]
theorem qSC (l:List UInt8):qHR l 0=l:=by
 apply List.ext_getElem?
 intro i
 by_cases h:i<l.length
 ·rw [xY l 0 h,if_neg (by omega),List.getD_eq_getElem?_getD,List.getElem?_eq_getElem h]; rfl
 rw [List.getElem?_eq_none (by rw [xX]; omega),List.getElem?_eq_none (by omega)]
theorem qUP (l:List UInt8) {k:Nat} (h:l.length≤2 * k+1):qHR l k=l.reverse:=by
 apply List.ext_getElem?
 intro i
 by_cases hi:i<l.length
 ·rw [xY l k hi,List.getElem?_reverse hi]
  have h1:l[l.length-1-i]?=some (l[l.length-1-i]'(by omega)):=List.getElem?_eq_getElem _
  rw [h1]
  congr 1
  split
  ·rw [List.getD_eq_getElem?_getD,h1]; rfl
  have h2:l[i]?=some (l[l.length-1-i]'(by omega)):=by rw [← h1]; congr 1; omega
  rw [List.getD_eq_getElem?_getD,h2]; rfl
 rw [List.getElem?_eq_none (by rw [xX]; omega),List.getElem?_eq_none (by rw [List.length_reverse]; omega)]
theorem qSD (l:List UInt8) {k:Nat} (h:2 * k+1<l.length):((qHR l k).set k (l.getD (l.length-1-k) 0)).set (l.length-1-k) (l.getD k 0)=qHR l (k+1):=by
 apply List.ext_getElem?
 intro i
 by_cases hi:i<l.length
 ·rw [xY l (k+1) hi,List.getElem?_set,List.getElem?_set]
  simp only [List.length_set,xX]
  by_cases h1:l.length-1-k=i
  ·subst h1
   rw [if_pos rfl,if_pos (by omega),if_pos (.inr (by omega)),show l.length-1-(l.length-1-k)=k by omega]
  rw [if_neg h1]
  by_cases h2:k=i
  ·subst h2
   rw [if_pos rfl,if_pos (by omega),if_pos (.inl (by omega))]
  rw [if_neg h2,xY l k hi]
  congr 1
  by_cases h3:i<k∨l.length-k≤i
  ·rw [if_pos h3,if_pos (by omega)]
  rw [if_neg h3,if_neg (by omega)]
 rw [List.getElem?_eq_none (by simp [xX]; omega),List.getElem?_eq_none (by rw [xX]; omega)]
theorem qWF (u:Nat):(jF u).all qG=true:=by
 induction u using Nat.strongRecOn with
 | _ u ih =>
  rcases Nat.eq_zero_or_pos u with h | h
  ·subst h; rw [jL]; rfl
  rw [qHA h,List.all_append,ih (u / 10) (by omega)]
  have:qG (UInt8.ofNat (48+u % 10))=true:=by
   rw [wB,UInt8.toNat_ofNat']; omega
  rw [List.all_cons,this]; rfl
theorem qKC (s:List UInt8) (h:qP s≠[]):zA (qP s) 0≠48:=by
 unfold qP at h ⊢
 have:=List.head?_dropWhile_not (fun b:UInt8=>b == 48) s
 cases hs:s.dropWhile (fun b=>b == 48) with
 | nil=>exact absurd hs h
 | cons b r =>
  rw [hs] at this
  simp only [List.head?_cons] at this
  have hb:¬ b=48:=by simpa using this
  unfold zA
  simp only [List.getD_cons_zero]
  intro e
  exact hb (UInt8.toNat_inj.1 (by show b.toNat=48; omega))
theorem qVR {n:Int} (h0 : -9223372036854775808≤n) (h1:n≤9223372036854775807):qQ (vD n)=true:=by
 have hl:=qHB 20 n.natAbs (by omega)
 have hd:=qWF n.natAbs
 have hsl:(qP (jF n.natAbs)).length≤20:=Nat.le_trans (List.dropWhile_sublist _).length_le hl
 have hsd:(qP (jF n.natAbs)).all qG=true:=by
  rw [List.all_eq_true] at hd ⊢
  exact fun b hb=>hd b ((List.dropWhile_sublist _).subset hb)
 have hh:=qKC (jF n.natAbs)
 have e:vD n=if qP (jF n.natAbs)=[] then ⟨false,[48],0⟩ else ⟨decide (n<0),qP (jF n.natAbs),0⟩:=by
  have ht:zK (qP (jF n.natAbs)) 0=(qP (jF n.natAbs),0):=rfl
  unfold vD zQ
  rw [ht]
  by_cases h:qP (jF n.natAbs)=[]
  ·rw [if_pos h,if_pos h]
  rw [if_neg h,if_neg h,if_neg (by simp only; omega)]; rfl
 rw [e]
 generalize qP (jF n.natAbs)=s at *
 split
 ·decide
 rename_i hne
 have hpos:0<s.length:=List.length_pos_iff.2 hne
 have h48:¬ s=[48]:=by
  intro he; exact hh hne (by rw [he]; rfl)
 unfold qQ
 simp only
 rw [if_neg h48,hsd]
 have:=hh hne
 simp [this]; omega
end Go.Proofs.YtgcbapchinideaaGreatDoor
