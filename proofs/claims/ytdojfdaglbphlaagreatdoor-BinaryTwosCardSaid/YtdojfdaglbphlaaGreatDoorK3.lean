import Derived.Test.YtdojfdaglbphlaaGreatDoorK2
import Derived.Test.YtdojfdaglbphlaaGreatDoorM3
import Derived.Test.YtdojfdaglbphlaaGreatDoorM4
import Derived.Test.YtdojfdaglbphlaaGreatDoorK1
import Derived.Shelf.Strings.Builder1
import Derived.Shelf.Unicode.DecodeAny
import Derived.Lib.MapLaws
namespace Go.Proofs.YtdojfdaglbphlaaGreatDoor
open Sy Go
set_option maxRecDepth 100000
set_option maxHeartbeats 4000000
set_option linter.unusedSimpArgs false
set_option linter.unusedVariables false
variable {G:qR}
theorem zJW (a b c d e f g:V) (ks kids:List PD):AX Tryz.prog G 135 [.ptr 902 0] [(902,.vars 31 [a,b,c,d,e,f,.ms 909,.ms 912,g]),(909,.row 9 1 ks),(912,.row 31 9 kids)] (.tuple []) [902,909,912] [(902,.vars 31 [a,b,c,d,e,f,.ms 909,.ms 912,g]),(909,.row 9 1 ks),(912,.row 31 9 kids)]:=by
 refine AX.introU tok 800 Tryz.func135 (by kernel_rfl) rfl rfl ?_
 simp only [Tryz.f135,qI,List.map_cons,List.map_nil]
 refine AW.skip ?_
 exact zFP
theorem zDB (v:Val) (hv:qS v=true):AX Tryz.prog G 134 [.p v.enc,.p (.fn 135)] [] (.agg [.p (.int .i64 v.kind),.p (.int .u64 v.mask),.p (.bool v.num.neg),.p (.str v.num.digits),.p (.int .i64 v.num.scale),.p (.str v.text),.ms 909,.ms 912,.p (.int .i64 v.code)]) [] [(909,.row 9 1 (v.keys.map PD.str)),(912,.row 31 9 (v.kids.map Val.enc))]:=by
 refine AX.introU tok 900 Tryz.func134 (by kernel_rfl) rfl rfl ?_
 simp only [Tryz.f134,qI,List.map_cons,List.map_nil]
 have hsm:=wZ hv
 have hck:=qUC (G:=G) v.keys (by omega)
 have hcv:=qUA (G:=G) v.kids (by omega)
 have ih:∀ k∈v.kids,AFn Tryz.prog G 134 [k.enc,.fn 135] (qAY id k).enc:=fun k hk=>zIR (G:=G) 135 id qUE k (yG hv hk)
 refine rgn [] [[],[1,2,4]] ?_
 iterate 2 refine op1 tok ?_
 refine qA ?_
 refine AW.seqRunDrawK tok mixed [1,2,4] 8 [[2],[7],[8],[2],[10],[11],[2],[13,9]] [.nilf,.sl 1 (v.keys.map PD.str),.clo 9 [],.nilf,.sl 9 (v.kids.map Val.enc),.clo 31 []] [] (by kernel_rfl) (by intro C; conv=>lhs; simp) (by first | exact hck | exact hcv | ((repeat' (first | with_reducible apply And.intro | intro _)) <;> first | exact (hck) | exact (hcv) | assumption | omega | contradiction | simp_all)) (by simp [Sm.sum,Sm.foot,Sm.tch,Sm.refs]; kernel_rfl) (by intro C; conv=>lhs; simp) (by first | with_reducible exact True.intro | omega | simp | (simp +contextual; omega)) ?_
 refine AW.seq (rgn [] [[],[],[],[1,2,4,16,17,18]] ?_)
 iterate 4 refine op1 tok ?_
 refine qA (AW.block ?_)
 refine AW.loop (α:=Nat) (fun k=>k≤v.kids.length) (fun k=>⟨qV 34 [(1,.p (.fn 135)),(2,.ptr 902 0),(4,.ptr 904 0),(16,.ms 912),(17,.p (.int .i64 v.kids.length)),(18,.p (.int .i64 k))],[],[(902,.vars 31 [.p (.int .i64 v.kind),.p (.int .u64 v.mask),.p (.bool v.num.neg),.p (.str v.num.digits),.p (.int .i64 v.num.scale),.p (.str v.text),.ms 909,.ms 912,.p (.int .i64 v.code)]),(904,.vars 31 zRZ),(909,.row 9 1 (v.keys.map PD.str)),(912,.row 31 9 (xF id v k))],900⟩) (fun k=>v.kids.length-k) (0) (by simp) ⟨qB (by simp),rfl,by simp,by simp⟩ ?_
 rintro k hk
 refine rgn [] [[]] ?_
 refine op1 tok ?_
 refine qA (AW.seq (cnd ?_ ?_))
 ·intro h19
  try simp at h19
  obtain ⟨x,hx⟩:∃ x,v.kids[k]?=some x:=⟨v.kids[k],by simp [h19]⟩
  have hix:=ih x (List.mem_of_getElem? hx)
  have hx':=qPJ (ch:=id) hx
  have hkl:=qPI id v k
  have hset:=qPH (ch:=id) hx
  rw [qVU] at hix hset
  simp only [Val.enc_def] at hx' hix hset
  refine AW.skip (AW.seq (AW.block (rgn [x.enc] [[],[],[],[],[],[1,2,4,5,6,16,17,18]] ?_)))
  iterate 6 refine oq1 tok hx' ?_
  refine qA ?_
  refine AW.runDrawK tok mixed [1,2,4,16,17,18] 6 [[2],[23],[5],[6],[1],[26,27]] [.nilp,x.enc] [x.enc,x.enc] (by kernel_rfl) (by intro C; conv=>lhs; simp) (by first | exact hix | ((repeat' (first | with_reducible apply And.intro | intro _)) <;> first | exact (hix) | exact (hx') | assumption | omega | contradiction | simp_all)) (by simp [Sm.sum,Sm.foot,Sm.tch,Sm.refs]; kernel_rfl) (by intro C; conv=>lhs; simp) (by exact ⟨by omega,hx'⟩) ?_
  refine rgz [] [[],[1,2,4,16,17,18]] ?_
  iterate 2 refine op1 tok ?_
  refine qA ?_
  exact ⟨k+1,(by omega),(by omega),qB (by simp [hset]),rfl,by simp [hset],by simp [hset]⟩
 intro h19
 try simp at h19
 obtain rfl:k=v.kids.length:=by omega
 have hfull:xF id v v.kids.length=v.kids.map Val.enc:=by simp only [xF,List.take_length,List.drop_length,List.map_nil,List.append_nil,qVU]
 rw [hfull]
 refine AW.exit ?_
 simp
 refine rgn [] [[]] ?_
 refine op1 tok ?_
 refine qZ ?_
 refine qC.stepK [2,4] (yS rfl (zJW (.p (.int .i64 v.kind)) (.p (.int .u64 v.mask)) (.p (.bool v.num.neg)) (.p (.str v.num.digits)) (.p (.int .i64 v.num.scale)) (.p (.str v.text)) (.p (.int .i64 v.code)) (v.keys.map PD.str) (v.kids.map Val.enc)) (by simp)) (by conv=>lhs; simp) rfl ?_
 refine qC.nil ?_
 refine rgn [] [[],[4]] ?_
 iterate 2 refine op1 tok ?_
 refine qA ?_
 exact AW.ret wD
theorem qUB (v:Val) (hv:qS v=true):AX Tryz.prog G 78 [.p v.enc] [] (.agg [.p (.int .i64 v.kind),.p (.int .u64 v.mask),.p (.bool v.num.neg),.p (.str v.num.digits),.p (.int .i64 v.num.scale),.p (.str v.text),.ms 909,.ms 912,.p (.int .i64 v.code)]) [] [(909,.row 9 1 (v.keys.map PD.str)),(912,.row 31 9 (v.kids.map Val.enc))]:=by
 refine AX.introU tok 1900 Tryz.func78 (by kernel_rfl) rfl rfl ?_
 simp only [Tryz.f78,qI,List.map_cons,List.map_nil]
 have hm:=zDB (G:=G) v hv
 simp only [Val.enc_def] at hm
 refine rgn [] [[],[1,2]] ?_
 iterate 2 refine op1 tok ?_
 refine qA (rgn [] [[]] ?_)
 refine op1 tok ?_
 refine qZ ?_
 refine qC.stepK [2,4] (yS rfl hm (by simp)) (by conv=>lhs; simp) rfl ?_
 refine qC.run [[2]] ?_
 refine op1 tok ?_
 refine qA ?_
 exact AW.ret wD
def jH (s p:List UInt8):Bool:=decide (p.length≤s.length) && decide (s.take p.length=p)
@[simp] theorem zPG (s p:List UInt8):AFn Tryz.prog G 203 [.str s,.str p] (.bool (jH s p)):=by
 refine AFn.intro tok Tryz.func203 (by kernel_rfl) rfl ?_
 simp only [Tryz.f203,St.start]
 refine AW.seqRun tok [] (by intro C; conv=>lhs; simp) trivial ?_
 refine AW.seqRun tok [] (by intro C; conv=>lhs; simp) (by simp +contextual) ?_
 exact AW.ret ⟨.inr rfl,_,_,by (conv=>lhs; simp),trivial,by simp [jH]⟩
@[simp] theorem zRV (s p:List UInt8):AFn Tryz.prog G 153 [.str s,.str p] (.bool (jH s p)):=by
 refine AFn.intro tok Tryz.func153 (by kernel_rfl) rfl ?_
 simp only [Tryz.f153,St.start]
 refine AW.seqRun tok [] (by intro C; conv=>lhs; simp) trivial ?_
 refine AW.seqRun tok [.tup [.str s,.str p],.bool (jH s p)] (by intro C; conv=>lhs; simp) (by simp) ?_
 exact AW.ret ⟨.inr rfl,_,_,by (conv=>lhs; simp),trivial,by simp⟩
def qCI (s p:List UInt8):List UInt8:=if jH s p then s.drop p.length else s
@[simp] theorem zPH (s p:List UInt8):AFn Tryz.prog G 225 [.str s,.str p] (.tup [.str (qCI s p),.bool (jH s p)]):=by
 refine AFn.intro tok Tryz.func225 (by kernel_rfl) rfl ?_
 simp only [Tryz.f225,St.start]
 refine AW.seqRun tok [] (by intro C; conv=>lhs; simp) trivial ?_
 refine AW.seq ?_
 refine AW.seqRun tok [.tup [.str s,.str p],.bool (jH s p)] (by intro C; conv=>lhs; simp) (by simp) ?_
 refine AW.cond (c := .tmp 9) (by conv=>lhs; simp) trivial ?_ ?_
 ·intro h1
  simp at h1
  refine AW.seqRun tok [] (by intro C; conv=>lhs; simp) trivial ?_
  exact AW.ret ⟨.inr rfl,_,_,by (conv=>lhs; simp),trivial,by simp [qCI,h1]⟩
 intro h1
 simp at h1
 refine AW.skip ?_
 refine AW.seqRun tok [] (by intro C; conv=>lhs; simp) (by simp [jH] at h1 ⊢; omega) ?_
 exact AW.ret ⟨.inr rfl,_,_,by (conv=>lhs; simp),trivial,by simp [qCI,h1]⟩
@[simp] theorem qJT (s p:List UInt8):AFn Tryz.prog G 198 [.str s,.str p] (.tup [.str (qCI s p),.bool (jH s p)]):=by
 refine AFn.intro tok Tryz.func198 (by kernel_rfl) rfl ?_
 simp only [Tryz.f198,St.start]
 refine AW.seqRun tok [] (by intro C; conv=>lhs; simp) trivial ?_
 refine AW.seqRun tok [.tup [.str s,.str p],.tup [.str (qCI s p),.bool (jH s p)]] (by intro C; conv=>lhs; simp) (by simp) ?_
 exact AW.ret ⟨.inr rfl,_,_,by (conv=>lhs; simp),trivial,by simp⟩
theorem zYT:zSJ Tryz.prog 281 Extern.BytealgIndexByte.indexByte:=fun args w=>run_callFunc_extern Tryz.func281 (by kernel_rfl) (by kernel_rfl) (by kernel_rfl) (by kernel_rfl) args w
@[simp] theorem zPF (s:List UInt8) (n:Int):AFn Tryz.prog G 276 [.str s,.int .u8 n] (.int .i64 (Lib.indexByte s n.toNat.toUInt8)):=by
 refine AFn.intro tok Tryz.func276 (by kernel_rfl) rfl ?_
 simp only [Tryz.f276,St.start]
 refine AW.seqRun tok [] (by intro C; conv=>lhs; simp) trivial ?_
 refine AW.seqRunX tok 2 [] [] rfl rfl (by intro C; conv=>lhs; simp) trivial (qXE (s:=s) (n:=n) (p:=True) (q:=True) (r:=True) zYT rfl (by simp) trivial (by simp) trivial (by simp) trivial) (by intro C; conv=>lhs; simp) trivial ?_
 exact AW.ret ⟨.inr rfl,_,_,by (conv=>lhs; simp),trivial,by simp⟩
@[simp] theorem zRT (s:List UInt8) (n:Int):AFn Tryz.prog G 265 [.str s,.int .u8 n] (.int .i64 (Lib.indexByte s n.toNat.toUInt8)):=by
 refine AFn.intro tok Tryz.func265 (by kernel_rfl) rfl ?_
 simp only [Tryz.f265,St.start]
 refine AW.seqRun tok [] (by intro C; conv=>lhs; simp) trivial ?_
 refine AW.seqRun tok [.tup [.str s,.int .u8 n],.int .i64 (Lib.indexByte s n.toNat.toUInt8)] (by intro C; conv=>lhs; simp) (by simp) ?_
 exact AW.ret ⟨.inr rfl,_,_,by (conv=>lhs; simp),trivial,by simp⟩
theorem qPO {s:List UInt8} {k:Nat} (h:k<s.length):s[k]?=some (s.getD k 0):=by simp [List.getD_eq_getElem?_getD,h]
theorem qER (s:List UInt8) (c:UInt8):AFn Tryz.prog G 190 [.str s,.int .u8 c.toNat] (.str (s.dropWhile (fun b=>b == c))):=by
 refine AFn.introU tok Tryz.func190 (by kernel_rfl) rfl rfl ?_
 simp only [Tryz.f190,qI,List.map_cons,List.map_nil]
 refine rgn [] [[0,1]] ?_
 refine op1 tok ?_
 refine qA (AW.seq (AW.block ?_))
 refine AW.loop (α:=List UInt8) (fun r=>r.dropWhile (fun b=>b == c)=s.dropWhile (fun b=>b == c)) (fun r=>⟨qV 17 [(0,.p (.str r)),(1,.p (.int .u8 c.toNat))],[],[],0⟩) (fun r=>r.length) (s) rfl ⟨qB (by simp),rfl,by simp,by simp⟩ ?_
 rintro r hr
 have hix:0<r.length→r[0]?=some (r.getD 0 0):=fun h=>qPO h
 refine AW.seq (rgn [.int .u8 (r.getD 0 0).toNat] [[],[],[],[],[],[0,1,8,10],[],[],[0,1,13]] ?_)
 iterate 4 refine op1 tok ?_ (hv:=by first | with_reducible exact True.intro | (first | exact fun h=>⟨h,_,hix (by omega),rfl⟩ | simp; done) | omega | simp | (simp +contextual; omega))
 iterate 4 refine op2 tok ?_ (hv:=by first | with_reducible exact True.intro | (first | exact fun h=>⟨h,_,hix (by omega),rfl⟩ | simp; done) | omega | simp | (simp +contextual; omega))
 refine op1 tok ?_ (hv:=by first | with_reducible exact True.intro | (first | exact fun h=>⟨h,_,hix (by omega),rfl⟩ | simp; done) | omega | simp | (simp +contextual; omega))
 refine qA (cnd ?_ ?_)
 ·intro h13
  try simp at h13
  obtain ⟨b,r,rfl⟩:∃ b r',r=b::r':=by
   cases r with
   | nil=>simp at h13
   | cons b r=>exact ⟨b,r,rfl⟩
  have hb:b=c:=UInt8.toNat_inj.1 (by have:=h13.2; simp at this; omega)
  subst hb
  have hr2:List.dropWhile (fun b'=>b' == b) r=List.dropWhile (fun b'=>b' == b) s:=by rw [← hr]; simp
  refine AW.skip (AW.block (rgz [] [[],[],[0,1]] ?_))
  iterate 3 refine op1 tok ?_
  refine qA ?_
  exact ⟨r,hr2,by simp,qB (by simp),rfl,by simp,by simp⟩
 intro h13
 try simp at h13
 have hr3:s.dropWhile (fun b=>b == c)=r:=by
  rw [← hr]
  cases r with
  | nil=>rfl
  | cons b r =>
   have hb:b≠c:=by rintro rfl; simp at h13
   simp [hb]
 rw [hr3]
 refine AW.exit ?_
 simp
 refine rgn [] [[],[4]] ?_
 iterate 2 refine op1 tok ?_
 exact qA (AW.ret qG)
theorem qXY (s:List UInt8) (c:UInt8):(decide (1≤(s.length:Int)) && decide (List.drop (s.length-1) s=[c]))=decide (s.getLast?=some c):=by
 by_cases h:s=[]
 ·subst h; simp
 obtain ⟨a,b,rfl⟩:∃ a b,s=a++[b]:=⟨s.dropLast,s.getLast h,(List.dropLast_concat_getLast h).symm⟩
 rw [Bool.eq_iff_iff]
 simp
 intro _; omega
theorem qQX (s:List UInt8) (c:UInt8):AFn Tryz.prog G 194 [.str s,.str [c]] (.bool (decide (s.getLast?=some c))):=by
 refine AFn.introU tok Tryz.func194 (by kernel_rfl) rfl rfl ?_
 simp only [Tryz.f194,qI,List.map_cons,List.map_nil]
 refine AW.strFactU (i:=0) rfl (by decide) ?_
 intro hlen
 have hsuf:(decide (1≤(s.length:Int)) && decide (List.drop (s.length-1) s=[c]))=decide (s.getLast?=some c):=qXY s c
 refine rgn [] [[0,1]] ?_
 refine op1 tok ?_
 refine qA (rgn [] [[],[],[],[],[0,1,9],[],[],[],[],[],[1,10,11,13,15],[],[1,10,17],[],[],[20],[4]] ?_)
 iterate 6 refine op1 tok ?_
 iterate 9 refine op2 tok ?_
 iterate 2 refine op1 tok ?_
 refine qA ?_
 exact AW.ret (qG (k:=by simp [hsuf]))
theorem qXA (s:List UInt8) (c:UInt8):AFn Tryz.prog G 147 [.str s,.str [c]] (.bool (decide (s.getLast?=some c))):=by
 refine AFn.introU tok Tryz.func147 (by kernel_rfl) rfl rfl ?_
 simp only [Tryz.f147,qI,List.map_cons,List.map_nil]
 refine rgn [] [[0,1]] ?_
 refine op1 tok ?_
 refine qA (rgn [.nilp,.bool (decide (s.getLast?=some c))] [[],[],[7],[4]] ?_)
 iterate 4 refine op1 tok ?_ (hv:=by first | with_reducible exact True.intro | (exact qQX s c; done) | omega | simp | (simp +contextual; omega))
 exact qA (AW.ret qG)
theorem qAN (s:List UInt8) (c:UInt8) (hc:c.toNat<128):AFn Tryz.prog G 146 [.str s,.str [c]] (.str (s.dropWhile (fun b=>b == c))):=by
 refine AFn.introU tok Tryz.func146 (by kernel_rfl) rfl rfl ?_
 simp only [Tryz.f146,qI,List.map_cons,List.map_nil]
 refine rgn [] [[0,1]] ?_
 refine op1 tok ?_
 refine qA (AW.seq (rgn [] [[],[],[],[],[],[0,1,12]] ?_))
 iterate 3 refine op1 tok ?_
 iterate 2 refine op2 tok ?_
 refine op1 tok ?_
 refine qA (cnd ?_ ?_)
 ·intro h12
  try simp at h12
  subst h12
  refine rgn [] [[],[4]] ?_
  iterate 2 refine op1 tok ?_
  exact qA (AW.ret qG)
 intro h12
 try simp at h12
 refine AW.skip (AW.seq (rgn [.int .u8 c.toNat] [[],[],[],[],[],[0,1,17,19],[],[0,1,21]] ?_))
 iterate 4 refine op1 tok ?_ (hv:=by first | with_reducible exact True.intro | (simp; done) | omega | simp | (simp +contextual; omega))
 iterate 3 refine op2 tok ?_ (hv:=by first | with_reducible exact True.intro | (simp; done) | omega | simp | (simp +contextual; omega))
 refine op1 tok ?_ (hv:=by first | with_reducible exact True.intro | (simp; done) | omega | simp | (simp +contextual; omega))
 refine qA (cnd ?_ ?_)
 ·intro h21
  try simp at h21
  refine rgn [.int .u8 c.toNat,.nilp,.str (s.dropWhile (fun b=>b == c))] [[],[],[],[25],[4]] ?_
  iterate 5 refine op1 tok ?_ (hv:=by first | with_reducible exact True.intro | (first | exact qER s c | simp; done) | omega | simp | (simp +contextual; omega))
  exact qA (AW.ret qG)
 intro h21
 try simp at h21
 omega
theorem qXW (s:List UInt8):(if s.all (fun b => !qCC b.toNat) then (-1:Int) else (((s.takeWhile fun b => !qCC b.toNat).length:Nat):Int))=if s.all qH then -1 else ((s.takeWhile qH).length:Int):=by
 have e:(fun b:UInt8 => !qCC b.toNat)=qH:=by funext b; rw [zIF]; simp
 rw [e]
theorem qZZ (s:List UInt8):qCH qCC s=if s.all qH then -1 else ((s.takeWhile qH).length:Int):=by
 rw [qWB (fun n h=>by simp [qCC] <;> omega),qXW]
theorem zUY {s:List UInt8} (h:s.all qH=true):s.takeWhile qH=s∧s.dropWhile qH=[]:=by
 have:=zKV (W:=s) (F:=[]) h (by simp)
 simpa using this
theorem zPU (s:List UInt8):s.take (s.takeWhile qH).length=s.takeWhile qH∧s.drop (s.takeWhile qH).length=s.dropWhile qH:=by
 have h:=List.takeWhile_append_dropWhile (p:=qH) (l:=s)
 generalize s.takeWhile qH=A at *
 generalize s.dropWhile qH=B at *
 subst h
 simp
theorem zKW (s:List UInt8):(s.takeWhile qH).length≤s.length:=(List.takeWhile_sublist _).length_le
theorem zSI (s:List UInt8):(s.dropWhile qH).length≤s.length:=(List.dropWhile_sublist _).length_le
theorem qWT {s:List UInt8} {n:Int} (hc:(if s.all qH=true then (-1:Int) else ((s.takeWhile qH).length:Int))=n) (h:n<0):(s.takeWhile qH).length=s.length:=by
 split at hc
 ·rename_i ha; rw [(zUY ha).1]
 omega
theorem qNP {s:List UInt8} {n:Int} (hc:(if s.all qH=true then (-1:Int) else ((s.takeWhile qH).length:Int))=n) (h:0≤n):n=((s.takeWhile qH).length:Int):=by
 split at hc
 ·omega
 omega
theorem qHS (s:List UInt8):AFn Tryz.prog G 199 [.str s] (.tup [.str (s.takeWhile qH),.str (s.dropWhile qH)]):=by
 refine AFn.introU tok Tryz.func199 (by kernel_rfl) rfl rfl ?_
 simp only [Tryz.f199,qI,List.map_cons,List.map_nil]
 have hI:=qWZ (G:=G) s 227 qCC zMH
 rw [qZZ] at hI
 have htw:=zPU s
 have hle:=zKW s
 generalize hc:(if s.all qH=true then (-1:Int) else ((s.takeWhile qH).length:Int))=n at hI
 refine rgn [] [[],[0]] ?_
 iterate 2 refine op1 tok ?_
 refine qA (rgn [.nilp,.int .i64 n] [[],[],[0,4]] ?_)
 iterate 3 refine oq1 tok hI ?_
 refine qA ?_
 refine AW.join (α:=Unit) (fun _=>True) (fun a=>⟨qV 17 [(0,.p (.str s)),(4,.p (.int .i64 (s.takeWhile qH).length))],[],[],0⟩) ?_ ?_
 ·
  refine rgn [] [[],[0,4,8]] ?_
  iterate 2 refine op1 tok ?_
  refine qA (cnd ?_ ?_)
  ·intro h8
   try simp at h8
   refine rgz [] [[],[],[0,4]] ?_
   iterate 3 refine op1 tok ?_
   refine qA ?_
   exact ⟨(),trivial,qB (by simp [qWT hc h8]),rfl,by simp [qWT hc h8],by simp [qWT hc h8]⟩
  intro h8
  try simp at h8
  refine AW.skip ?_
  exact ⟨(),trivial,qB (by simp [qNP hc h8]),rfl,by simp [qNP hc h8],by simp [qNP hc h8]⟩
 ·
  rintro a hI
  refine AW.seqRunDrawK tok mixed [2,3] 7 [[0],[4],[11,12],[0],[4],[14,15],[13]] [] [] (by kernel_rfl) (by intro C; conv=>lhs; simp) (by omega) (by simp [Sm.sum,Sm.foot,Sm.tch,Sm.refs]; kernel_rfl) (by intro C; conv=>lhs; simp) (by first | with_reducible exact True.intro | omega | simp | (simp +contextual; omega)) ?_
  exact AW.ret (qG (k:=by simp [htw.1,htw.2]))
theorem zRB (s:List UInt8):(qQ s).length≤s.length:=(List.dropWhile_sublist _).length_le
theorem qTU {d:Dc} (h:zO d=true):1≤d.digits.length∧d.digits.length≤60∧0≤d.scale∧d.scale≤60:=by
 unfold zO at h; simp only [Bool.and_eq_true,decide_eq_true_eq] at h; omega
theorem qMT (t:List UInt8) (c:UInt8):jH t [c]=decide (t.head?=some c):=by cases t <;> simp [jH]
theorem qRR (D:List UInt8) (c:UInt8):qGV (D++[c])=qGV D * 10+(c.toNat-48):=by simp [qGV]
theorem zEI {D:List UInt8} (h:D.all qH=true):qGV D<10 ^ D.length:=by
 have key:∀ (r:List UInt8),r.all qH=true→qGV r.reverse<10 ^ r.length:=by
  intro r
  induction r with
  | nil=>intro _; decide
  | cons b r ih =>
   intro h
   simp only [List.all_cons,Bool.and_eq_true,qH,kX,decide_eq_true_eq] at h
   have:=ih h.2
   rw [List.reverse_cons,qRR,List.length_cons,Nat.pow_succ]; omega
 have:=key D.reverse (by simpa using h)
 simpa using this
theorem zKX (s:List UInt8):(s.takeWhile qH).all qH=true:=List.all_takeWhile
theorem zQE (t:List UInt8):(xB t).length≤t.length:=by unfold xB; split <;> simp
theorem zYF {t:List UInt8} {a b:Bool} (h1:a=decide (t.head?=some 45)) (h2:b=decide (t.head?=some 43)) (h:a=true∨b=true):t.tail=xB t∧1≤t.length:=by
 subst h1; subst h2
 simp only [decide_eq_true_eq] at h
 unfold xB; rw [if_pos h]
 refine ⟨by simp, ?_⟩
 cases t with
 | nil=>simp at h
 | cons a t=>simp
theorem zLF {t:List UInt8} {a b:Bool} (h1:a=decide (t.head?=some 45)) (h2:b=decide (t.head?=some 43)) (h:a=false∧b=false):t=xB t:=by
 subst h1; subst h2
 simp only [decide_eq_false_iff_not] at h
 unfold xB; rw [if_neg (fun h'=>h'.elim h.1 h.2)]
theorem zAC (s:List UInt8) (hs:s.length≤1000000000000):AFn Tryz.prog G 200 [.str s] (.tup [.int .i64 ((qJI s).getD 0),.bool (qJI s).isSome]):=by
 refine AFn.introU tok Tryz.func200 (by kernel_rfl) rfl rfl ?_
 simp only [Tryz.f200,qI,List.map_cons,List.map_nil]
 refine rgn [] [[],[0]] ?_
 iterate 2 refine op1 tok ?_
 refine qA (AW.seq (rgn [] [[],[0,11]] ?_))
 iterate 2 refine op1 tok ?_
 refine qA (cnd ?_ ?_)
 ·intro h11
  try simp at h11
  subst h11
  refine rgn [] [[],[]] ?_
  iterate 2 refine op1 tok ?_
  refine qA ?_
  exact AW.ret (qG (k:=by simp [qJI]))
 intro h11
 try simp at h11
 obtain ⟨b,t,rfl⟩:∃ b t,s=b::t:=by
  cases s with
  | nil=>exact absurd rfl h11
  | cons b t=>exact ⟨b,t,rfl⟩
 have hp1:=qMT t 45
 have hp2:=qMT t 43
 have hlt:=zQE t
 simp only [List.length_cons] at hs
 refine AW.skip (AW.seq (rgn [.int .u8 b.toNat,.int .u8 b.toNat] [[],[],[],[],[],[0,15,17],[],[0,19]] ?_))
 iterate 4 refine op1 tok ?_ (hv:=by first | with_reducible exact True.intro | (simp; done) | omega | simp | (simp +contextual; omega))
 iterate 3 refine op2 tok ?_ (hv:=by first | with_reducible exact True.intro | (simp; done) | omega | simp | (simp +contextual; omega))
 refine op1 tok ?_ (hv:=by first | with_reducible exact True.intro | (simp; done) | omega | simp | (simp +contextual; omega))
 refine qA (cnd ?_ ?_)
 ·intro h19
  try simp at h19
  have he:qJI (b::t)=none:=by
   unfold qJI; simp only; rw [if_pos ⟨by rintro rfl; exact h19.1 rfl,by rintro rfl; exact h19.2 rfl⟩]
  refine rgn [] [[],[]] ?_
  iterate 2 refine op1 tok ?_
  refine qA ?_
  exact AW.ret (qG (k:=by simp [he]))
 intro h19
 try simp at h19
 have hb:¬ (b≠101∧b≠69):=by
  rintro ⟨h1,h2⟩
  have h1':b.toNat≠101:=fun e=>h1 (UInt8.toNat_inj.1 e)
  have h2':b.toNat≠69:=fun e=>h2 (UInt8.toNat_inj.1 e)
  have:=h19 (by omega)
  omega
 have he : qJI (b :: t) = if (xB t).dropWhile qH ≠ [] ∨ ((xB t).takeWhile qH).length < 1 ∨ 2 < ((xB t).takeWhile qH).length then none
   else some (if t.head?=some 45 then-(qGV ((xB t).takeWhile qH):Int) else qGV ((xB t).takeWhile qH)):=by
  unfold qJI; simp only; rw [if_neg hb]
 rw [he]
 clear he
 have hlead:=qHS (G:=G) (xB t)
 have hall:=zKX (xB t)
 refine AW.skip (rgn [] [[],[],[0]] ?_)
 iterate 3 refine op1 tok ?_
 refine qA (rgn [.nilp,.bool (jH t [45])] [[],[],[0,4]] ?_)
 iterate 3 refine op1 tok ?_
 refine qA ?_
 refine AW.join (α:=Unit) (fun _=>True) (fun a=>⟨qV 63 [(0,.p (.str (xB t))),(4,.p (.bool (jH t [45])))],[],[],0⟩) ?_ ?_
 ·
  refine rgn [.nilp,.bool (jH t [43])] [[],[],[],[],[0,4,28]] ?_
  iterate 2 refine op1 tok ?_
  iterate 2 refine op2 tok ?_
  refine op1 tok ?_
  refine qA (cnd ?_ ?_)
  ·intro h28
   try simp at h28
   have hsT:=zYF hp1 hp2 h28
   refine rgz [] [[],[],[0,4]] ?_
   iterate 3 refine op1 tok ?_
   refine qA ?_
   exact ⟨(),trivial,qB (by simp [hsT.1]),rfl,by simp [hsT.1],by simp [hsT.1]⟩
  intro h28
  try simp at h28
  refine AW.skip ?_
  exact ⟨(),trivial,qB (by simp [(zLF hp1 hp2 h28).symm]),rfl,by simp [(zLF hp1 hp2 h28).symm],by simp [(zLF hp1 hp2 h28).symm]⟩
 ·
  rintro a hI
  generalize xB t=u at *
  generalize u.takeWhile qH=D at *
  generalize u.dropWhile qH=E at *
  refine rgn [.nilp,.tup [.str D,.str E]] [[],[],[],[],[4,34,35],[],[4,5,6]] ?_
  iterate 7 refine oq1 tok hlead ?_
  refine qA (AW.seq (rgn [] [[],[],[],[],[4,5,38,40],[],[],[4,5,43],[],[],[],[4,5,47]] ?_))
  iterate 12 first | refine op1 tok ?_ | refine op2 tok ?_
  refine qA (cnd ?_ ?_)
  ·intro h47
   try simp at h47
   rw [if_pos (h47.elim (fun h=>h.elim .inl (fun h => .inr (.inl (by omega)))) (fun h => .inr (.inr (by omega))))]
   refine rgn [] [[],[]] ?_
   iterate 2 refine op1 tok ?_
   exact qA (AW.ret qG)
  intro h47
  try simp at h47
  rw [if_neg (by
   rintro (h | h)
   ·exact h h47.1.1
   omega)]
  have hD2:D.length≤2:=by omega
  refine AW.skip (rgn [] [[]] ?_)
  refine op1 tok ?_
  refine qA (AW.seq (rgn [] [[],[4,7,49]] ?_))
  iterate 2 refine op1 tok ?_
  refine qA (AW.block ?_)
  refine AW.loop (α:=Nat) (fun pos=>pos≤D.length) (fun pos=>⟨qV 63 [(4,.p (.bool (jH t [45]))),(7,.p (.int .i64 (qGV (D.take pos)))),(49,.it 49)],[],[(49,.iter D pos)],0⟩) (fun pos=>D.length-pos) (0) (by omega) ⟨qB (by simp [qGV]),rfl,by simp,by simp⟩ ?_
  rintro pos hp
  have hvl:qGV (D.take pos)<10 ^ (D.take pos).length:=zEI (qDM hall pos)
  have hpw:10 ^ (D.take pos).length≤10 ^ 2:=Nat.pow_le_pow_right (by omega) (by simp; omega)
  by_cases hs14:pos<D.length
  ·
   refine rgn [.bool true] [[],[]] ?_
   iterate 2 refine oq1 tok hs14 ?_
   refine qA (AW.seq (cnd ?_ ?_))
   ·intro h51
    try simp at h51
    obtain ⟨c,hc⟩:∃ c,D[pos]?=some c:=⟨D[pos],by simp [hs14]⟩
    have hcd:qH c=true:=List.all_eq_true.1 hall c (List.mem_of_getElem? hc)
    have hcd2:48≤c.toNat∧c.toNat≤57:=by simp [qH,kX] at hcd; omega
    have hdl:qBG D pos=(c.toNat,1):=by
     have hg:D.getD pos 0=c:=by simp [List.getD_eq_getElem?_getD,hc]
     have:=qEJ (s:=D) (pos:=pos) hs14 (by rw [hg]; omega)
     rw [hg] at this; exact this
    have hsn:qGV (D.take (pos+1))=qGV (D.take pos) * 10+(c.toNat-48):=by rw [List.take_add_one,hc]; exact qRR _ _
    rw [hdl]
    refine AW.skip (AW.block (rgn [] [[],[4,7,9,49]] ?_))
    iterate 2 refine op1 tok ?_
    refine qA (rgz [] [[],[],[],[4,49,54,56],[],[],[4,7,49]] ?_)
    iterate 7 refine op1 tok ?_ (hv:=by first | with_reducible exact True.intro | (omega; done) | omega | simp | (simp +contextual; omega))
    refine qA ?_
    exact ⟨pos+1,by omega,by omega,qB (by simp [hsn,(show ((c.toNat-48:Nat):Int)=(c.toNat:Int)-48 by omega)]),rfl,by simp [hsn,(show ((c.toNat-48:Nat):Int)=(c.toNat:Int)-48 by omega)],by simp [hsn,(show ((c.toNat-48:Nat):Int)=(c.toNat:Int)-48 by omega)]⟩
   intro h51
   try simp at h51
  ·
   refine rgn [.bool false] [[],[]] ?_
   iterate 2 refine oq1 tok hs14 ?_
   refine qA (AW.seq (cnd ?_ ?_))
   ·intro h51
    try simp at h51
   intro h51
   try simp at h51
   have hpD:D.take pos=D:=List.take_of_length_le (by omega)
   rw [hpD] at hvl hpw ⊢
   refine AW.exit ?_
   simp
   refine AW.seq (rgn [] [[7,59]] ?_)
   refine op1 tok ?_
   refine qA (cnd ?_ ?_)
   ·intro h59
    try simp at h59
    rw [hp1] at h59
    have ht:t.head?=some 45:=by simpa using h59
    rw [if_pos ht]
    have hw:IntKind.i64.wrap (-(qGV D:Int)) = -(qGV D:Int):=by simp [IntKind.wrap,IntKind.bits,IntKind.signed]; omega
    refine rgz [] [[],[],[7]] ?_
    iterate 3 refine op1 tok ?_ (hv:=by first | with_reducible exact True.intro | (omega; done) | omega | simp | (simp +contextual; omega))
    refine qA (rgn [] [[],[],[2,3]] ?_)
    iterate 3 refine op1 tok ?_
    refine qA ?_
    exact AW.ret (qG (k:=by simp [hw]))
   intro h59
   try simp at h59
   rw [hp1] at h59
   have ht:¬ t.head?=some 45:=by simpa using h59
   rw [if_neg ht]
   refine AW.skip (rgn [] [[],[],[2,3]] ?_)
   iterate 3 refine op1 tok ?_
   exact qA (AW.ret qG)
theorem qVW (neg:Bool) (digits:List UInt8) (scale:Nat) (hd:digits.length≤10000000000) (hs:scale≤10000000000):AFn Tryz.prog G 90 [.bool neg,.str digits,.int .i64 scale] (.tup [(yX neg digits scale).1.enc,.int .i64 (yX neg digits scale).2]):=by
 refine AFn.introU tok Tryz.func90 (by kernel_rfl) rfl rfl ?_
 simp only [Tryz.f90,qI,List.map_cons,List.map_nil]
 have hstr:(qQ digits).length≤digits.length:=zRB digits
 refine rgn [] [[],[0,1,2,6]] ?_
 iterate 2 refine op1 tok ?_
 refine qA (rgn [.nilp,.str (qQ digits)] [[],[],[0,1,2,6]] ?_)
 iterate 3 refine op1 tok ?_ (hv:=by first | with_reducible exact True.intro | (exact qAN digits 48 (by decide); done) | omega | simp | (simp +contextual; omega))
 refine qA (AW.seq (AW.block ?_))
 refine AW.loop (α:=List UInt8 × Nat) (fun a=>kP (qQ digits) scale=kP a.1 a.2∧a.2≤scale∧a.1.length≤digits.length) (fun a=>⟨qV 40 [(0,.p (.bool neg)),(1,.p (.str a.1)),(2,.p (.int .i64 a.2)),(6,.ptr 6 0)],[],[(6,.vars 26 [.p (.bool false),.p (.str []),.p (.int .i64 0)])],0⟩) (fun a=>a.2) ((qQ digits,scale)) ⟨rfl,Nat.le_refl _,hstr⟩ ⟨qB (by simp),rfl,by simp,by simp⟩ ?_
 rintro ⟨d,k⟩ ⟨ht,hk,hdl⟩
 simp only at ht hk hdl
 have hsf:=qXA (G:=G) d 48
 refine AW.seq (rgn [.nilp,.bool (decide (d.getLast?=some 48))] [[],[],[],[],[],[0,1,2,6,15]] ?_)
 iterate 3 refine op1 tok ?_ (hv:=by first | with_reducible exact True.intro | (first | exact fun h=>⟨h,hsf⟩ | simp; done) | omega | simp | (simp +contextual; omega))
 iterate 2 refine op2 tok ?_ (hv:=by first | with_reducible exact True.intro | (first | exact fun h=>⟨h,hsf⟩ | simp; done) | omega | simp | (simp +contextual; omega))
 refine op1 tok ?_ (hv:=by first | with_reducible exact True.intro | (first | exact fun h=>⟨h,hsf⟩ | simp; done) | omega | simp | (simp +contextual; omega))
 refine qA (cnd ?_ ?_)
 ·intro h15
  try simp at h15
  obtain ⟨k,rfl⟩:∃ k',k=k'+1:=⟨k-1,by omega⟩
  have hl:d.getLast?=some 48:=by simpa using h15.2
  have hpos:0<d.length:=by cases d with
   | nil=>simp at hl
   | cons=>simp
  have ht':kP (qQ digits) scale=kP d.dropLast k:=by rw [ht]; simp only [kP]; rw [if_pos hl]
  refine AW.skip (AW.block (rgz [] [[],[],[],[],[0,2,6,20],[],[],[],[0,1,2,6]] ?_))
  iterate 9 refine op1 tok ?_ (hv:=by first | with_reducible exact True.intro | (omega; done) | omega | simp | (simp +contextual; omega))
  refine qA ?_
  exact ⟨(d.dropLast,k),⟨ht',by simp only []; omega,by simp; omega⟩,by simp,qB (by simp [qAP]),rfl,by simp [qAP],by simp [qAP]⟩
 intro h15
 try simp at h15
 have htl:kP (qQ digits) scale=(d,k):=by
  rw [ht]
  cases k with
  | zero=>rfl
  | succ k =>
   simp only [kP]
   rw [if_neg]
   intro hl
   have:=h15 (by omega)
   simp [hl] at this
 have hN:yX neg digits scale=if d=[] then (⟨false,[48],0⟩,0) else if 60<d.length∨60<k then (⟨false,[],0⟩,3) else (⟨neg,d,k⟩,0):=by unfold yX; simp only [htl]
 rw [hN]
 refine AW.exit ?_
 simp
 refine AW.seq (AW.block (rgn [] [[],[],[0,1,2,6,23]] ?_))
 iterate 3 refine op1 tok ?_
 refine qA (cnd ?_ ?_)
 ·intro h23
  try simp at h23
  subst h23
  refine rgn [] [[],[],[6,7]] ?_
  iterate 3 refine op1 tok ?_
  exact qA (AW.ret qG)
 intro h23
 try simp at h23
 rw [if_neg h23]
 refine rgn [] [[],[],[],[],[],[0,1,2,6,31,33],[],[0,1,2,6,27]] ?_
 iterate 4 refine op1 tok ?_
 iterate 2 refine op2 tok ?_
 iterate 2 refine op1 tok ?_
 refine qA (cnd ?_ ?_)
 ·intro h27
  try simp at h27
  rw [if_pos (by omega)]
  refine rgn [] [[],[],[6,7]] ?_
  iterate 3 refine op1 tok ?_
  exact qA (AW.ret qG)
 intro h27
 try simp at h27
 rw [if_neg (by omega)]
 refine AW.skip (rgn [] [[],[],[],[6,39],[],[6,7]] ?_)
 iterate 6 refine op1 tok ?_
 exact qA (AW.ret qG)
theorem zOP (s:List UInt8):qCI s [45]=qAG s∧jH s [45]=qVP s:=by
 have h:=qMT s 45
 unfold qCI qAG qVP
 rw [h]
 refine ⟨?_,rfl⟩
 simp
theorem zRO (s:List UInt8):(qAG s).length≤s.length:=by unfold qAG; split <;> simp
theorem zUC {W:List UInt8} (h:(((W[0]?.getD 0).toNat:Nat):Int)=48):W.head?=some 48:=by
 cases W with
 | nil=>simp at h
 | cons b W=>simp at h ⊢; exact UInt8.toNat_inj.1 (by show b.toNat=48; omega)
theorem zYJ (n:Nat):Lib.repeatL [48] n=qL n:=by
 unfold qL
 induction n with
 | zero=>rfl
 | succ n ih=>simp only [Lib.repeatL,List.replicate_succ,ih]; rfl
theorem zDO (q:List UInt8) : -99≤(qJI q).getD 0∧(qJI q).getD 0≤99:=by
 unfold qJI
 split
 ·simp
 rename_i b t
 split
 ·simp
 split
 ·simp
 rename_i h
 have h1:=zEI (zKX (xB t))
 have h2:10 ^ ((xB t).takeWhile qH).length≤10 ^ 2:=Nat.pow_le_pow_right (by omega) (by omega)
 simp only [Option.getD_some]
 split <;> omega
theorem zBN (s:List UInt8) (hs:s.length≤1000000000):AFn Tryz.prog G 151 [.str s] (.tup [(wO s).1.enc,.int .i64 (wO s).2]):=by
 refine AFn.introU tok Tryz.func151 (by kernel_rfl) rfl rfl ?_
 simp only [Tryz.f151,qI,List.map_cons,List.map_nil]
 have hbp:=zOP s
 have hbl:=zRO s
 have hP:wO s=match qJG ((qAG s).dropWhile qH) with
  | none=>xO
  | some (P,r)=>zAG (qVP s) ((qAG s).takeWhile qH) P (qJI r):=rfl
 rw [hP]
 clear hP
 have hl1:=qHS (G:=G) (qAG s)
 have hw1:=zKW (qAG s)
 have hw2:=zSI (qAG s)
 have hcp:=qJT (G:=G) s [45]
 rw [hbp.1,hbp.2] at hcp
 generalize qAG s=u at *
 generalize qVP s=ng at *
 generalize u.takeWhile qH=W at *
 generalize u.dropWhile qH=r at *
 have hcr:=qJT (G:=G) r [46]
 have hr46:=qMT r 46
 have hcut:qCI r [46]=if r.head?=some 46 then r.drop 1 else r:=by unfold qCI; rw [hr46]; simp
 have hl2:=qHS (G:=G) (r.drop 1)
 have hv1:=zKW (r.drop 1)
 have hv2:=zSI (r.drop 1)
 rw [List.length_drop] at hv1 hv2
 refine rgn [] [[],[0,2]] ?_
 iterate 2 refine op1 tok ?_
 refine qA (rgn [.nilp,.tup [.str u,.bool ng]] [[],[],[],[],[2,17,18],[],[2,4,5]] ?_)
 iterate 7 refine oq1 tok hcp ?_
 refine qA (rgn [.nilp,.tup [.str W,.str r]] [[],[],[],[],[2,5,22,23],[],[2,4,5,6]] ?_)
 iterate 7 refine oq1 tok hl1 ?_
 refine qA (rgn [] [[]] ?_)
 refine op1 tok ?_
 refine qA ?_
 refine AW.join (α:=List UInt8 × List UInt8) (fun a=>qJG r=some (a.1,a.2)∧a.1.length≤s.length∧a.2.length≤s.length) (fun a=>⟨qV 80 [(2,.ptr 2 0),(4,.p (.str a.2)),(5,.p (.bool ng)),(6,.p (.str W)),(7,.p (.str a.1))],[],[(2,.vars 26 [.p (.bool false),.p (.str []),.p (.int .i64 0)])],0⟩) ?_ ?_
 ·
  refine rgn [.nilp,.tup [.str (qCI r [46]),.bool (jH r [46])]] [[],[],[],[],[],[2,4,5,6,7,8,28],[2,4,5,6,7,8,9]] ?_
  iterate 7 refine oq1 tok hcr ?_
  refine qA (rgn [] [[2,4,5,6,7,8,29]] ?_)
  refine op1 tok ?_
  refine qA (cnd ?_ ?_)
  ·intro h29
   try simp at h29
   have hh:r.head?=some 46:=by rw [hr46] at h29; simpa using h29
   rw [if_pos hh] at hcut
   rw [hcut]
   have hF:qJG r=if (r.drop 1).takeWhile qH=[] then none else some ((r.drop 1).takeWhile qH,(r.drop 1).dropWhile qH):=by unfold qJG; rw [if_pos hh]
   rw [hF]
   generalize (r.drop 1).takeWhile qH=P at *
   generalize (r.drop 1).dropWhile qH=q at *
   rw [List.drop_one] at hl2
   refine rgn [.nilp,.tup [.str P,.str q]] [[],[],[],[],[2,5,6,33,34],[],[2,4,5,6,7]] ?_
   iterate 7 refine oq1 tok hl2 ?_
   refine qA (rgn [] [[],[2,4,5,6,7,36]] ?_)
   iterate 2 refine op1 tok ?_
   refine qA (cnd ?_ ?_)
   ·intro h36
    try simp at h36
    rw [if_pos h36]
    refine rgn [] [[],[],[2,3]] ?_
    iterate 3 refine op1 tok ?_
    refine qA ?_
    exact AW.ret (qG (k:=by simp [xO]))
   intro h36
   try simp at h36
   rw [if_neg h36]
   refine AW.skip ?_
   exact ⟨(P,q),⟨rfl,by simp only []; omega,by simp only []; omega⟩,qB (by simp),rfl,by simp,by simp⟩
  intro h29
  try simp at h29
  have hh:¬ r.head?=some 46:=by rw [hr46] at h29; simpa using h29
  have hF:qJG r=some ([],r):=by unfold qJG; rw [if_neg hh]
  rw [hF]
  refine AW.skip ?_
  exact ⟨([],r),⟨rfl,by simp,by simp only []; omega⟩,qB (by simp),rfl,by simp,by simp⟩
 ·
  rintro ⟨P,q⟩ ⟨hf,hpl,hql⟩
  simp only at hpl hql
  rw [hf]
  simp only
  have hex:=zAC (G:=G) q (by omega)
  have hrg:=zDO q
  generalize qJI q=e at *
  have hix:∀ h:W≠[],W[0]?=some (W.getD 0 0):=fun h=>qPO (List.length_pos_iff.2 h)
  refine rgn [.nilp,.tup [.int .i64 (e.getD 0),.bool e.isSome]] [[],[],[],[],[2,5,6,7,41,42],[],[2,5,6,7,10,11]] ?_
  iterate 7 refine oq1 tok hex ?_
  refine qA (AW.seq (rgn [.int .u8 (W.getD 0 0).toNat] [[],[],[],[],[2,5,6,7,10,45,47],[],[],[],[2,5,6,7,10,49,51],[],[],[],[],[2,5,6,7,10,49,53,56],[],[2,5,6,7,10,58]] ?_))
  iterate 16 first | refine op1 tok ?_ (hv:=by first | with_reducible exact True.intro | (first | exact fun h1 h2 h3=>⟨⟨⟨h1,h2⟩,h3⟩,_,hix h2,rfl⟩ | exact fun h1 h2=>⟨⟨h1,h2⟩,fun h3=>⟨⟨h1,h2⟩,h3⟩⟩ | simp; done) | omega | simp | (simp +contextual; omega)) | refine op2 tok ?_ (hv:=by first | with_reducible exact True.intro | (first | exact fun h1 h2 h3=>⟨⟨⟨h1,h2⟩,h3⟩,_,hix h2,rfl⟩ | exact fun h1 h2=>⟨⟨h1,h2⟩,fun h3=>⟨⟨h1,h2⟩,h3⟩⟩ | simp; done) | omega | simp | (simp +contextual; omega))
  refine qA (cnd ?_ ?_)
  ·intro h58
   try simp at h58
   have hbad:zAG ng W P e=xO:=by
    cases e with
    | none=>rfl
    | some up =>
     simp only [zAG]
     rw [if_pos]
     rcases h58 with (h | h) | h
     ·cases h
     ·exact .inl h
     exact .inr ⟨by omega,zUC h.2⟩
   rw [hbad]
   refine rgn [] [[],[],[2,3]] ?_
   iterate 3 refine op1 tok ?_
   refine qA ?_
   exact AW.ret (qG (k:=by simp [xO]))
  intro h58
  try simp at h58
  obtain ⟨up,rfl⟩:∃ up,e=some up:=by
   cases e with
   | none=>exact absurd rfl h58.1.1
   | some up=>exact ⟨up,rfl⟩
  have hend:zAG ng W P (some up)=vW ng (W++P) (P.length-up):=by
   simp only [zAG]; rw [if_neg]
   rintro (h | ⟨h,h'⟩)
   ·exact h58.1.2 h
   refine h58.2 (by omega) ?_
   cases W with
   | nil=>simp at h'
   | cons b W=>simp at h'; subst h'; rfl
  rw [hend]
  simp only [Option.getD_some] at hrg ⊢
  have hWP:(W++P).length≤2000000000:=by simp; omega
  refine AW.skip (rgn [] [[],[],[],[2,5,10,62,63],[],[],[2,5,62,66],[],[2,5,12,13]] ?_)
  iterate 9 refine op1 tok ?_
  refine qA (AW.seq (rgn [] [[],[2,5,12,13,68]] ?_))
  iterate 2 refine op1 tok ?_
  refine qA (cnd ?_ ?_)
  ·intro h68
   try simp at h68
   obtain ⟨z,hz⟩:∃ z:Nat,(z:Int)=up-P.length:=⟨(up-P.length).toNat,by omega⟩
   have hw3:IntKind.i64.wrap (-((P.length:Int)-up))=(z:Int):=by simp [IntKind.wrap,IntKind.bits,IntKind.signed]; omega
   have hrp:=qDO (G:=G) [48] z (by simp; omega)
   rw [zYJ] at hrp
   have hL:vW ng (W++P) ((P.length:Int)-up)=yX ng (W++(P++qL z)) 0:=by
    unfold vW; rw [if_pos h68,show (-((P.length:Int)-up)).toNat=z by omega,List.append_assoc]
   have hzl:(qL z).length=z:=by simp [qL]
   rw [hL]
   have hmd:=qVW (G:=G) ng (W++(P++qL z)) 0 (by simp [qL] at hWP ⊢; omega) (by omega)
   refine rgz [.nilp,.str (qL z)] [[],[],[],[2,5,69,72],[],[],[2,5,12,13]] ?_
   iterate 7 refine op1 tok ?_ (hv:=by first | with_reducible exact True.intro | (first | (rw [hw3]; exact hrp) | (simp at hWP; omega); done) | omega | simp | (simp +contextual; omega))
   refine qA (rgn [.nilp,.tup [(yX ng (W++(P++qL z)) 0).1.enc,.int .i64 (yX ng (W++(P++qL z)) 0).2]] [[],[],[],[2,77],[],[],[],[2,3]] ?_)
   iterate 8 refine oq1 tok hmd ?_
   exact qA (AW.ret qG)
  intro h68
  try simp at h68
  obtain ⟨sc,hsc⟩:∃ sc:Nat,(sc:Int)=P.length-up:=⟨((P.length:Int)-up).toNat,by omega⟩
  have hL:vW ng (W++P) ((P.length:Int)-up)=yX ng (W++P) sc:=by
   unfold vW; rw [if_neg (by omega),show ((P.length:Int)-up).toNat=sc by omega]
  rw [hL]
  have hmd:=qVW (G:=G) ng (W++P) sc (by omega) (by omega)
  rw [hsc] at hmd
  refine AW.skip (rgn [.nilp,.tup [(yX ng (W++P) sc).1.enc,.int .i64 (yX ng (W++P) sc).2]] [[],[],[],[2,77],[],[],[],[2,3]] ?_)
  iterate 8 refine oq1 tok hmd ?_
  exact qA (AW.ret qG)
theorem zBK (d:Dc) (hd:zO d=true):AFn Tryz.prog G 69 [d.enc] (.str (qEP d)):=by
 refine AFn.introU tok Tryz.func69 (by kernel_rfl) rfl rfl ?_
 simp only [Tryz.f69,qI,List.map_cons,List.map_nil]
 have hb:=qTU hd
 have hzl:(qL (d.scale.toNat+1-d.digits.length)).length=d.scale.toNat+1-d.digits.length:=by simp [qL]
 have hpl:(qCW d).length=d.scale.toNat+1-d.digits.length+d.digits.length:=by simp [qCW,qL]
 have hP:qEP d=(if d.neg=true then [45] else [])++(if d.scale=0 then qCW d else (qCW d).take ((qCW d).length-d.scale.toNat)++46::(qCW d).drop ((qCW d).length-d.scale.toNat)):=rfl
 have hpad:qL (d.scale.toNat+1-d.digits.length)++d.digits=qCW d:=rfl
 rw [hP]
 have hz:=qCN (G:=G) (d.scale-d.digits.length+1) (by omega)
 rw [show (d.scale-(d.digits.length:Int)+1).toNat=d.scale.toNat+1-d.digits.length by omega] at hz
 refine rgn [] [[],[1]] ?_
 iterate 2 refine op1 tok ?_
 refine qA (rgn [] [[],[],[1,3]] ?_)
 iterate 3 refine op1 tok ?_
 refine qA ?_
 refine AW.join (α:=Unit) (fun _=>True) (fun a=>⟨qV 44 [(1,.ptr 1 0),(3,.p (.str (qCW d)))],[],[(1,.vars 26 [.p (.bool d.neg),.p (.str d.digits),.p (.int .i64 d.scale)])],0⟩) ?_ ?_
 ·
  refine rgn [] [[],[],[],[],[1,3,10]] ?_
  iterate 5 refine op1 tok ?_
  refine qA (cnd ?_ ?_)
  ·intro h10
   try simp at h10
   refine rgz [.nilp,.str (qL (d.scale.toNat+1-d.digits.length))] [[],[],[],[],[1,3,15],[],[],[],[1,19],[1,3]] ?_
   iterate 10 refine oq1 tok hz ?_
   refine qA ?_
   exact ⟨(),trivial,qB (by simp [hpad]),rfl,by simp [hpad],by simp [hpad]⟩
  intro h10
  try simp at h10
  have hnp:qCW d=d.digits:=by unfold qCW; rw [show d.scale.toNat+1-d.digits.length=0 by omega]; rfl
  refine AW.skip ?_
  exact ⟨(),trivial,qB (by simp [hnp]),rfl,by simp [hnp],by simp [hnp]⟩
 ·
  rintro a hI
  have hk:((qCW d).length-d.scale).toNat=(qCW d).length-d.scale.toNat:=by omega
  generalize qCW d=pd at *
  refine AW.seq (rgn [] [[],[],[1,3,22]] ?_)
  iterate 3 refine op1 tok ?_
  refine qA (cnd ?_ ?_)
  ·intro h22
   try simp at h22
   refine AW.runDrawK tok mixed [1,3] 16 [[3],[3],[24],[1],[26],[25,27],[23,28],[29],[3],[3],[32],[1],[34],[33,35],[31,36],[30,37]] [] [] (by kernel_rfl) (by intro C; conv=>lhs; simp) (by omega) (by simp [Sm.sum,Sm.foot,Sm.tch,Sm.refs]; kernel_rfl) (by intro C; conv=>lhs; simp) (by first | with_reducible exact True.intro | omega | simp | (simp +contextual; omega)) ?_
   refine AW.seq (rgn [] [[],[3,40]] ?_)
   iterate 2 refine op1 tok ?_
   refine qA (cnd ?_ ?_)
   ·intro h40
    try simp at h40
    refine rgn [] [[],[],[2]] ?_
    iterate 3 refine op1 tok ?_
    refine qA ?_
    exact AW.ret (qG (k:=by simp [show ¬ d.scale=0 by omega,h40,hk]))
   intro h40
   try simp at h40
   refine AW.skip (rgn [] [[],[2]] ?_)
   iterate 2 refine op1 tok ?_
   refine qA ?_
   exact AW.ret (qG (k:=by simp [show ¬ d.scale=0 by omega,h40,hk]))
  intro h22
  try simp at h22
  refine AW.skip (AW.seq (rgn [] [[],[3,40]] ?_))
  iterate 2 refine op1 tok ?_
  refine qA (cnd ?_ ?_)
  ·intro h40
   try simp at h40
   refine rgn [] [[],[],[2]] ?_
   iterate 3 refine op1 tok ?_
   refine qA ?_
   exact AW.ret (qG (k:=by simp [show d.scale=0 by omega,h40]))
  intro h40
  try simp at h40
  refine AW.skip (rgn [] [[],[2]] ?_)
  iterate 2 refine op1 tok ?_
  refine qA ?_
  exact AW.ret (qG (k:=by simp [show d.scale=0 by omega,h40]))
def zOU (u:Bool):V:=if u then .ptr 2 0 else .p .nilp
def qEX (u:Bool) (bs:List UInt8):List (Nat × Box):=[(2,.vars 163 [zOU u,.ms 3]),(3,.row 5 1 (qM bs))]
theorem zBF:(Tryz.prog.info? 163).map (·.size)=some 2:=by kernel_rfl
theorem zOT:liesAt Tryz.prog Tryz.prog.depth 163 (2 / Tryz.prog.cellsOf 163) 0 163 1=true:=by kernel_rfl
section
set_option maxHeartbeats 1000000 in
theorem zRL (b : Nat) (w : World) (h0 : w.cell? ⟨b, 0, none⟩ = some (.pointer (some ⟨b, 0, none⟩))) :
  Calls Tryz.prog 204 #[.pointer (some ⟨b,0,none⟩)] w fun e w'=>e = .returned (.tuple #[])∧w'=w:=by
 obtain ⟨j,hj,_⟩:=Option.map_eq_some_iff.1 zBF
 go_enter Tryz.func204,Tryz.ntmps204
 go_wp2
 rw [Lib.run_neq_ptr_same w _ Tryz.underlying161 hj]
 go_wp2
 go_end0
 exact ⟨rfl,rfl⟩
set_option maxHeartbeats 1000000 in
theorem zOM (b : Nat) (w : World) (h0 : w.cell? ⟨b, 0, none⟩ = some (.pointer none)) (hsh : w.shape? b = some (163, 2)) (hfz : w.frozen? ⟨b, 0, none⟩ = false) :
  Calls Tryz.prog 204 #[.pointer (some ⟨b,0,none⟩)] w fun e w'=>e = .returned (.tuple #[])∧w'=w.setCell ⟨b,0,none⟩ (.pointer (some ⟨b,0,none⟩)):=by
 obtain ⟨j,hj,hjs⟩:=Option.map_eq_some_iff.1 zBF
 go_enter Tryz.func204,Tryz.ntmps204
 go_wp2
 rw [Lib.run_to_unsafe w ⟨b,0,none⟩ Tryz.underlying161 Tryz.underlying232 hj (by rw [hjs]; decide) hsh (Nat.zero_lt_succ 1)]
 simp only [Result.andThen]
 rw [Oper.upon_value]
 go_wp2
 rw [run_callFunc_extern Tryz.func228 (by kernel_rfl) (by kernel_rfl) (by kernel_rfl) (e:=Extern.AbiNoEscape.same) (by kernel_rfl)]
 rw [Lib.run_noEscape]
 simp only [Result.andThen]
 rw [Oper.upon_value]
 go_wp2
 rw [Lib.run_from_unsafe w ⟨b,0,none⟩ Tryz.underlying232 Tryz.underlying161 hj hsh zOT]
 simp only [Result.andThen]
 rw [Oper.upon_value]
 go_wp2
 go_end0
 exact ⟨rfl,rfl⟩
end
theorem qJL (u:Bool) (bs:List UInt8):AX Tryz.prog G 204 [.ptr 2 0] (qEX u bs) (.tuple []) [2,3] (qEX true bs):=by
 refine ⟨uX Tryz.func204 (by kernel_rfl) rfl,fun M μ w vs hg rel => ?_⟩
 obtain ⟨l⟩:=vs
 have hsz:l.length=1:=by simpa using rel.slots.1
 match l,hsz with
 | [v],_ =>
 have hv:=rel.slots.2 0 v (.ptr 2 0) rfl rfl
 cases hv with
 | @ptr _ _ b hb =>
 have hbx:=rel.box 2 (.vars 163 [zOU u,.ms 3]) (by simp [qEX])
 cases hbx with
 | @vars _ _ b' arr h0 hh hs ho hc =>
 rw [hb] at h0; cases h0
 obtain ⟨x,y,rfl⟩:∃ x y,arr = #[x,y]:=by
  obtain ⟨l⟩:=arr
  match l,hs with
  | [x,y],_=>exact ⟨x,y,rfl⟩
 have hx:=hc 0 x (zOU u) rfl rfl
 have hy:=hc 1 y (.ms 3) rfl rfl
 have hfin : ∀ w', Rel ⟨w.heap.size, w, M, μ, yP μ (qEX u bs)⟩ M μ ⟨[.ptr 2 0], (qEX u bs).map (·.1), qEX true bs, 0⟩ #[.pointer (some ⟨b, 0, none⟩)] w' →
   ∃ v M' μ',(Ending.returned (.tuple #[]):Ending) = .returned v∧Rel ⟨w.heap.size,w,M,μ,yP μ (qEX u bs)⟩ M' μ' ⟨[.tuple []],[2,3],qEX true bs,0⟩ #[v] w':=by
  intro w' r
  refine ⟨_,M,μ,rfl,{ r with slots:=⟨rfl,fun i u x hu hx => ?_⟩,pins:=fun _ _=>rfl }⟩
  cases i with
  | zero=>simp at hu hx; subst hu; subst hx; exact .tuple rfl fun i u x hu=>by simp at hu
  | succ i=>simp at hx
 cases u with
 | true =>
  obtain rfl:x = .pointer (some ⟨b,0,none⟩):=by
   cases hx with
   | ptr h=>rw [hb] at h; cases h; rfl
  refine (zRL b w (by rw [zR hh]; rfl)).mono ?_
  rintro e w' ⟨rfl,rfl⟩
  exact hfin _ rel
 | false =>
  obtain rfl:x = .pointer none:=by
   cases hx with
   | p h=>cases h; rfl
  refine (zOM b w (by rw [zR hh]; rfl) (by simp [World.shape?,hh]) (by simp [World.frozen?,hh])).mono ?_
  rintro e w' ⟨rfl,rfl⟩
  refine hfin _ ?_
  have ht:Turned w (w.setCell ⟨b,0,none⟩ (.pointer (some ⟨b,0,none⟩))) b :=
   ⟨rfl,rfl,rfl,by simp [World.setCell],fun k hk=>RowKit.Below.heap_setCell w ⟨b,0,none⟩ _ k hk⟩
  have:=rel.write (id:=2) (bx := .vars 163 [zOU true,.ms 3]) (by simp [qO,qEX]) hb ht (.vars (arr := #[.pointer (some ⟨b,0,none⟩),y]) hb (by simp only [World.setCell,Array.getElem?_modify,if_pos,hh]; simp) rfl (fun i u hu => ?_) (fun i u x hu hx => ?_))
  ·simpa [qEX,wF] using this
  ·match i,hu with
   | 0,hu=>simp at hu; subst hu; rfl
   | 1,hu=>exact ho 1 u (by simpa using hu)
   | i+2,hu=>simp at hu
  match i,hu,hx with
  | 0,hu,hx=>simp at hu hx; subst hu; subst hx; exact .ptr hb
  | 1,hu,hx=>simp at hu hx; subst hu; subst hx; exact hy
  | i+2,hu,hx=>simp at hu
theorem zUH (bs:List UInt8):AX Tryz.prog G 204 [.ptr 2 0] [(2,.vars 163 [.p .nilp,.ms 3]),(3,.row 5 1 (qM bs))] (.tuple []) [2,3] [(2,.vars 163 [.ptr 2 0,.ms 3]),(3,.row 5 1 (qM bs))]:=qJL false bs
theorem zYY (bs:List UInt8):AX Tryz.prog G 204 [.ptr 2 0] [(2,.vars 163 [.ptr 2 0,.ms 3]),(3,.row 5 1 (qM bs))] (.tuple []) [2,3] [(2,.vars 163 [.ptr 2 0,.ms 3]),(3,.row 5 1 (qM bs))]:=qJL true bs
open Go.Shelf Go.RowKit
section
variable {P:Program} {ρ:Ren}
abbrev qRN (g:Nat) (w w':World):Prop:=Kept (fun k=>k=g∨w.heap.size≤k) w w'
theorem qKL (g:Nat) (w:World):qRN g w w.drew:=⟨rfl,rfl,rfl,Nat.le_refl _,fun _ _=>rfl⟩
theorem qZI (g:Nat) (w:World) (n:Nat):qRN g w (w.drew.freeze ⟨g,0,none⟩ n):=by
 unfold World.freeze
 split
 ·exact qKL g w
 exact ⟨rfl,rfl,rfl,by simp only [Array.size_modify]; exact Nat.le_refl _,fun k hk=>by
  simp only [Array.getElem?_modify]
  rw [if_neg (by omega)]; rfl⟩
theorem qOT (g:Nat) (w:World) (o:Obj):qRN g w (w.alloc o).drew:=⟨rfl,rfl,rfl,by show w.heap.size≤(w.heap.push o).size; simp,fun k hk=>by
 show (w.heap.push o)[k]?=_
 rw [Array.getElem?_push,if_neg (by omega)]⟩
theorem qZJ (g:Nat) (w:World) (o:Obj):qRN g w (w.drew.alloc o):=qOT g w o
set_option maxHeartbeats 1000000 in
theorem zRP (L : Lays.n169 P ρ) (X : Builder.Extra P ρ) (b g cap : Nat) (p : Value) (cur : Array Value) (l : List UInt8) (w : World) (hbk : w.heap[b]? = some (.cells #[p, .slice (some ⟨g, 0, none⟩) l.length cap] (ρ.t 72) (0, 0)))
  (hg:w.heap[g]?=some (.cells cur (ρ.t 5) (0,0))) (hnc:l.length≤cap) (hcm:cap≤maxLen) (hcs:cur.size=cap) (hcells:∀ (j:Nat) (x:UInt8),l[j]?=some x→cur[j]?=some (Value.int .u8 x.toNat)) (h0:l≠[]) :
  Calls P (ρ.f 169) #[.pointer (some ⟨b,0,none⟩)] w fun e w'=>e = .returned (.string ⟨l.toArray⟩)∧qRN g w w':=by
 have hl0:l.length≠0:=by simpa using h0
 have c1:w.drew.cell? ⟨b,1,none⟩=some (.slice (some ⟨g,0,none⟩) l.length cap):=by
  have:w.drew.heap[b]?=some (.cells #[p,.slice (some ⟨g,0,none⟩) l.length cap] (ρ.t 72) (0,0)):=hbk
  rw [Lib.cell_of_heap this]; rfl
 have hSD:(Builtin.unsafeSliceData_ #[(ρ.t 37)] (ρ.t 127) #[.slice (some ⟨g,0,none⟩) l.length cap]).run P w.drew = .ok (.pointer (some ⟨g,0,none⟩)) w.drew :=
  Lib.run_unsafeSliceData_row _ _ _ _ _ _ (by omega)
 have hUS:(Builtin.unsafeString_ #[(ρ.t 127),(ρ.t 3)] (ρ.t 9) #[.pointer (some ⟨g,0,none⟩),.int .i64 l.length]).run P w.drew = .ok (.string ⟨l.toArray⟩) (w.drew.freeze ⟨g,0,none⟩ l.length):=by
  refine Lib.run_unsafeString_row w.drew (ρ.t 127) (ρ.t 3) (ρ.t 9) (ρ.t 5) L.t127 X.cellsByte g cur.size (by have hg':w.drew.heap[g]?=some (.cells cur (ρ.t 5) (0,0)):=hg; simp [World.shape?,hg']) l h0 (by omega) (by unfold maxLen at hcm; omega) ?_
  intro j x hx
  have hg':w.drew.heap[g]?=some (.cells cur (ρ.t 5) (0,0)):=hg
  rw [xH,Nat.zero_add,Lib.cell_of_heap hg']
  exact hcells j x hx
 have mixed:=L.mixed
 have t72:=L.t72; have a72:=L.a72; have z72:=L.z72; have v72:=L.v72; have u72:=run_underlying L.t72
 have t70:=L.t70; have a70:=L.a70; have z70:=L.z70; have v70:=L.v70; have u70:=run_underlying L.t70
 have t37:=L.t37; have a37:=L.a37; have z37:=L.z37; have v37:=L.v37; have u37:=run_underlying L.t37
 have t127:=L.t127; have a127:=L.a127; have z127:=L.z127; have v127:=L.v127; have u127:=run_underlying L.t127
 have t3:=L.t3; have a3:=L.a3; have z3:=L.z3; have v3:=L.v3; have u3:=run_underlying L.t3
 have t9:=L.t9; have a9:=L.a9; have z9:=L.z9; have v9:=L.v9; have u9:=run_underlying L.t9
 have t5:=X.t5; have a5:=X.a5; have z5:=X.z5; have v5:=X.v5; have u5:=run_underlying X.t5
 go_enter L.f169,Body.n169_ntmps ρ
 go_wp2
 go_region_o
 all_goals (go_wp2; go_ret; exact ⟨rfl,qZI g w _⟩)
set_option maxHeartbeats 2000000 in
theorem zRQ (L : Lays.n169 P ρ) (X : Builder.Extra P ρ) (b : Nat) (p : Value) (w : World) (hbk : w.heap[b]? = some (.cells #[p, .slice none 0 0] (ρ.t 72) (0, 0))) :
  Calls P (ρ.f 169) #[.pointer (some ⟨b,0,none⟩)] w fun e w'=>e = .returned (.string ⟨#[]⟩)∧qRN w.heap.size w w':=by
 have hUS:=Any.unsafeString_none L X
 have c1:w.drew.cell? ⟨b,1,none⟩=some (.slice none 0 0):=by
  have:w.drew.heap[b]?=some (.cells #[p,.slice none 0 0] (ρ.t 72) (0,0)):=hbk
  rw [Lib.cell_of_heap this]; rfl
 have hSD:(Builtin.unsafeSliceData_ #[(ρ.t 37)] (ρ.t 127) #[.slice none 0 0]).run P w.drew = .ok (.pointer none) w.drew:=rfl
 have mixed:=L.mixed
 have t72:=L.t72; have a72:=L.a72; have z72:=L.z72; have v72:=L.v72; have u72:=run_underlying L.t72
 have t70:=L.t70; have a70:=L.a70; have z70:=L.z70; have v70:=L.v70; have u70:=run_underlying L.t70
 have t37:=L.t37; have a37:=L.a37; have z37:=L.z37; have v37:=L.v37; have u37:=run_underlying L.t37
 have t127:=L.t127; have a127:=L.a127; have z127:=L.z127; have v127:=L.v127; have u127:=run_underlying L.t127
 have t3:=L.t3; have a3:=L.a3; have z3:=L.z3; have v3:=L.v3; have u3:=run_underlying L.t3
 have t9:=L.t9; have a9:=L.a9; have z9:=L.z9; have v9:=L.v9; have u9:=run_underlying L.t9
 have t5:=X.t5; have a5:=X.a5; have z5:=X.z5; have v5:=X.v5; have u5:=run_underlying X.t5
 go_enter L.f169,Body.n169_ntmps ρ
 go_wp2
 go_region_o
 all_goals (go_wp2; go_ret; exact ⟨rfl,qKL _ w⟩)
set_option maxHeartbeats 2000000 in
theorem zOS (L : Lays.n169 P ρ) (X : Builder.Extra P ρ) (b g : Nat) (p : Value) (cur : Array Value) (w : World) (hlt : b < w.heap.size) (hbk : w.heap[b]? = some (.cells #[p, .slice (some ⟨g, 0, none⟩) 0 0] (ρ.t 72) (0, 0))) (hg : w.heap[g]? = some (.cells cur (ρ.t 5) (0, 0))) :
  Calls P (ρ.f 169) #[.pointer (some ⟨b,0,none⟩)] w fun e w'=>e = .returned (.string ⟨#[]⟩)∧qRN g w w':=by
 have hUS:=Any.unsafeString_none L X
 have c1:w.drew.cell? ⟨b,1,none⟩=some (.slice (some ⟨g,0,none⟩) 0 0):=by
  have:w.drew.heap[b]?=some (.cells #[p,.slice (some ⟨g,0,none⟩) 0 0] (ρ.t 72) (0,0)):=hbk
  rw [Lib.cell_of_heap this]; rfl
 have hSD:(Builtin.unsafeSliceData_ #[(ρ.t 37)] (ρ.t 127) #[.slice (some ⟨g,0,none⟩) 0 0]).run P w.drew = .ok (.pointer (some ⟨w.drew.heap.size,0,none⟩)) (w.drew.alloc (.view ⟨g,0,none⟩ (ρ.t 5))) :=
  Lib.run_unsafeSliceData_zero w.drew _ _ (ρ.t 5) L.t127 ⟨g,0,none⟩ 0 ((ρ.t 5),cur.size) (by have hg':w.drew.heap[g]?=some (.cells cur (ρ.t 5) (0,0)):=hg; simp [World.shape?,hg'])
 have c2:(w.drew.alloc (.view ⟨g,0,none⟩ (ρ.t 5))).cell? ⟨b,1,none⟩=some (.slice (some ⟨g,0,none⟩) 0 0):=by
  have:(w.drew.alloc (.view ⟨g,0,none⟩ (ρ.t 5))).heap[b]?=_:=(Lib.alloc_old w.drew _ b hlt).trans hbk
  rw [Lib.cell_of_heap this]; rfl
 have c3:(w.alloc (.view ⟨g,0,none⟩ (ρ.t 5))).drew.cell? ⟨b,1,none⟩=some (.slice (some ⟨g,0,none⟩) 0 0):=c2
 have c0:w.cell? ⟨b,1,none⟩=some (.slice (some ⟨g,0,none⟩) 0 0):=c1
 have mixed:=L.mixed
 have t72:=L.t72; have a72:=L.a72; have z72:=L.z72; have v72:=L.v72; have u72:=run_underlying L.t72
 have t70:=L.t70; have a70:=L.a70; have z70:=L.z70; have v70:=L.v70; have u70:=run_underlying L.t70
 have t37:=L.t37; have a37:=L.a37; have z37:=L.z37; have v37:=L.v37; have u37:=run_underlying L.t37
 have t127:=L.t127; have a127:=L.a127; have z127:=L.z127; have v127:=L.v127; have u127:=run_underlying L.t127
 have t3:=L.t3; have a3:=L.a3; have z3:=L.z3; have v3:=L.v3; have u3:=run_underlying L.t3
 have t9:=L.t9; have a9:=L.a9; have z9:=L.z9; have v9:=L.v9; have u9:=run_underlying L.t9
 have t5:=X.t5; have a5:=X.a5; have z5:=X.z5; have v5:=X.v5; have u5:=run_underlying X.t5
 go_enter L.f169,Body.n169_ntmps ρ
 go_wp2
 go_region_o
 all_goals (go_wp2; go_ret; first | exact ⟨rfl,qOT g w _⟩ | exact ⟨rfl,qZJ g w _⟩)
set_option maxHeartbeats 2000000 in
theorem zOR (L : Lays.n169 P ρ) (X : Builder.Extra P ρ) (b g cap : Nat) (p : Value) (w : World) (hc0 : cap ≠ 0) (hbk : w.heap[b]? = some (.cells #[p, .slice (some ⟨g, 0, none⟩) 0 cap] (ρ.t 72) (0, 0))) :
  Calls P (ρ.f 169) #[.pointer (some ⟨b,0,none⟩)] w fun e w'=>e = .returned (.string ⟨#[]⟩)∧qRN g w w':=by
 have hUS:=Any.unsafeString_none L X
 have c1:w.drew.cell? ⟨b,1,none⟩=some (.slice (some ⟨g,0,none⟩) 0 cap):=by
  have:w.drew.heap[b]?=some (.cells #[p,.slice (some ⟨g,0,none⟩) 0 cap] (ρ.t 72) (0,0)):=hbk
  rw [Lib.cell_of_heap this]; rfl
 have hSD:(Builtin.unsafeSliceData_ #[(ρ.t 37)] (ρ.t 127) #[.slice (some ⟨g,0,none⟩) 0 cap]).run P w.drew = .ok (.pointer (some ⟨g,0,none⟩)) w.drew :=
  Lib.run_unsafeSliceData_row _ _ _ _ _ _ hc0
 clear hc0
 have mixed:=L.mixed
 have t72:=L.t72; have a72:=L.a72; have z72:=L.z72; have v72:=L.v72; have u72:=run_underlying L.t72
 have t70:=L.t70; have a70:=L.a70; have z70:=L.z70; have v70:=L.v70; have u70:=run_underlying L.t70
 have t37:=L.t37; have a37:=L.a37; have z37:=L.z37; have v37:=L.v37; have u37:=run_underlying L.t37
 have t127:=L.t127; have a127:=L.a127; have z127:=L.z127; have v127:=L.v127; have u127:=run_underlying L.t127
 have t3:=L.t3; have a3:=L.a3; have z3:=L.z3; have v3:=L.v3; have u3:=run_underlying L.t3
 have t9:=L.t9; have a9:=L.a9; have z9:=L.z9; have v9:=L.v9; have u9:=run_underlying L.t9
 have t5:=X.t5; have a5:=X.a5; have z5:=X.z5; have v5:=X.v5; have u5:=run_underlying X.t5
 go_enter L.f169,Body.n169_ntmps ρ
 go_wp2
 go_region_o
 all_goals (go_wp2; go_ret; exact ⟨rfl,qKL _ w⟩)
end
theorem qEM:Builder.Extra Tryz.prog Tryz.lays169_ren where
 sizeBuilder:=by kernel_rfl
 liesBuilder:=by kernel_rfl
 t5:=Tryz.underlying5
 a5:=Tryz.isAgg5
 z5:=Tryz.sizeOf5
 v5:=Tryz.zeroValue5
 infoByte:=by kernel_rfl
 cellsByte:=by kernel_rfl
 sizeByte:=by kernel_rfl
 neB5:=by decide
theorem qRL (u:Bool) (bs:List UInt8):AX Tryz.prog G 157 [.ptr 2 0] (qEX u bs) (.p (.str bs)) [] []:=by
 refine ⟨uX Tryz.func157 (by kernel_rfl) rfl,fun M μ w vs hg rel => ?_⟩
 obtain ⟨l⟩:=vs
 have hsz:l.length=1:=by simpa using rel.slots.1
 match l,hsz with
 | [v],_ =>
 have hv:=rel.slots.2 0 v (.ptr 2 0) rfl rfl
 cases hv with
 | @ptr _ _ b hb =>
 have hbx:=rel.box 2 (.vars 163 [zOU u,.ms 3]) (by simp [qEX])
 cases hbx with
 | @vars _ _ b' arr h0 hh hs ho hc =>
 rw [hb] at h0; cases h0
 obtain ⟨x,y,rfl⟩:∃ x y,arr = #[x,y]:=by
  obtain ⟨l⟩:=arr
  match l,hs with
  | [x,y],_=>exact ⟨x,y,rfl⟩
 have hy:=hc 1 y (.ms 3) rfl rfl
 have hblt:b<w.heap.size:=(Array.getElem?_eq_some_iff.1 hh).1
 have hfin : ∀ (g : Nat) (w' : World), (g < w.heap.size → yP μ (qEX u bs) g ∧ ∀ o, M g o = none) → bs.length ≤ maxLen → qRN g w w' →
   ∃ v M' μ',(Ending.returned (.string ⟨bs.toArray⟩):Ending) = .returned v∧Rel ⟨w.heap.size,w,M,μ,yP μ (qEX u bs)⟩ M' μ' ⟨[.p (.str bs)],[],[],0⟩ #[v] w':=by
  intro g w' hl hm hk
  refine ⟨_,M,μ,rfl, ?_⟩
  have hko:∀ k,k<w.heap.size→k≠g→w'.heap[k]?=w.heap[k]?:=fun k h1 h2=>hk.block k (by omega)
  refine ⟨fun b o v hv => ?_,fun _ _ _ h=>h,fun _ _ _=>rfl,⟨rfl,fun i u x hu hx => ?_⟩,fun _ h=>(by cases h),fun _ _ h=>(by cases h),by simp,fun _ _ _ h=>by simp [qO] at h,fun _ _ h=>by simp [qO] at h,hk.size, ?_⟩
  ·have h1:=rel.mem b o v hv
   have hlt:=jP h1
   exact (World.cell?_of_block (w:=w) (hko b hlt (by rintro rfl; rw [(hl hlt).2 o] at hv; cases hv))).trans h1
  ·cases i with
   | zero=>simp at hu hx; subst hu; subst hx; exact .p (.str (by simp) hm)
   | succ i=>simp at hx
  refine ⟨hk.os,hk.tape,hk.output,hk.size,fun k h => ?_⟩
  have h1:k<w.heap.size:=Nat.not_le.1 fun h'=>h (.inl h')
  exact hko k h1 (by rintro rfl; exact h (.inr (hl h1).1))
 have hrow:=rel.box 3 (.row 5 1 (qM bs)) (by simp [qEX])
 have key:∃ g,(g<w.heap.size→yP μ (qEX u bs) g∧∀ o,M g o=none)∧bs.length≤maxLen∧Calls Tryz.prog 157 #[.pointer (some ⟨b,0,none⟩)] w fun e w'=>e = .returned (.string ⟨bs.toArray⟩)∧qRN g w w':=by
  rcases hrow.cells with ⟨he,hn,hval⟩ | ⟨g,cap,cur,hg0,hval,hgh,hcs,hlc,hcm,hone,hro⟩
  ·obtain rfl:bs=[]:=by simpa [qM] using he
   have hy':y = .slice none 0 0:=by cases hy with | ms h _=>rw [h,hval]
   subst hy'
   exact ⟨w.heap.size,fun h=>absurd h (Nat.lt_irrefl _),by simp,zRQ Tryz.lays169 qEM b x w hh⟩
  have hy':y = .slice (some ⟨g,0,none⟩) bs.length cap:=by cases hy with | ms h _=>rw [h,hval]; simp [qM]
  subst hy'
  have hown:=rel.own 3 g (by simp [qO,qEX]) hg0
  refine ⟨g,fun h=>⟨⟨3,by simp [qO,qEX],hg0⟩,hown.2.2⟩,by simp [qM] at hlc; omega, ?_⟩
  by_cases hbs:bs=[]
  ·subst hbs
   by_cases hc0:cap=0
   ·subst hc0; exact zOS Tryz.lays169 qEM b g x cur w hblt hh hgh
   exact zOR Tryz.lays169 qEM b g cap x w hc0 hh
  refine zRP Tryz.lays169 qEM b g cap x cur bs w hh hgh (by simpa [qM] using hlc) hcm (by simpa using hcs) (fun j z hz => ?_) hbs
  have hjl:=(List.getElem?_eq_some_iff.1 hz).1
  have hj:j<cur.size:=by rw [hcs]; simp [qM] at hlc; omega
  have:=hro.get j (.int .u8 z.toNat) 0 (.int .u8 z.toNat) cur[j] (by simp [qM,hz]) rfl (by simp [qM,List.getElem?_take,hjl,hj])
  rw [Array.getElem?_eq_getElem hj]
  generalize cur[j]=q at this
  cases this
  rfl
 obtain ⟨g,h1,h2,h3⟩:=key
 refine h3.mono ?_
 rintro e w' ⟨rfl,hk⟩
 exact hfin g w' h1 h2 hk
theorem zKE (bs:List UInt8):AX Tryz.prog G 157 [.ptr 2 0] [(2,.vars 163 [.ptr 2 0,.ms 3]),(3,.row 5 1 (qM bs))] (.p (.str bs)) [] []:=qRL true bs
@[simp] theorem zUJ (a s:List UInt8):qM (a++s)=qM a++s.map fun b => .int .u8 b.toNat:=by simp [qM]
theorem qRM (bs:List UInt8) (c:UInt8) (hb:bs.length≤100000000000):AX Tryz.prog G 158 [.ptr 2 0,.p (.int .u8 c.toNat)] [(2,.vars 163 [.p .nilp,.ms 3]),(3,.row 5 1 (qM bs))] (.dead) [2] [(2,.vars 163 [.ptr 2 0,.ms 3]),(3,.row 5 1 (qM (bs++[c])))]:=by
 refine AX.introU tok 900 Tryz.func158 (by kernel_rfl) rfl rfl ?_
 simp only [Tryz.f158,qI,List.map_cons,List.map_nil]
 refine rgn [] [[0,1]] ?_
 refine op1 tok ?_
 refine qA (rgn [] [[]] ?_)
 refine op1 tok ?_
 refine qZ ?_
 refine qC.stepK [0,1] (yS rfl (zUH bs) (by simp)) (by conv=>lhs; simp) rfl ?_
 refine qC.nil ?_
 refine rgn [.int .u8 c.toNat] [[],[],[],[],[1,7,11],[],[],[7,14],[],[],[17]] ?_
 iterate 11 refine op1 tok ?_
 refine qA (rgn [] [[]] ?_)
 refine op1 tok ?_
 refine qA ?_
 exact AW.ret wD
theorem qWW (bs:List UInt8) (c:UInt8) (hb:bs.length≤100000000000):AX Tryz.prog G 158 [.ptr 2 0,.p (.int .u8 c.toNat)] [(2,.vars 163 [.ptr 2 0,.ms 3]),(3,.row 5 1 (qM bs))] (.dead) [2] [(2,.vars 163 [.ptr 2 0,.ms 3]),(3,.row 5 1 (qM (bs++[c])))]:=by
 refine AX.introU tok 900 Tryz.func158 (by kernel_rfl) rfl rfl ?_
 simp only [Tryz.f158,qI,List.map_cons,List.map_nil]
 refine rgn [] [[0,1]] ?_
 refine op1 tok ?_
 refine qA (rgn [] [[]] ?_)
 refine op1 tok ?_
 refine qZ ?_
 refine qC.stepK [0,1] (yS rfl (zYY bs) (by simp)) (by conv=>lhs; simp) rfl ?_
 refine qC.nil ?_
 refine rgn [.int .u8 c.toNat] [[],[],[],[],[1,7,11],[],[],[7,14],[],[],[17]] ?_
 iterate 11 refine op1 tok ?_
 refine qA (rgn [] [[]] ?_)
 refine op1 tok ?_
 refine qA ?_
 exact AW.ret wD
@[simp] theorem zUI:qM []=[]:=rfl
theorem qNR:∀ l:List UInt8,vP l≤l.length
 | []=>Nat.le_refl _
 | [b]=>by simp only [vP]; split <;> (try split) <;> simp
 | b::c::u=>by
  have h1:=qNR u
  have h2:=qNR (c::u)
  simp only [vP,List.length_cons] at h2 ⊢
  split
  ·omega
  split
  ·omega
  omega
theorem qNQ (l:List UInt8):qFC l≤l.length:=by
 unfold qFC
 split
 ·omega
 rename_i h
 have h1:=qNR (l.drop 1)
 have h2:=List.length_pos_iff.2 h
 rw [List.length_drop] at h1; omega
theorem zQA (t:List UInt8):vP (34::t)=1:=by unfold vP; simp
theorem zQC:vP [92]=1:=by unfold vP; simp
theorem zQD (d:UInt8) (u:List UInt8):vP (92::d::u)=2+vP u:=by rw [vP]; simp
theorem zQB {c:UInt8} (h1:c≠34) (h2:c≠92) (t:List UInt8):vP (c::t)=1+vP t:=by
 cases t <;> (rw [vP]; simp [h1,h2,vP])
def qDT (s:List UInt8) (i:Nat):Nat:=if i≤s.length then i+vP (s.drop i) else s.length
theorem qYG {s:List UInt8} {i:Nat} {c:UInt8} (h:s[i]?=some c):qDT s i=if c=34 then i+1 else if c=92 then qDT s (i+2) else qDT s (i+1):=by
 have hi:=(List.getElem?_eq_some_iff.1 h).1
 have hd:s.drop i=c::s.drop (i+1):=by
  rw [List.drop_eq_getElem_cons hi]; congr 1
  have:=List.getElem?_eq_getElem hi
  rw [h] at this; exact (Option.some.inj this).symm
 unfold qDT
 rw [if_pos (by omega),hd]
 by_cases h1:c=34
 ·rw [if_pos h1,h1,zQA]
 rw [if_neg h1]
 by_cases h2:c=92
 ·rw [if_pos h2]
  by_cases h3:i+2≤s.length
  ·obtain ⟨d,u,hu⟩:∃ d u,s.drop (i+1)=d::u:=by
    cases h4:s.drop (i+1) with
    | nil=>have:=congrArg List.length h4; simp at this; omega
    | cons d u=>exact ⟨d,u,rfl⟩
   have hu2:s.drop (i+2)=u:=by rw [show i+2=(i+1)+1 by omega,← List.drop_drop,hu]; rfl
   rw [if_pos h3,hu2,hu,h2,zQD]; omega
  have hu:s.drop (i+1)=[]:=List.drop_of_length_le (by omega)
  rw [if_neg h3,hu,h2,zQC]
  have:s.length=i+1:=by have:=congrArg List.length hu; simp at this; omega
  omega
 rw [if_neg h2,if_pos (by omega),zQB h1 h2]; omega
theorem zCF (s:List UInt8):qFC s=qDT s 1:=by
 unfold qFC qDT
 split
 ·rename_i h; subst h; rfl
 rename_i h; have:=List.length_pos_iff.2 h; rw [if_pos (by omega)]
theorem qRV {s:List UInt8} (h:(qRW s).isSome=true):6≤s.length:=by
 unfold qRW at h
 split at h
 ·cases h
 omega
theorem zNU {s:List UInt8} (h:(zAD s).2.2=true):(zAD s).2.1≤s.length:=by
 match s with
 | []=>simp [zAD] at h
 | [a]=>simp [zAD] at h
 | a::c::t =>
  have h1:=qRV (s:=a::c::t)
  have h2:=qRV (s:=(a::c::t).drop 6)
  unfold zAD at h ⊢
  cases hv:zYV c with
  | some v=>simp only [hv]; simp
  | none =>
   simp only [hv] at h ⊢
   unfold zYU at h ⊢
   generalize qRW (a::c::t)=A at *
   generalize qRW ((a::c::t).drop 6)=B at *
   split at h
   ·rename_i hc
    rw [if_pos hc]
    simp only [Bool.and_eq_true] at h
    exact h1 h.1
   rename_i hc
   rw [if_neg hc]
   simp only [Bool.and_eq_true] at h
   have:=h2 h.1
   rw [List.length_drop] at this
   simp only; omega
theorem qJX:∀ (f:Nat) (s:List UInt8) (k:Nat) (out:List UInt8),((uB f s k out).2.2=0∧(uB f s k out).2.1≤k+s.length)∨(((uB f s k out).2.2=3∨(uB f s k out).2.2=6)∧(uB f s k out).2.1=0)
 | 0,s,k,out => .inr (by simp [uB])
 | f+1,s,k,out=>by
  simp only [uB]
  split
  ·exact .inr (by simp)
  rename_i hne
  split
  ·split
   ·exact .inr (by simp)
   exact .inl ⟨rfl,by have:=List.length_pos_iff.2 hne; simp only; omega⟩
  split
  ·exact .inr (by simp)
  split
  ·cases he:zNT s with
   | none=>exact .inr (by simp)
   | some cn =>
    obtain ⟨c,n⟩:=cn
    simp only
    have hn:n≤s.length:=by
     unfold zNT at he
     split at he
     ·rename_i h; cases he; exact zNU h
     cases he
    have:=qJX f (s.drop n) (k+n) (out++Lib.encodeRune c)
    rw [List.length_drop] at this
    omega
  have hn:=Lib.decodeL_le s hne
  have:=qJX f (s.drop (Lib.decodeL s).2) (k+(Lib.decodeL s).2) (out++Lib.encodeRune (Lib.decodeL s).1)
  rw [List.length_drop] at this
  omega
theorem qCA (s:List UInt8):((zN s).2.2=0∧(zN s).2.1≤s.length)∨(((zN s).2.2=3∨(zN s).2.2=6)∧(zN s).2.1=0):=by
 unfold zN
 split
 ·rename_i h
  have:=qJX s.length (s.drop 1) 1 []
  rw [List.length_drop] at this
  have:1≤s.length:=by cases s with
   | nil=>simp at h
   | cons=>simp
  omega
 exact .inr (by simp)
theorem qSE (c:UInt8) (many:Nat) (st:RS):(uO c many st).2.nodes=st.nodes:=by
 unfold uO; simp only; split
 ·rfl
 split <;> simp
theorem zEQ (c:UInt8) (many:Nat) (st:RS) (h:(uO c many st).2.bad=false):st.bad=false:=by
 unfold uO at h; simp only at h; split at h
 ·rename_i hb; rw [hb] at h; cases h
 rename_i hb; simpa using hb
theorem qIN (st:RS):(qY st).1.nodes=st.nodes:=by
 unfold qY qBS; split
 ·rfl
 split <;> rfl
theorem zCO (st:RS) (h:(qY st).1.bad=false):st.bad=false:=by
 unfold qY qBS at h; split at h
 ·exact h
 split at h
 ·exact h
 cases h
theorem zAP (st:RS):(yL st).nodes=st.nodes:=by
 unfold yL; split
 ·rfl
 simp
theorem zDY (st:RS):(vK st).1.nodes=st.nodes:=by
 unfold vK
 split
 ·rfl
 split
 ·rfl
 split
 ·rfl
 split
 ·exact qIN st
 split <;> rfl
theorem zOV (st:RS) (h:(vK st).1.bad=false):st.bad=false:=by
 unfold vK at h
 split at h
 ·exact h
 split at h
 ·exact h
 split at h
 ·exact h
 split at h
 ·exact zCO st h
 split at h
 ·simp only [jI,Bool.or_eq_false_iff] at h; exact h.1
 cases h
theorem zSE : ∀ n : Nat, (∀ st d, (kM n st d).1.bad = false → st.bad = false ∧ (kM n st d).1.nodes + (kM n st d).1.left.length ≤ st.nodes + st.left.length) ∧
  (∀ st d many vs,(qBM n st d many vs).1.bad=false→st.bad=false∧(qBM n st d many vs).1.nodes+(qBM n st d many vs).1.left.length≤st.nodes+st.left.length) ∧
  (∀ st d many ks vs,(qBL n st d many ks vs).1.bad=false→st.bad=false∧(qBL n st d many ks vs).1.nodes+(qBL n st d many ks vs).1.left.length≤st.nodes+st.left.length)
 | 0=>⟨fun st d h=>by simp [kM] at h,fun st d many vs h=>by simp [qBM] at h,fun st d many ks vs h=>by simp [qBL] at h⟩
 | n+1=>by
  obtain ⟨ih1,ih2,ih3⟩:=zSE n
  refine ⟨fun st d => ?_,fun st d many vs => ?_,fun st d many ks vs => ?_⟩
  ·have he:=zAF st d
   have hen:(zY st d).nodes=st.nodes+1:=rfl
   have heb:(zY st d).bad=st.bad:=rfl
   have ht:kO (zY st d).left=(zY st d).left:=qAT _
   simp only [kM]
   split
   ·rename_i h
    have h1:=yE h
    have h2:=qLM [93] (wM (zY st d) 1)
    have h5:=qXV [93] (wM (zY st d) 1)
    have h6:=zLA [93] (wM (zY st d) 1)
    simp only [wM,List.length_drop,List.length_cons,List.length_nil] at h1 h2 h5 h6
    split
    ·simp only [wM]; intro hb; exact ⟨by rw [← heb,← h6]; exact hb,by omega⟩
    have h3:=ih2 (tk [93] (wM (zY st d) 1)).2 (d+1) 1 []
    simp only [wM] at h3 ⊢
    intro hb
    obtain ⟨h7,h8⟩:=h3 hb
    exact ⟨by rw [← heb,← h6]; exact h7,by omega⟩
   split
   ·rename_i h
    have h1:=yE h
    have h2:=qLM [125] (wM (zY st d) 1)
    have h5:=qXV [125] (wM (zY st d) 1)
    have h6:=zLA [125] (wM (zY st d) 1)
    simp only [wM,List.length_drop,List.length_cons,List.length_nil] at h1 h2 h5 h6
    split
    ·simp only [wM]; intro hb; exact ⟨by rw [← heb,← h6]; exact hb,by omega⟩
    have h3:=ih3 (tk [125] (wM (zY st d) 1)).2 (d+1) 1 [] []
    simp only [wM] at h3 ⊢
    intro hb
    obtain ⟨h7,h8⟩:=h3 hb
    exact ⟨by rw [← heb,← h6]; exact h7,by omega⟩
   have h1:=zGG (zY st d) ht
   have h2:=zDY (zY st d)
   intro hb
   have:=h1.2 hb
   exact ⟨heb ▸ zOV _ hb,by omega⟩
  ·simp only [qBM]
   split
   ·rename_i hb; intro h; simp only at h; rw [h] at hb; cases hb
   rename_i hb
   have hb':st.bad=false:=by simpa using hb
   have h1:=ih1 st d
   have h2:=qVA 93 many (kM n st d).1
   have h3:=qSE 93 many (kM n st d).1
   have h4:=zEQ 93 many (kM n st d).1
   split
   ·simp only; intro h; have:=h1 (h4 h); exact ⟨hb',by omega⟩
   intro h
   obtain ⟨h5,h6⟩:=ih2 (uO 93 many (kM n st d).1).2 d (many+1) (vs++[(kM n st d).2]) h
   have:=h1 (h4 h5); exact ⟨hb',by omega⟩
  simp only [qBL]
  split
  ·rename_i hb; intro h; simp only at h; rw [h] at hb; cases hb
  rename_i hb
  have hb':st.bad=false:=by simpa using hb
  have h1:=qKH st
  have h1':=qIN st
  have h2:=zAQ (qY st).1
  have h2':=zAP (qY st).1
  have h3:=ih1 (yL (qY st).1) d
  generalize hA:(if (yL (qY st).1).bad=true then (yL (qY st).1,ks,vs) else ((kM n (yL (qY st).1) d).1,xE ks vs (qY st).2 (kM n (yL (qY st).1) d).2))=A
  have h4:A.1.bad=false→A.1.nodes+A.1.left.length≤st.nodes+st.left.length:=by
   rw [← hA]; split
   ·rename_i h; intro h'; simp only at h'; rw [h] at h'; cases h'
   intro h'; have:=(h3 h').2; simp only; omega
  have h5:=qVA 125 many A.1
  have h6:=qSE 125 many A.1
  have h7:=zEQ 125 many A.1
  split
  ·simp only; intro h; have:=h4 (h7 h); exact ⟨hb',by omega⟩
  intro h
  obtain ⟨h8,h9⟩:=ih3 (uO 125 many A.1).2 d (many+1) A.2.1 A.2.2 h
  have:=h4 (h7 h8); exact ⟨hb',by omega⟩
def zUA (n:Nat) (st:RS) (d:Nat):RS × List Val:=if (tk [93] st).1=true then ((tk [93] st).2,[]) else qBM n (tk [93] st).2 d 1 []
theorem qZN (n:Nat) (st:RS) (d many:Nat) (vs:List Val):qBM (n+1) st d many vs=if st.bad=true then (st,vs) else if (uO 93 many (kM n st d).1).1=true then ((uO 93 many (kM n st d).1).2,vs++[(kM n st d).2]) else qBM n (uO 93 many (kM n st d).1).2 d (many+1) (vs++[(kM n st d).2]):=by
 simp only [qBM]
def zJE (ks:List (List UInt8)) (s:List UInt8):Int:=if s∈ks then (ks.idxOf s:Int) else -1
theorem zQX (l:List (List UInt8)) (s:List UInt8):AX Tryz.prog G 137 [.ms 3,.p (.str s)] [(3,.row 9 1 (l.map PD.str))] (.p (.int .i64 (zJE l s))) [3] [(3,.row 9 1 (l.map PD.str))]:=by
 refine AX.introU tok 900 Tryz.func137 (by kernel_rfl) rfl rfl ?_
 simp only [Tryz.f137,qI,List.map_cons,List.map_nil]
 refine rgn [] [[0,1]] ?_
 refine op1 tok ?_
 refine qA (AW.seq (rgn [] [[],[],[0,1,7,8]] ?_))
 iterate 3 refine op1 tok ?_
 refine qA (AW.block ?_)
 refine AW.intFactU (i:=7) rfl (by decide) ?_; intro hlen; simp at hlen
 refine AW.loop (α:=Nat) (fun k=>k≤l.length∧s ∉ l.take k) (fun k=>⟨qV 19 [(0,.ms 3),(1,.p (.str s)),(7,.p (.int .i64 l.length)),(8,.p (.int .i64 k))],[3],[(3,.row 9 1 (l.map PD.str))],900⟩) (fun k=>l.length-k) (0) ⟨by omega,by simp⟩ ⟨qB (by simp),rfl,by simp,by simp⟩ ?_
 rintro k ⟨hk,hno⟩
 refine rgn [] [[]] ?_
 refine op1 tok ?_
 refine qA (AW.seq (cnd ?_ ?_))
 ·intro h9
  try simp at h9
  obtain ⟨x,hx⟩:∃ x,l[k]?=some x:=⟨l[k],by simp [h9]⟩
  refine AW.skip (AW.seq (AW.block (rgn [] [[],[0,1,5,7,8]] ?_)))
  iterate 2 refine op1 tok ?_
  refine qA (rgn [.str x] [[],[],[],[],[],[0,1,5,7,8,16]] ?_)
  iterate 6 refine op1 tok ?_ (hv:=by first | with_reducible exact True.intro | (simp [hx]; done) | omega | simp | (simp +contextual; omega))
  refine qA (cnd ?_ ?_)
  ·intro h16
   try simp at h16
   have hR:zJE l s=k:=by
    have hm:s∈l:=by rw [h16]; exact List.mem_of_getElem? hx
    unfold zJE; rw [if_pos hm]
    have:l.idxOf s=k:=by
     obtain ⟨h1,h2⟩:=List.getElem?_eq_some_iff.1 hx
     have h3:=List.take_append_drop k l
     rw [← h3,List.idxOf_append,if_neg hno,List.drop_eq_getElem_cons h1,h2,h16,List.idxOf_cons_self]
     simp; omega
    rw [this]
   refine rgn [] [[],[4]] ?_
   iterate 2 refine op1 tok ?_
   refine qA ?_
   exact AW.ret (wD (k:=by simp [hR]))
  intro h16
  try simp at h16
  refine AW.skip (rgz [] [[],[0,1,7,8]] ?_)
  iterate 2 refine op1 tok ?_
  refine qA ?_
  exact ⟨k+1,⟨by omega,by rw [List.take_add_one,hx]; simp; exact ⟨hno,h16⟩⟩,by omega,qB (by simp),rfl,by simp,by simp⟩
 intro h9
 try simp at h9
 have hR:zJE l s = -1:=by rw [List.take_of_length_le h9] at hno; unfold zJE; rw [if_neg hno]
 refine AW.exit ?_
 simp
 refine rgn [] [[]] ?_
 refine op1 tok ?_
 refine qA ?_
 exact AW.ret (wD (k:=by simp [hR]))
def zQM (n:Nat) (st:RS) (d:Nat):RS × List (List UInt8) × List Val:=if (tk [125] st).1=true then ((tk [125] st).2,[],[]) else qBL n (tk [125] st).2 d 1 [] []
theorem qVJ {ks:List (List UInt8)} {vs:List Val} (h:ks.length=vs.length) (key:List UInt8) (v:Val):(xE ks vs key v).1.length=(xE ks vs key v).2.length∧vs.length≤(xE ks vs key v).2.length∧(xE ks vs key v).2.length≤vs.length+1:=by
 unfold xE; split
 ·simp [h]
 simp [h]
end Go.Proofs.YtdojfdaglbphlaaGreatDoor
namespace Go.Proofs.YtdojfdaglbphlaaGreatDoor.Sy
open Go
mutual
def PD.flat:PD→Bool
 | .bool _=>true
 | .int _ _=>true
 | .str _=>true
 | .nilp=>true
 | .nilf=>true
 | .noerr=>true
 | .err=>true
 | .fn _=>true
 | .agg cs=>PD.flatL cs
 | .tup cs=>PD.flatL cs
 | .sl _ _=>false
 | .clo _ _=>false
 | .ref _=>false
def PD.flatL:List PD→Bool
 | []=>true
 | d::ds=>PD.flat d && PD.flatL ds
end
theorem qKU:∀ {l:List PD},PD.flatL l=true→∀ {i:Nat} {d:PD},l[i]?=some d→d.flat=true
 | [],_,i,d,h=>by simp at h
 | e::l,h,i,d,hd=>by
  simp only [PD.flatL,Bool.and_eq_true] at h
  cases i with
  | zero=>simp at hd; subst hd; exact h.1
  | succ i=>simp at hd; exact qKU h.2 hd
theorem Rd.flat {M M':zG} {u:Value} {d:PD} (r:Rd M u d):d.flat=true→Rd M' u d:=by
 induction r with
 | bool b=>exact fun _ => .bool b
 | int h1 h2=>exact fun _ => .int h1 h2
 | str h1 h2=>exact fun _ => .str h1 h2
 | @agg arr cs h1 h2 h3 ih =>
  intro h
  simp only [PD.flat] at h
  exact .agg h1 h2 fun i u d hu hd=>ih i u d hu hd (qKU h hd)
 | @tup arr cs h1 h2 ih =>
  intro h
  simp only [PD.flat] at h
  exact .tup h1 fun i u d hu hd=>ih i u d hu hd (qKU h hd)
 | sl=>intro h; simp only [PD.flat] at h; cases h
 | fn f=>exact fun _ => .fn f
 | clo=>intro h; simp only [PD.flat] at h; cases h
 | ref=>intro h; simp only [PD.flat] at h; cases h
 | nilp=>exact fun _ => .nilp
 | nilf=>exact fun _ => .nilf
 | noerr=>exact fun _ => .noerr
 | err=>exact fun _ => .err
section
variable {P:Program} {T:Tab} {G:qR} {Q:Exit→St→Prop} {st st':St}
theorem Rel.freezeAll {c:Ctx} {μ:Mu} {tmps:Array Value} {w:World}:∀ (ids:List Nat) {M:zG} {st:St},Rel c M μ st tmps w→∃ M',Rel c M' μ (freezeAll st ids) tmps w
 | [],M,_,r=>⟨M,r⟩
 | i::l,M,st,r=>by
  obtain ⟨M1,r1⟩:=r.freeze i
  exact Rel.freezeAll l r1
theorem qHE (ids : List Nat) {o : Oper} {x : Operand} {args : Array Operand} {tys : Array TypeId} {f : FuncId} {asl : List PD} {r : PD} {p : Prop} (ho : o.op = .call { callee := .value x, args := args, argTypes := tys })
  (hf:(freezeAll st ids).arg G x=(p,.p (.fn f))) (hp:p) (hc:AFn P G f asl r) (hq:qGD (args.toList.map fun y=>((freezeAll st ids).arg G y).1)) (hfit:V.fitsL [] (args.toList.map fun y=>((freezeAll st ids).arg G y).2) asl) (hfl:r.flat=true):zH P G o st (.p r) st:=by
 intro c M μ tmps w hg rel0
 obtain ⟨M1,rel⟩:=rel0.freezeAll ids
 have h1:=(qF hg rel hf hp).p_inv
 generalize hu:Act.eval ⟨tmps,[]⟩ x=u at h1
 cases h1
 have hsize:args.size=asl.length:=by
  have:=V.fitsL_len hfit
  simpa using this
 have e:(execOp (Act.eval ⟨tmps,[]⟩) o).run P w = .ok (.enter f (args.map (Act.eval ⟨tmps,[]⟩))) w:=by
  simp [execOp,ho,resolve,Deferred.ofValue,hu,invoke,jU hc.1]
 rw [e]
 have hrd:∀ (i:Nat) u d,(args.map (Act.eval ⟨tmps,[]⟩))[i]?=some u→asl[i]?=some d→Rd M1 u d:=by
  intro i u d hu hd
  rw [Array.getElem?_map] at hu
  obtain ⟨y,hy,rfl⟩:=Option.map_eq_some_iff.1 hu
  have hyl:args.toList[i]?=some y:=by simpa using hy
  have h2:(args.toList.map fun y=>((freezeAll st ids).arg G y).2)[i]?=some ((freezeAll st ids).arg G y).2:=by rw [List.getElem?_map,hyl]; rfl
  have hv:=qF (x:=y) hg rel rfl (uZ hq _ (List.mem_map.2 ⟨y,List.mem_of_getElem? hyl,rfl⟩))
  exact vI hv (V.fitsL_get hfit h2 hd)
 refine (hc.2 M1 w _ (hg.go rel) rel.mem (by simp [hsize]) hrd).mono ?_
 rintro e w' ⟨v,M',rfl,hv,hmem,hM,hold,hbel⟩
 exact ⟨v,rfl,M,μ,rel0.same (Grows.of_below hbel),.p (hv.flat hfl)⟩
end
section
variable {P:Program} {T:Tab} {G:qR}
theorem AX.ren {f:FuncId} {xs:List V} {H:List (Nat × Box)} {r:V} {ps:List Nat} {H':List (Nat × Box)} (i j:Nat) (h:AX P G f xs H r ps H') (hf:(⟨[r],ps,H',0⟩:St).fresh j=true):AX P G f xs H (r.ren i j) (ps.filter (· != i)) (qQZ i j H'):=by
 refine ⟨h.1,fun M μ w vs hg rel=>(h.2 M μ w vs hg rel).mono ?_⟩
 rintro e w' ⟨v,M',μ',rfl,r'⟩
 have:=r'.ren (i:=i) hf
 exact ⟨v,M',_,rfl,by simpa only [St.ren,V.renL] using this⟩
end
section
variable {P:Program} {T:Tab} {G:qR} {Q:Exit→St→Prop} {l:List Oper} {m:Nat} {tss:List (List Nat)} {sms:List Sm}
inductive DRun (P:Program) (G:qR) (st0:St):List Oper→List (List Nat)→St→List Sm→St→Prop
 | nil {tss:List (List Nat)} {st:St}:(st.H.map (·.1)).Nodup→DRun P G st0 [] tss st [] st
 | one {o : Oper} {rest : List Oper} {ts : List Nat} {tss : List (List Nat)} {st st2 : St} {s : Sm} {zs : List Sm} : o.guard = none → (st.H.map (·.1)).Nodup → Facts st0 s → (∀ p ∈ s.H, p ∈ st.H) →
   (∀ c M μ st' tmps w R K,vM G c→Rel c M μ st' tmps w→kY st'.tmps (yJ st.tmps ts)→(∀ id bx,(id,bx)∈s.H→(id,bx)∈st'.H)→(∀ n∈s.new,({ st' with H:=zS (s.H.map (·.1)) st'.H }:St).fresh n=true) →
    (∀ u w' M' μ' H2,Rel c M' μ' { st' with H:=H2 } tmps w'→RV M' μ' u s.x→(∀ p,p∈H2↔p∈s.H'∨(p∈st'.H∧p.1 ∉ s.H.map (·.1)))→K (Act.put ⟨tmps,[]⟩ o.dst u) w')→o.wp P ⟨tmps,[]⟩ w K R) →
   DRun P G st0 rest tss (st.after o.dst s) zs st2→DRun P G st0 (o::rest) (ts::tss) st (s::zs) st2
theorem DRun.len {st0:St} {rest:List Oper} {ts:List (List Nat)} {st st2:St} {zs:List Sm} (h:DRun P G st0 rest ts st zs st2):zs.length=rest.length:=by
 induction h with
 | nil=>rfl
 | one _ _ _ _ _ _ ih=>simp [ih]
theorem DRun.told (hchk : wL l m tss = true) (hconf : uV l m (sms.map Sm.sum) = true) {st0 : St} {rest : List Oper} {ts : List (List Nat)} {st st2 : St} {zs : List Sm} (h : DRun P G st0 rest ts st zs st2) : ∀ k : Nat,
  rest=(l.take m).drop k→ts=tss.drop k→zs=sms.drop k→k≤m→sms.length=m→st.pins=st0.pins→st.base=st0.base→DoneD l m sms st0 (fun j=>decide (j<k)) st.tmps st.H →
  (∀ i,k≤i→i<m→Told P G l m sms st0 i)∧st2.pins=st0.pins∧st2.base=st0.base∧DoneD l m sms st0 (fun j=>decide (j<m)) st2.tmps st2.H∧(st2.H.map (·.1)).Nodup:=by
 induction h with
 | @nil ts st hnd =>
  intro k hr _ hz hk hxl hp hb D
  have hkm:k=m:=by
   have h3:(List.drop k (List.take m l)).length=0:=by rw [← hr]; rfl
   have:=qDL hchk
   simp at h3
   omega
  subst hkm
  exact ⟨fun i h1 h2=>by omega,hp,hb,D,hnd⟩
 | @one o rest t1 tss1 st st2 s zs hgd hnd F hsub hgo _ ih =>
  intro k hr hts hz hk hxl hp hb D
  have hkm:k<m:=by
   have h3:(List.drop k (List.take m l)).length=rest.length+1:=by rw [← hr]; rfl
   simp at h3
   omega
  obtain ⟨o',ho',htk,hsep⟩:=uA hchk hkm
  have hoo:o=o':=by
   have h3:(List.drop k (List.take m l))[0]?=some o:=by rw [← hr]; rfl
   rw [List.getElem?_drop,List.getElem?_take,Nat.add_zero,if_pos hkm,ho'] at h3
   cases h3; rfl
  subst hoo
  have hrest:rest=(l.take m).drop (k+1):=by
   have:=congrArg (List.drop 1) hr
   simpa [List.drop_drop,Nat.add_comm] using this
  have ht1:t1=o.looksAt l.toArray:=by
   have h3:(List.drop k tss)[0]?=some t1:=by rw [← hts]; rfl
   rw [List.getElem?_drop,Nat.add_zero,htk] at h3
   cases h3; rfl
  have hts1:tss1=tss.drop (k+1):=by
   have:=congrArg (List.drop 1) hts
   simpa [List.drop_drop,Nat.add_comm] using this
  have hdk:kD l k=o.dst:=by simp [kD,ho']
  have hxk:sms[k]?=some s:=by
   have h3:(List.drop k sms)[0]?=some s:=by rw [← hz]; rfl
   rw [List.getElem?_drop,Nat.add_zero] at h3; exact h3
  have hz':zs=sms.drop (k+1):=by
   have:=congrArg (List.drop 1) hz
   simpa [List.drop_drop,Nat.add_comm] using this
  have D':DoneD l m sms st0 (fun j=>decide (j<k+1)) (st.after o.dst s).tmps (st.after o.dst s).H:=by
   have:=D.go hchk hconf (DC.below hchk k) (L':=fun j=>decide (j<k+1)) hkm hdk hxk (by simp) F (fun j=>by
    by_cases h1:j<k
    ·simp [h1,show j<k+1 by omega]
    by_cases h2:j=k
    ·simp [h2]
    simp [h1,h2,show ¬ j<k+1 by omega]) hsub hnd (H2:=s.H'++zS (s.H.map (·.1)) st.H) (fun p=>by rw [List.mem_append,kW])
   have e1:(st.after o.dst s).tmps=qRA st.tmps o.dst s.x:=by cases hq:o.dst <;> rfl
   rw [e1]; exact this
  have e2:(st.after o.dst s).pins=st.pins:=by cases hq:o.dst <;> rfl
  have e3:(st.after o.dst s).base=st.base:=by cases hq:o.dst <;> rfl
  obtain ⟨h1,h2,h3⟩:=ih (k+1) hrest hts1 hz' hkm hxl (e2.trans hp) (e3.trans hb) D'
  refine ⟨fun i hi1 hi2 => ?_,h2,h3⟩
  rcases Nat.eq_or_lt_of_le hi1 with e | e
  ·subst e
   subst ht1
   exact ⟨o,s,st.tmps,st.H,ho',hxk,D,F,hsub,qMB ho' hgd hgo⟩
  exact h1 i e hi2
theorem AW.runDraw1 (hmix : P.follows .mixedOrders = true) (m : Nat) (tss : List (List Nat)) {id : Nat} {st st1 : St} {sms : List Sm} (hchk : wL l m tss = true)
  (h1:DRun P G st (l.take m) tss st sms st1) (hconf:uV l m (sms.map Sm.sum)=true) (hlate:zI P G l.toArray Q (l.drop m) st1) :
  AW P G (.region id l.toArray true) Q st:=by
 intro c M μ tmps w hg r
 refine wp_region_any hmix ?_
 have hml:=qDL hchk
 have hxl:sms.length=m:=by
  rw [h1.len]; simp; omega
 obtain ⟨hgo,hp2,_,D2,hnd2⟩:=h1.told hchk hconf 0 (by simp) (by simp) (by simp) (Nat.zero_le _) hxl rfl rfl (DoneD.put0 st)
 have hsize:l.toArray.size=l.length:=by simp
 refine qPS hchk hconf st (fun i hi=>hgo i (Nat.zero_le _) hi) st1 hp2 D2 hnd2 hlate hg _ _ _ M μ st.tmps st.H tmps _ rfl ?_ (by simp) (fun j _ hj=>by simp [Array.getD]) (fun j o _ h=>by simp [Array.getD] at h) ?_ (r.same ⟨rfl,rfl,rfl,Nat.le_refl _,fun _ _=>rfl⟩)
 ·rw [hsize]
  exact Nat.le_trans (List.length_filter_le _ _) (by simp)
 have:(fun j=>(Array.replicate l.toArray.size false).getD j false)=fun j=>decide (j<0):=by
  funext j; simp [Array.getD]
 rw [this]; exact DoneD.put0 st
def yA (P:Program) (G:qR) (st0:St) (l:List Oper) (tss:List (List Nat)) (st:St) (acc:qIC) (K:qIC→St→Prop):Prop:=∃ sms st1,DRun P G st0 l tss st sms st1∧K (acc++sms.map Sm.sum) st1
variable {K:qIC→St→Prop} {st st' st0:St} {rest:List Oper} {ts:List Nat} {orc orc':List PD} {acc:qIC} {o:Oper} {sm:zRS} {v:Know→Prop}
theorem yA.nil (hn:ndB st.H=true) (k:K acc st):yA P G st0 [] tss st acc K:=⟨_,_,.nil (yM hn),by simpa using k⟩
theorem yA.one (hT : TOK P T) (h : ∀ C, qMD C T G st0 ts o st orc = some (v C, st', sm, orc')) (hv : v (kn P G)) (hgd : o.guard = none) (hn : ndB st.H = true) (k : yA P G st0 rest tss st' (acc ++ [sm]) K) :
  yA P G st0 (o::rest) (ts::tss) st acc K:=by
 have h1:=h (kn P G)
 unfold qMD at h1
 split at h1
 ·rename_i v1 s orc1 h2
  simp only [Option.some.injEq,Prod.mk.injEq] at h1
  obtain ⟨h3,rfl,rfl,rfl⟩:=h1
  obtain ⟨sms,st1,e,hk⟩:=k
  have S:=qEH hT (yM hn) h2 (h3 ▸ hv)
  exact ⟨s::sms,st1,.one hgd (yM hn) ⟨S.q,S.good,S.ps,S.new⟩ (fun p hp=>qGK st _ p (S.H p hp)) S.goes e,by simpa using hk⟩
 cases h1
theorem r1 (hT : TOK P T) (k : yA P G st0 rest tss st' (acc ++ [sm]) K) (h : ∀ C, qMD C T G st0 ts o st orc = some (v C, st', sm, orc') := by intro C; conv => lhs; simp) (hv : v (kn P G) := by first | with_reducible exact True.intro | omega | simp | (simp +contextual; omega)) (hgd : o.guard = none := by rfl) (hn : ndB st.H = true := by kernel_rfl) :
  yA P G st0 (o::rest) (ts::tss) st acc K:=yA.one hT h hv hgd hn k
theorem yA.call {x : Operand} {args : Array Operand} {tys : Array TypeId} {f : FuncId} {xs : List V} {H : List (Nat × Box)} {r : V} {ps : List Nat} {H' : List (Nat × Box)} (new : List Nat) (hc : AX P G f xs H r ps H') (ho : o.op = .call { callee := .value x, args := args, argTypes := tys }) (hgd : o.guard = none)
  (hcx:CX G ⟨yJ st.tmps ts,H.map (·.1),H,st.base⟩ x args.toList f xs H r ps H') (hrest:(St.rest ⟨yJ st.tmps ts,H.map (·.1),H,st.base⟩ H ps).H=[]) (hpins:∀ i∈ps,i∈(St.rest ⟨yJ st.tmps ts,H.map (·.1),H,st.base⟩ H ps).pins)
  (hsub:∀ p∈H,p∈st.H) (hnew:∀ n∈new,st0.fresh n=true) (hky:∀ i,qO i H'=true→i∈H.map (·.1)∨i∈new) (hgood:∀ i∈V.ids r++vY H',i∈ps∨i∈new) (hn:ndB st.H=true) (hst:st.after o.dst ⟨r,H,H',ps,new,false⟩=st')
  (k:yA P G st0 rest tss st' (acc++[(Sm.mk r H H' ps new false).sum]) K):yA P G st0 (o::rest) (ts::tss) st acc K:=by
 subst hst
 obtain ⟨sms,st1,e,hk⟩:=k
 have hsn:(H.map (·.1)).Nodup:=hcx.2.2.2.2.1
 have y:=yS ho hc hcx
 refine ⟨⟨r,H,H',ps,new,false⟩::sms,st1,.one hgd (yM hn) ⟨fun h=>absurd h (by simp),hgood,hky,hnew⟩ hsub (fun c M μ st' tmps w R K hG rel hle hbox hnw k => ?_) e,by simpa using hk⟩
 exact qDG (s:=⟨r,H,H',ps,new,false⟩) (small:=⟨yJ st.tmps ts,H.map (·.1),H,st.base⟩) (s':=({ St.rest (⟨yJ st.tmps ts,H.map (·.1),H,st.base⟩:St) H ps with H:=H'++(St.rest (⟨yJ st.tmps ts,H.map (·.1),H,st.base⟩:St) H ps).H }:St)) rfl hsn (by show H'=H'++_; rw [hrest,List.append_nil]) (fun i hi=>hpins i hi) hky hgood y c M μ st' tmps w R K hG rel hle hbox hnw k
theorem AW.drawR (hmix : P.follows .mixedOrders = true) (m : Nat) (tss : List (List Nat)) (orc2 : List PD) {id : Nat} {l : List Oper} (hchk : wL l m tss = true)
  (h:yA P G st (l.take m) tss st [] fun qUV st1=>uV l m qUV=true∧qC P G l.toArray Q (l.drop m) st1 orc2):AW P G (.region id l.toArray true) Q st:=by
 obtain ⟨sms,st1,e,hc,hl⟩:=h
 exact AW.runDraw1 hmix m tss hchk e (by simpa using hc) hl
theorem AW.seqDrawR (hmix : P.follows .mixedOrders = true) (m : Nat) (tss : List (List Nat)) (orc2 : List PD) {id : Nat} {l : List Oper} {b : Code} (hchk : wL l m tss = true)
  (h:yA P G st (l.take m) tss st [] fun qUV st1=>uV l m qUV=true∧qC P G l.toArray (andThen (AW P G b Q) Q) (l.drop m) st1 orc2):AW P G (.seq (.region id l.toArray true) b) Q st :=
 AW.seq (AW.drawR hmix m tss orc2 hchk h)
end
set_option linter.unusedSimpArgs false
set_option linter.unusedVariables false
section
variable {P:Program} {T:Tab} {G:qR} {l:List Oper} {tss:List (List Nat)} {K:qIC→St→Prop} {st st' st0:St} {rest:List Oper} {ts:List Nat} {acc:qIC} {o:Oper}
theorem yA.callFlat (Hs : List (Nat × Box)) {x : Operand} {args : Array Operand} {tys : Array TypeId} {f : FuncId} {asl : List PD} {r : PD} {p : Prop} (hc : AFn P G f asl r) (ho : o.op = .call { callee := .value x, args := args, argTypes := tys }) (hgd : o.guard = none)
  (hf:(freezeAll ⟨yJ st.tmps ts,Hs.map (·.1),Hs,st.base⟩ (Hs.map (·.1))).arg G x=(p,.p (.fn f))) (hp:p) (hq:qGD (args.toList.map fun y=>((freezeAll ⟨yJ st.tmps ts,Hs.map (·.1),Hs,st.base⟩ (Hs.map (·.1))).arg G y).1))
  (hfit:V.fitsL [] (args.toList.map fun y=>((freezeAll ⟨yJ st.tmps ts,Hs.map (·.1),Hs,st.base⟩ (Hs.map (·.1))).arg G y).2) asl) (hfl:r.flat=true) (hsub:∀ p∈Hs,p∈st.H) (hids:∀ i∈vY Hs,i∈Hs.map (·.1)) (hn:ndB st.H=true) (hns:ndB Hs=true)
  (hst:st.after o.dst ⟨.p r,Hs,Hs,Hs.map (·.1),[],true⟩=st') (k:yA P G st0 rest tss st' (acc++[(Sm.mk (.p r) Hs Hs (Hs.map (·.1)) [] true).sum]) K):yA P G st0 (o::rest) (ts::tss) st acc K:=by
 subst hst
 obtain ⟨sms,st1,e,hk⟩:=k
 have y:=qHE (P:=P) (st:=⟨yJ st.tmps ts,Hs.map (·.1),Hs,st.base⟩) (Hs.map (·.1)) ho hf hp hc hq hfit hfl
 have hgood:∀ i∈V.ids (V.p r)++vY Hs,i∈Hs.map (·.1)∨i∈([]:List Nat):=fun i hi => .inl (hids i (by simpa [V.ids] using hi))
 have hky:∀ i,qO i Hs=true→i∈Hs.map (·.1)∨i∈([]:List Nat):=fun i hi=>by
  obtain ⟨b,hb⟩:=qJ.1 hi
  exact .inl (List.mem_map.2 ⟨_,hb,rfl⟩)
 refine ⟨⟨.p r,Hs,Hs,Hs.map (·.1),[],true⟩::sms,st1,.one hgd (yM hn) ⟨fun _=>rfl,hgood,hky,by simp⟩ hsub (fun c M μ st' tmps w R K hG rel hle hbox hnw k => ?_) e,by simpa using hk⟩
 exact qDG (s:=⟨.p r,Hs,Hs,Hs.map (·.1),[],true⟩) (small:=⟨yJ st.tmps ts,Hs.map (·.1),Hs,st.base⟩) (s':=⟨yJ st.tmps ts,Hs.map (·.1),Hs,st.base⟩) rfl (yM hns) rfl (fun i hi=>hi) hky hgood y c M μ st' tmps w R K hG rel hle hbox hnw k
end
end Go.Proofs.YtdojfdaglbphlaaGreatDoor.Sy
namespace Go.Proofs.YtdojfdaglbphlaaGreatDoor
open Sy Go
set_option maxRecDepth 100000
set_option maxHeartbeats 4000000
set_option linter.unusedSimpArgs false
set_option linter.unusedVariables false
variable {G:qR}
theorem kS (a b:Val) (top deep k:Int):AFn Tryz.prog G 77 [.agg (prC a b top deep),.int .i64 k] (.bool (decide (a.kind=k) && decide (b.kind=k))):=by
 refine AFn.introU tok Tryz.func77 (by kernel_rfl) rfl rfl ?_
 simp only [Tryz.f77,qI,List.map_cons,List.map_nil]
 refine rgn [] [[],[1,2]] ?_
 iterate 2 refine op1 tok ?_
 refine qA (rgn [] [[],[],[],[],[1,2,9],[],[],[],[1,10,13],[],[],[16],[4]] ?_)
 iterate 6 refine op1 tok ?_
 iterate 5 refine op2 tok ?_
 iterate 2 refine op1 tok ?_
 exact qA (AW.ret qG)
theorem zKS (code m:Int):AFn Tryz.prog G 142 [.int .i64 code,.int .u64 m] ((wQ code m).enc):=by
 refine AFn.introU tok Tryz.func142 (by kernel_rfl) rfl rfl ?_
 simp only [Tryz.f142,qI,List.map_cons,List.map_nil]
 have e:wQ code m = .mk 8 m dc0 [] [] [] code:=rfl
 rw [e]
 refine rgn [] [[]] ?_
 refine op1 tok ?_
 refine qA (rgn [] [[],[],[4,7],[4]] ?_)
 iterate 4 refine op1 tok ?_
 refine qA ?_
 exact AW.ret (qG (k:=by simp [dc0]))
theorem qFI (a b:Val) (top deep code:Int):AFn Tryz.prog G 82 [.agg (prC a b top deep),.int .i64 code] ((wQ code top).enc):=by
 refine AFn.introU tok Tryz.func82 (by kernel_rfl) rfl rfl ?_
 simp only [Tryz.f82,qI,List.map_cons,List.map_nil]
 have hf:=zKS (G:=G) code top
 simp only [Val.enc_def] at hf
 refine rgn [] [[],[1,2,4]] ?_
 iterate 2 refine op1 tok ?_
 refine qA (rgn [.nilp,(wQ code top).enc] [[],[],[],[4,8],[4]] ?_)
 iterate 5 refine oq1 tok hf ?_
 exact qA (AW.ret qG)
theorem qXT (x:Bool) (m:Int):AFn Tryz.prog G 42 [.bool x,.int .u64 m] ((kG x m).enc):=by
 refine AFn.introU tok Tryz.func42 (by kernel_rfl) rfl rfl ?_
 simp only [Tryz.f42,qI,List.map_cons,List.map_nil]
 have e:kG x m = .mk (if x=true then 3 else 2) m dc0 [] [] [] 0:=rfl
 rw [e]
 refine rgn [] [[]] ?_
 refine op1 tok ?_
 refine qA (rgn [] [[],[],[],[0,4,5]] ?_)
 iterate 4 refine op1 tok ?_
 refine qA (AW.seq (rgn [] [[4,5,8]] ?_))
 refine op1 tok ?_
 refine qA (cnd ?_ ?_)
 ·intro h8
  try simp at h8
  rw [if_pos h8]
  refine rgz [] [[],[4,5]] ?_
  iterate 2 refine op1 tok ?_
  refine qA (rgn [] [[],[4]] ?_)
  iterate 2 refine op1 tok ?_
  refine qA ?_
  exact AW.ret (qG (k:=by simp [dc0]))
 intro h8
 try simp at h8
 rw [if_neg (by rw [h8]; simp)]
 refine AW.skip (rgn [] [[],[4]] ?_)
 iterate 2 refine op1 tok ?_
 refine qA ?_
 exact AW.ret (qG (k:=by simp [dc0]))
theorem zIO (v w:Val) (hv:qS v=true) (hw:qS w=true):AFn Tryz.prog G 87 [w.enc,.ref [.int .i64 v.kind,.int .u64 v.mask,.bool v.num.neg,.str v.num.digits,.int .i64 v.num.scale,.str v.text,.sl 1 (v.keys.map PD.str),.sl 9 (v.kids.map Val.enc),.int .i64 v.code]] (.bool (decide (vL v w=0))):=by
 refine AFn.introU tok Tryz.func87 (by kernel_rfl) rfl rfl ?_
 simp only [Tryz.f87,qI,List.map_cons,List.map_nil]
 have hc:=zFX (G:=G) v w hv hw
 simp only [Val.enc_def] at hc
 generalize vL v w=n at *
 refine rgn [] [[],[1,2]] ?_
 iterate 2 refine op1 tok ?_
 refine qA (rgn [.nilp,.int .i64 n] [[],[],[6],[],[3]] ?_)
 iterate 5 refine oq1 tok hc ?_
 exact qA (AW.ret qG)
theorem zIP (a b v:Val) (top deep:Int) (hv:qS v=true) (hb:∀ w∈b.kids,qS w=true):AFn Tryz.prog G 85 [v.enc,.ref (prC a b top deep)] (.bool (b.kids.any fun w=>decide (vL v w=0))):=by
 refine AFn.introU tok Tryz.func85 (by kernel_rfl) rfl rfl ?_
 simp only [Tryz.f85,qI,List.map_cons,List.map_nil]
 have hc:=qRJ (G:=G) b.kids 87 [.int .i64 v.kind,.int .u64 v.mask,.bool v.num.neg,.str v.num.digits,.int .i64 v.num.scale,.str v.text,.sl 1 (v.keys.map PD.str),.sl 9 (v.kids.map Val.enc),.int .i64 v.code] (fun w=>decide (vL v w=0)) (fun w hw=>zIO v w hv (hb w hw))
 generalize (b.kids.any fun w=>decide (vL v w=0))=r at *
 refine rgn [] [[],[1,2]] ?_
 iterate 2 refine op1 tok ?_
 refine qA ?_
 refine AW.freezeV 2 (by conv=>lhs; simp) ?_
 refine rgn [.nilp,.bool r] [[],[],[],[6,7],[],[3]] ?_
 iterate 6 refine op1 tok ?_ (hv:=by first | with_reducible exact True.intro | (first | exact hc | (simp; done) | (simp at hc ⊢; exact hc); done) | omega | simp | (simp +contextual; omega))
 exact qA (AW.ret qG)
theorem zIN (a b:Val) (top deep:Int) (ha:qS a=true) (hb:qS b=true) (hka:a.kind=6) (hkb:b.kind=6):AFn Tryz.prog G 33 [.agg (prC a b top deep)] ((qES a b deep).enc):=by
 refine AFn.introU tok Tryz.func33 (by kernel_rfl) rfl rfl ?_
 simp only [Tryz.f33,qI,List.map_cons,List.map_nil]
 have hk:=kS (G:=G) a b top deep 6
 simp only [hka,hkb,decide_true,Bool.and_true] at hk
 have hsm:=wZ ha
 have hcl:=qUB (G:=G) a ha
 have hd:=zRF (G:=G) 85 (prC a b top deep) (fun v=>b.kids.any fun w=>decide (vL v w=0)) a.kids (fun v hv=>zIP a b v top deep (yG ha hv) (fun w hw=>yG hb hw)) (by omega)
 have e:qES a b deep = .mk a.kind deep a.num a.text a.keys (a.kids.filter fun v => !(b.kids.any fun w=>decide (vL v w=0))) a.code:=rfl
 rw [e]
 generalize (a.kids.filter fun v => !(b.kids.any fun w=>decide (vL v w=0)))=fs at *
 refine rgn [] [[],[1,2]] ?_
 iterate 2 refine op1 tok ?_
 refine qA (AW.seq (rgn [.nilp,.bool true] [[],[],[1,2,6]] ?_))
 iterate 3 refine op1 tok ?_ (hv:=by first | with_reducible exact True.intro | ((simp [hka,hkb] at hk ⊢; exact hk); done) | omega | simp | (simp +contextual; omega))
 refine qA (cnd ?_ ?_)
 ·intro h6
  try simp at h6
 intro h6
 try simp at h6
 refine AW.skip (rgn [] [[],[]] ?_)
 iterate 2 refine op1 tok ?_
 refine qZ ?_
 refine qC.stepK [1,2,11] (yS rfl hcl (by simp)) (by conv=>lhs; simp) rfl ?_
 refine qC.run [[],[1,2,3]] ?_
 iterate 2 refine op1 tok ?_
 refine qA (rgn [] [[],[],[],[1,2,3]] ?_)
 iterate 4 refine op1 tok ?_
 refine qA ?_
 refine AW.freezeV 1 (by conv=>lhs; simp) ?_
 refine AW.renE 912 930 (by simp) (by conv=>lhs; simp) ?_
 refine rgn [] [[],[],[]] ?_
 iterate 3 refine op1 tok ?_
 refine qZ ?_
 refine qC.stepK [2,3,18] (yS rfl hd (by simp)) (by conv=>lhs; simp) rfl ?_
 refine qC.run [[],[2,3]] ?_
 iterate 2 refine op1 tok ?_
 refine qA ?_
 refine AW.freezeE 930 (by conv=>lhs; simp) ?_
 refine AW.freezeE 909 (by conv=>lhs; simp) ?_
 refine rgn [] [[],[2]] ?_
 iterate 2 refine op1 tok ?_
 exact qA (AW.ret qG)
theorem qSR (a b:Val) (top deep:Int) (ha:qS a=true) (hb:qS b=true) (hla:a.keys.length=a.kids.length) (hlb:b.keys.length=b.kids.length):AFn Tryz.prog G 80 [.agg (prC a b top deep)] ((kV a b top).enc):=by
 refine AFn.introU tok Tryz.func80 (by kernel_rfl) rfl rfl ?_
 simp only [Tryz.f80,qI,List.map_cons,List.map_nil]
 have hsa:=wZ ha
 have hsb:=wZ hb
 have hcl:=qUB (G:=G) a ha
 have hcb:=zAY (G:=G) b hb
 simp only [Val.enc_def] at hcb
 have e:kV a b top = .mk a.kind top a.num a.text (wU b b.keys.length a.keys a.kids).1 (wU b b.keys.length a.keys a.kids).2 a.code:=rfl
 rw [e]
 refine rgn [] [[],[1,2]] ?_
 iterate 2 refine op1 tok ?_
 refine qA (rgn [] [[],[]] ?_)
 iterate 2 refine op1 tok ?_
 refine qZ ?_
 refine qC.stepK [1,2,10] (yS rfl hcl (by simp)) (by conv=>lhs; simp) rfl ?_
 refine qC.run [[],[1,2,3]] ?_
 iterate 2 refine op1 tok ?_
 refine qA ?_
 refine AW.renE 3 800 (by simp) (by conv=>lhs; simp) ?_
 refine AW.renE 909 3 (by simp) (by conv=>lhs; simp) ?_
 refine AW.renE 912 8 (by simp) (by conv=>lhs; simp) ?_
 refine rgn [] [[],[],[],[1,2,3]] ?_
 iterate 4 refine op1 tok ?_
 refine qA (rgn [.nilp,b.enc] [[],[],[],[],[2,3,4]] ?_)
 iterate 5 refine oq1 tok hcb ?_
 refine qA (AW.seq (rgn [] [[],[],[],[2,3,4,18,19,20]] ?_))
 iterate 4 refine op1 tok ?_
 refine qA (AW.block ?_)
 refine AW.loop (α:=Nat) (fun k=>k≤b.keys.length) (fun k=>⟨qV 58 [(2,.ptr 2 0),(3,.ptr 800 0),(4,.ptr 4 0),(18,.p (.sl 1 (b.keys.map PD.str))),(19,.p (.int .i64 b.keys.length)),(20,.p (.int .i64 k))],[],[(2,.vars 31 [.p (.int .i64 0),.p (.int .u64 0),.p (.bool false),.p (.str []),.p (.int .i64 0),.p (.str []),.nilsl,.nilsl,.p (.int .i64 0)]),(800,.vars 31 [.p (.int .i64 a.kind),.p (.int .u64 top),.p (.bool a.num.neg),.p (.str a.num.digits),.p (.int .i64 a.num.scale),.p (.str a.text),.ms 3,.ms 8,.p (.int .i64 a.code)]),(4,.vars 31 b.cells),(3,.row 9 1 ((wU b k a.keys a.kids).1.map PD.str)),(8,.row 31 9 ((wU b k a.keys a.kids).2.map Val.enc))],0⟩) (fun k=>b.keys.length-k) (0) (by omega) ⟨qB (by simp),rfl,by simp [wU],by simp⟩ ?_
 rintro k hk
 refine rgn [] [[]] ?_
 refine op1 tok ?_
 refine qA (AW.seq (cnd ?_ ?_))
 ·intro h21
  try simp at h21
  obtain ⟨key,hkey⟩:∃ x,b.keys[k]?=some x:=⟨b.keys[k],by simp [h21]⟩
  obtain ⟨v,hv⟩:∃ x,b.kids[k]?=some x:=⟨b.kids[k]'(by omega),List.getElem?_eq_getElem _⟩
  have hlk:=qOV b k hla
  have hst:wU b (k+1) a.keys a.kids=xE (wU b k a.keys a.kids).1 (wU b k a.keys a.kids).2 key v:=by
   simp only [wU,List.getD_eq_getElem?_getD,hkey,hv,Option.getD_some]
  generalize wU b k a.keys a.kids=M at *
  obtain ⟨ks,vs⟩:=M
  simp only at hlk hst
  have hput:xE ks vs key v=if key∈ks then (ks,vs.set (ks.idxOf key) v) else (ks++[key],vs++[v]):=rfl
  have hidx:zJE ks key=if key∈ks then (ks.idxOf key:Int) else -1:=rfl
  have hix:=zQX (G:=G) ks key
  refine AW.skip (AW.seq (AW.block (rgn [.str key] [[],[],[],[],[2,3,4,5,6,18,19,20]] ?_)))
  iterate 5 refine op1 tok ?_ (hv:=by first | with_reducible exact True.intro | (first | (simp [hkey]; done) | (simp [hkey]; omega); done) | omega | simp | (simp +contextual; omega))
  refine qA (AW.seq (rgn [] [[],[],[]] ?_))
  iterate 3 refine op1 tok ?_
  refine qZ ?_
  refine qC.stepK [2,3,4,5,6,18,19,20,28] (yS rfl hix (by simp)) (by conv=>lhs; simp) rfl ?_
  refine qC.run [[2,3,4,5,6,7,18,19,20]] ?_
  refine op1 tok ?_
  refine qA (rgn [] [[],[2,3,4,5,6,7,18,19,20,30]] ?_)
  iterate 2 refine op1 tok ?_
  refine qA (cnd ?_ ?_)
  ·intro h30
   try simp at h30
   have hm:key∈ks:=by false_or_by_contra; rename_i hm; rw [if_neg hm] at hidx; omega
   rw [if_pos hm] at hidx hput
   have hi:=List.idxOf_lt_length_iff.2 hm
   obtain ⟨o,ho⟩:∃ o,vs[ks.idxOf key]?=some o:=⟨vs[ks.idxOf key]'(by omega),by simp⟩
   have hio:ks.idxOf key<vs.length:=by omega
   rw [hidx]
   rw [hput] at hst
   refine AW.seqDrawS tok mixed 8 [[3],[31],[7],[4],[34],[5],[35,36],[37]] [v.enc] [o.enc,v.enc] (by kernel_rfl) ?_
   iterate 8 refine d1 ?_ (hv:=by first | with_reducible exact True.intro | (first | omega | (simp [hv]; done) | (simp [hv]; omega); done) | omega | simp | (simp +contextual; omega))
   refine DGo.nil (by kernel_rfl) ⟨by kernel_rfl, ?_⟩
   refine qC.run [[],[2,3,4,18,19,20]] ?_
   iterate 2 refine op1 tok ?_ (hv:=by first | with_reducible exact True.intro | (first | omega | (simp [ho]; done) | (simp [ho,Val.cells,V.fitsL]; done); done) | omega | simp | (simp +contextual; omega))
   refine qA ?_
   refine AW.exit ?_
   simp
   refine rgz [] [[],[2,3,4,18,19,20]] ?_
   iterate 2 refine op1 tok ?_
   refine qA ?_
   exact ⟨k+1,by omega,by omega,qB (by simp [hst]),rfl,by simp [hst],by simp [hst]⟩
  intro h30
  try simp at h30
  have hm:key ∉ ks:=by intro hm; rw [if_pos hm] at hidx; omega
  rw [if_neg hm] at hput
  rw [hput] at hst
  refine AW.skip ?_
  refine AW.drawS tok mixed 16 [[3],[40],[6],[42],[41,43],[3],[45],[4],[47],[5],[48,49],[50],[51],[46,52],[3],[54,44]] [.str key,v.enc,v.enc] [] (by kernel_rfl) ?_
  iterate 16 refine d1 ?_ (h:=by intro C; conv=>lhs; simp [Value.oneCell']) (hv:=by first | with_reducible exact True.intro | (first | omega | (simp [hv]; done) | (simp [hv]; omega) | (simp; omega); done) | omega | simp | (simp +contextual; omega))
  refine DGo.nil (by kernel_rfl) ⟨by kernel_rfl, ?_⟩
  refine qC.run [[],[2,3,4,18,19,20]] ?_
  iterate 2 refine op1 tok ?_ (h:=by intro C; conv=>lhs; simp [Value.oneCell'])
  refine qZ ?_
  refine qC.take 44 3 (by conv=>lhs; simp) ?_
  refine qC.take 53 8 (by conv=>lhs; simp) ?_
  refine qC.nil ?_
  refine rgz [] [[],[2,3,4,18,19,20]] ?_
  iterate 2 refine op1 tok ?_
  refine qA ?_
  exact ⟨k+1,by omega,by omega,qB (by simp [hst]),rfl,by simp [hst],by simp [hst]⟩
 intro h21
 try simp at h21
 obtain rfl:k=b.keys.length:=by omega
 refine AW.exit ?_
 simp
 refine AW.freezeE 3 (by conv=>lhs; simp) ?_
 refine AW.freezeE 8 (by conv=>lhs; simp) ?_
 refine rgn [] [[],[2]] ?_
 iterate 2 refine op1 tok ?_
 exact qA (AW.ret qG)
theorem vJ (code m:Int):AFn Tryz.prog G 47 [.int .i64 code,.int .u64 m] ((wQ code m).enc):=by
 refine AFn.introU tok Tryz.func47 (by kernel_rfl) rfl rfl ?_
 simp only [Tryz.f47,qI,List.map_cons,List.map_nil]
 have e:wQ code m = .mk 8 m dc0 [] [] [] code:=rfl
 rw [e]
 refine rgn [] [[]] ?_
 refine op1 tok ?_
 refine qA (rgn [] [[],[],[4,7],[4]] ?_)
 iterate 4 refine op1 tok ?_
 refine qA ?_
 exact AW.ret (qG (k:=by simp [dc0]))
def qIY (l:List Val) (m:Int):Val:=if 200<l.length then wQ 3 m else .mk 6 m dc0 [] [] l 0
theorem qTC (l:List Val) (m:Int):AFn Tryz.prog G 62 [.sl 9 (l.map Val.enc),.int .u64 m] ((qIY l m).enc):=by
 refine AFn.introU tok Tryz.func62 (by kernel_rfl) rfl rfl ?_
 simp only [Tryz.f62,qI,List.map_cons,List.map_nil]
 have hf:=vJ (G:=G) 3 m
 simp only [Val.enc_def] at hf
 unfold qIY
 refine rgn [] [[]] ?_
 refine op1 tok ?_
 refine qA (AW.seq (rgn [] [[],[],[0,1,4,7]] ?_))
 iterate 3 refine op1 tok ?_
 refine qA (cnd ?_ ?_)
 ·intro h7
  try simp at h7
  rw [if_pos (by omega)]
  refine rgn [.nilp,(wQ 3 m).enc] [[],[],[4]] ?_
  iterate 3 refine oq1 tok hf ?_
  exact qA (AW.ret qG)
 intro h7
 try simp at h7
 rw [if_neg (by omega)]
 refine AW.skip (rgn [] [[],[],[4,12],[4]] ?_)
 iterate 4 refine op1 tok ?_
 refine qA ?_
 exact AW.ret (qG (k:=by simp [dc0]))
theorem zKN (n : Nat) (st : RS) (d : Nat) : kM (n + 1) st d = if ([91] : List UInt8).isPrefixOf (zY st d).left = true then ((zUA n (wM (zY st d) 1) (d + 1)).1, .mk 6 0 dc0 [] [] (zUA n (wM (zY st d) 1) (d + 1)).2 0)
  else if ([123]:List UInt8).isPrefixOf (zY st d).left=true then ((zQM n (wM (zY st d) 1) (d+1)).1,.mk 7 0 dc0 [] (zQM n (wM (zY st d) 1) (d+1)).2.1 (zQM n (wM (zY st d) 1) (d+1)).2.2 0) else vK (zY st d):=by
 rw [kM]; rfl
attribute [local simp] wM
end Go.Proofs.YtdojfdaglbphlaaGreatDoor
namespace Go.Proofs.YtdojfdaglbphlaaGreatDoor
open Sy Go
set_option maxRecDepth 100000
set_option linter.unusedSimpArgs false
set_option linter.unusedVariables false
set_option maxHeartbeats 1000000
structure RQ where
 pos:Nat
 nodes:Nat
 bad:Bool
 deep:Bool
 big:Bool
 deriving DecidableEq
def blL (l:List UInt8):Nat:=(l.takeWhile qPL).length
def blQ (s:List UInt8) (q:RQ):RQ:={ q with pos:=q.pos+blL (s.drop q.pos) }
def nxQ (s:List UInt8) (q:RQ):UInt8:=s.getD q.pos 0
def wV (q:RQ) (k:Nat):RQ:={ q with pos:=q.pos+k }
def zP (s:List UInt8) (q:RQ):RQ × List UInt8 :=
 if (zN (s.drop q.pos)).2.2=3 then ({ q with pos:=q.pos+qFC (s.drop q.pos),big:=true },[])
 else ({ q with pos:=q.pos+(zN (s.drop q.pos)).2.1,bad:=Bool.or q.bad (decide ((zN (s.drop q.pos)).2.2≠0)) },(zN (s.drop q.pos)).1)
def zQN (l:List UInt8):Nat:=(l.takeWhile kH).length
def vT (s:List UInt8) (q:RQ):RQ × Val :=
 ({ q with pos:=q.pos+zQN (s.drop q.pos),big:=Bool.or q.big (decide ((wO ((s.drop q.pos).takeWhile kH)).2=3)),bad:=Bool.or q.bad (decide ((wO ((s.drop q.pos).takeWhile kH)).2≠3∧(wO ((s.drop q.pos).takeWhile kH)).2≠0)) },
  .mk 4 0 (if (wO ((s.drop q.pos).takeWhile kH)).2=3 then ⟨false,[48],0⟩ else (wO ((s.drop q.pos).takeWhile kH)).1) [] [] [] 0)
def qAE (s w:List UInt8) (q:RQ):Bool × RQ:=if (s.drop q.pos).take w.length=w then (true,wV q w.length) else (false,q)
def zV (s:List UInt8) (q:RQ) (d:Nat):RQ:=⟨(blQ s q).pos,q.nodes+1,q.bad,Bool.or q.deep (decide (12<d)),Bool.or q.big (decide (400<q.nodes+1))⟩
def qEE (c:UInt8):Bool:=decide (c=45) || qH c
def qDQ (s:List UInt8) (q:RQ):RQ × Val :=
 if (qAE s qAS q).1=true then ((qAE s qAS q).2,.mk 1 0 dc0 [] [] [] 0)
 else if (qAE s qAR q).1=true then ((qAE s qAR q).2,.mk 3 0 dc0 [] [] [] 0)
 else if (qAE s xR q).1=true then ((qAE s xR q).2,.mk 2 0 dc0 [] [] [] 0)
 else ({ q with bad:=true },yR)
def qJB (s:List UInt8) (q:RQ):RQ × List UInt8 :=
 let a:=zP s q
 let b:=blQ s a.1
 ({ b with pos:=b.pos+1,bad:=Bool.or b.bad (decide (nxQ s b≠58)) },a.2)
def qCL (s:List UInt8) (closes:UInt8) (many:Nat) (q:RQ):Bool × RQ :=
 let a:=blQ s { q with big:=Bool.or q.big (decide (200<many)) }
 if nxQ s a=closes then (true,wV a 1) else (false,{ a with pos:=a.pos+1,bad:=Bool.or a.bad (decide (nxQ s a≠44)) })
def qRD (obj:Bool) (ks:List (List UInt8)) (vs:List Val) (key:List UInt8) (v:Val):List (List UInt8) × List Val:=if obj=true then xE ks vs key v else (ks,vs++[v])
def kL (s:List UInt8) (obj:Bool) (q:RQ):RQ × List UInt8:=if obj=true then qJB s (blQ s q) else (blQ s q,[])
mutual
def kZ (s:List UInt8):Nat→RQ→Nat→RQ × Val
 | 0,q,_=>({ q with bad:=true },yR)
 | n+1,q,d =>
  if nxQ s (zV s q d)=34 then ((zP s (zV s q d)).1,.mk 5 0 dc0 (zP s (zV s q d)).2 [] [] 0)
  else if nxQ s (zV s q d)=91 then (let q1:=blQ s (wV (zV s q d) 1)
   let r:=if nxQ s q1=93 then (wV q1 1,[],[]) else kB s n q1 d false 93 0 [] []
   (r.1,.mk 6 0 dc0 [] r.2.1 r.2.2 0))
  else if nxQ s (zV s q d)=123 then (let q1:=blQ s (wV (zV s q d) 1)
   let r:=if nxQ s q1=125 then (wV q1 1,[],[]) else kB s n q1 d true 125 0 [] []
   (r.1,.mk 7 0 dc0 [] r.2.1 r.2.2 0))
  else if qEE (nxQ s (zV s q d))=true then vT s (zV s q d)
  else qDQ s (zV s q d)
def kB (s:List UInt8):Nat→RQ→Nat→Bool→UInt8→Nat→List (List UInt8)→List Val→RQ × List (List UInt8) × List Val
 | 0,q,_,_,_,_,ks,vs=>({ q with bad:=true },ks,vs)
 | n+1,q,d,obj,closes,many,ks,vs =>
  if q.bad=true then (q,ks,vs) else
  if (kL s obj q).1.bad=true then ((kL s obj q).1,ks,vs) else
  let a:=kZ s n (kL s obj q).1 (d+1)
  let b:=qCL s closes (many+1) a.1
  let m:=qRD obj ks vs (kL s obj q).2 a.2
  if b.1=true then (b.2,m) else kB s n b.2 d obj closes (many+1) m.1 m.2
end
def vH (s:List UInt8) (n:Nat) (q:RQ) (d:Nat) (obj:Bool) (closes:UInt8):RQ × List (List UInt8) × List Val :=
 if nxQ s (blQ s (wV q 1))=closes then (wV (blQ s (wV q 1)) 1,[],[]) else kB s n (blQ s (wV q 1)) d obj closes 0 [] []
theorem qJU (s : List UInt8) (n : Nat) (q : RQ) (d : Nat) : kZ s (n + 1) q d =
  if nxQ s (zV s q d)=34 then ((zP s (zV s q d)).1,.mk 5 0 dc0 (zP s (zV s q d)).2 [] [] 0)
  else if nxQ s (zV s q d)=91 then ((vH s n (zV s q d) d false 93).1,.mk 6 0 dc0 [] (vH s n (zV s q d) d false 93).2.1 (vH s n (zV s q d) d false 93).2.2 0)
  else if nxQ s (zV s q d)=123 then ((vH s n (zV s q d) d true 125).1,.mk 7 0 dc0 [] (vH s n (zV s q d) d true 125).2.1 (vH s n (zV s q d) d true 125).2.2 0)
  else if qEE (nxQ s (zV s q d))=true then vT s (zV s q d)
  else qDQ s (zV s q d):=by
 rw [kZ]; rfl
theorem xW (s : List UInt8) (n : Nat) (q : RQ) (d : Nat) (obj : Bool) (closes : UInt8) (many : Nat) (ks : List (List UInt8)) (vs : List Val) : kB s (n + 1) q d obj closes many ks vs =
  if q.bad=true then (q,ks,vs) else
  if (kL s obj q).1.bad=true then ((kL s obj q).1,ks,vs) else
  if (qCL s closes (many+1) (kZ s n (kL s obj q).1 (d+1)).1).1=true then ((qCL s closes (many+1) (kZ s n (kL s obj q).1 (d+1)).1).2,qRD obj ks vs (kL s obj q).2 (kZ s n (kL s obj q).1 (d+1)).2)
  else kB s n (qCL s closes (many+1) (kZ s n (kL s obj q).1 (d+1)).1).2 d obj closes (many+1) (qRD obj ks vs (kL s obj q).2 (kZ s n (kL s obj q).1 (d+1)).2).1 (qRD obj ks vs (kL s obj q).2 (kZ s n (kL s obj q).1 (d+1)).2).2:=by
 rw [kB]
def qRB (s:List UInt8):Val × Int × Int :=
 let r:=kZ s (2 * s.length+2) ⟨0,0,false,false,false⟩ 1
 if r.1.bad=true then (yR,0,10) else if r.1.deep=true then (yR,0,11) else if r.1.big=true then (yR,0,3) else (r.2,r.1.pos,0)
structure SameR (s:List UInt8) (q:RQ) (st:RS):Prop where
 left:st.left=s.drop q.pos
 le:q.pos≤s.length
 nodes:q.nodes=st.nodes
 bad:q.bad=false
 bad':st.bad=false
 deep:q.deep=st.deep
 big:q.big=st.big
theorem zGD (l:List UInt8):l.drop (blL l)=kO l∧blL l≤l.length:=by
 unfold blL kO
 have h:=List.takeWhile_append_dropWhile (p:=qPL) (l:=l)
 have h2:=(List.takeWhile_sublist qPL (l:=l)).length_le
 generalize l.takeWhile qPL=A at *
 generalize l.dropWhile qPL=B at *
 subst h
 exact ⟨by simp,h2⟩
theorem qJQ {s:List UInt8} {q:RQ} (h:q.pos≤s.length):s.drop (blQ s q).pos=kO (s.drop q.pos)∧(blQ s q).pos≤s.length:=by
 have:=zGD (s.drop q.pos)
 unfold blQ
 simp only
 rw [← List.drop_drop]
 rw [List.length_drop] at this
 exact ⟨this.1,by omega⟩
theorem qIS {s:List UInt8} {q:RQ} {c:UInt8} (hc:c≠0):nxQ s q=c↔([c]:List UInt8).isPrefixOf (s.drop q.pos)=true:=by
 unfold nxQ
 rw [List.getD_eq_getElem?_getD]
 have e:s[q.pos]?=(s.drop q.pos)[0]?:=by rw [List.getElem?_drop,Nat.add_zero]
 rw [e]
 cases s.drop q.pos with
 | nil =>
  constructor
  ·intro h; exact absurd h.symm hc
  intro h; cases h
 | cons b r =>
  simp only [List.getElem?_cons_zero,Option.getD_some,List.isPrefixOf,Bool.and_true,beq_iff_eq]
  exact eq_comm
theorem SameR.bl {s:List UInt8} {q:RQ} {st:RS} (h:SameR s q st):SameR s (blQ s q) { st with left:=kO st.left } :=
 ⟨by rw [h.left]; exact (qJQ h.le).1.symm,(qJQ h.le).2,h.nodes,h.bad,h.bad',h.deep,h.big⟩
theorem SameR.adv {s:List UInt8} {q:RQ} {st:RS} (h:SameR s q st) {k:Nat} (hk:k≤st.left.length):SameR s (wV q k) (wM st k) :=
 ⟨by simp only [wM,wV]; rw [h.left,List.drop_drop],by have:=h.left; have:=h.le; simp only [wV]; rw [h.left,List.length_drop] at hk; omega,h.nodes,h.bad,h.bad',h.deep,h.big⟩
theorem SameR.take {s:List UInt8} {q:RQ} {st:RS} (h:SameR s q st) {c:UInt8} (hc:c≠0):(nxQ s (blQ s q)=c↔(tk [c] st).1=true)∧(nxQ s (blQ s q)=c→SameR s (wV (blQ s q) 1) (tk [c] st).2)∧(nxQ s (blQ s q)≠c→SameR s (blQ s q) (tk [c] st).2):=by
 have hb:=h.bl
 have hx:=qIS (s:=s) (q:=blQ s q) hc
 have hl:s.drop (blQ s q).pos=kO st.left:=hb.left.symm
 rw [hl] at hx
 refine ⟨?_,fun e => ?_,fun e => ?_⟩
 ·rw [hx]; unfold tk; split <;> simp_all
 ·have e2:=hx.1 e
  have hp:=yE e2
  unfold tk
  rw [if_pos e2]
  exact hb.adv (k:=1) (by simpa using hp)
 unfold tk
 rw [if_neg (fun h=>e (hx.2 h))]
 exact hb
theorem qYV (s:List UInt8):(wO s).2=0∨(wO s).2=3∨(wO s).2=4:=by
 have hn:∀ ng dg sc,(yX ng dg sc).2=0∨(yX ng dg sc).2=3:=fun ng dg sc=>by
  unfold yX; simp only; split
  ·exact .inl rfl
  split
  ·exact .inr rfl
  exact .inl rfl
 have hl:∀ ng dg sc,(vW ng dg sc).2=0∨(vW ng dg sc).2=3:=fun ng dg sc=>by
  unfold vW; split <;> exact hn _ _ _
 unfold wO
 split
 ·exact .inr (.inr rfl)
 unfold zAG
 split
 ·exact .inr (.inr rfl)
 split
 ·exact .inr (.inr rfl)
 rcases hl (qVP s) (List.takeWhile qH (qAG s)++_) _ with h | h
 ·exact .inl h
 exact .inr (.inl h)
theorem qXR:∀ (f:Nat) (s:List UInt8) (k:Nat) (out:List UInt8),(uB f s k out).2.2≠0→(uB f s k out).1=[]
 | 0,_,_,_=>fun _=>by simp [uB]
 | f+1,s,k,out=>by
  simp only [uB]
  repeat' split
  all_goals first | exact fun h=>qXR f _ _ _ h | (intro h; rfl) | (intro h; exact absurd rfl h)
theorem qLJ (s:List UInt8):(zN s).2.2≠0→(zN s).1=[]:=by
 unfold zN
 split
 ·exact qXR _ _ _ _
 exact fun _=>rfl
theorem SameR.quoted {s:List UInt8} {q:RQ} {st:RS} (h:SameR s q st) (ht:kO st.left=st.left):(zP s q).1.bad=(qY st).1.bad∧(zP s q).2=(qY st).2∧((qY st).1.bad=false→SameR s (zP s q).1 (qY st).1):=by
 have hp:=qCA st.left
 have hk:=qNQ st.left
 have e1:=qLJ st.left
 unfold zP qY qBS
 rw [ht,← h.left]
 have hl:=h.left
 have hle:st.left.length=s.length-q.pos:=by rw [hl,List.length_drop]
 have hqp:=h.le
 generalize zN st.left=u at *
 by_cases c1:u.2.2=3
 ·rw [if_pos c1,if_neg (by rw [c1]; decide),if_pos c1]
  refine ⟨by rw [h.bad]; exact h.bad'.symm,(e1 (by rw [c1]; decide)).symm,fun _ => ?_⟩
  exact ⟨by simp only; rw [hl,List.drop_drop,← hl],by simp only; omega,h.nodes,h.bad,h.bad',h.deep,rfl⟩
 rw [if_neg c1]
 by_cases c2:u.2.2=0
 ·rw [if_pos c2]
  refine ⟨by simp only; rw [h.bad,h.bad',c2]; rfl,rfl,fun _ => ?_⟩
  exact ⟨by simp only; rw [hl,List.drop_drop],by simp only; omega,h.nodes,by simp only; rw [h.bad,c2]; rfl,h.bad',h.deep,h.big⟩
 rw [if_neg c2,if_neg c1]
 refine ⟨by simp only; rw [decide_eq_true c2]; simp,rfl,fun hb=>by simp at hb⟩
theorem qZA (l:List UInt8):l.drop (zQN l)=l.dropWhile kH∧zQN l≤l.length:=by
 unfold zQN
 have h:=List.takeWhile_append_dropWhile (p:=kH) (l:=l)
 have h2:=(List.takeWhile_sublist kH (l:=l)).length_le
 generalize l.takeWhile kH=A at *
 generalize l.dropWhile kH=B at *
 subst h
 exact ⟨by simp,h2⟩
theorem SameR.number {s:List UInt8} {q:RQ} {st:RS} (h:SameR s q st):(vT s q).1.bad=(jI st).1.bad∧((jI st).1.bad=false→SameR s (vT s q).1 (jI st).1∧((jI st).1.big=false→(vT s q).2=(jI st).2)):=by
 have hc:=qYV (st.left.takeWhile kH)
 have hd:=qZA st.left
 have hl:=h.left
 have hle:st.left.length=s.length-q.pos:=by rw [hl,List.length_drop]
 have hqp:=h.le
 unfold vT jI
 rw [← h.left]
 generalize wO (st.left.takeWhile kH)=p at *
 simp only
 refine ⟨?_,fun hb=>⟨⟨by simp only; rw [← hd.1,hl,List.drop_drop,← hl],by simp only; omega,h.nodes, ?_, ?_,h.deep, ?_⟩,fun hg => ?_⟩⟩
 ·rw [h.bad,h.bad']
  rcases hc with h | h | h <;> rw [h] <;> rfl
 ·simp only [Bool.or_eq_false_iff,decide_eq_false_iff_not] at hb
  rw [h.bad]
  rcases hc with h | h | h
  ·rw [h]; rfl
  ·rw [h]; rfl
  exact absurd h hb.2
 ·exact hb
 ·rw [h.big]
 simp only [Bool.or_eq_false_iff,decide_eq_false_iff_not] at hg
 rw [if_neg hg.2]
theorem qXJ {s w:List UInt8} {q:RQ}:(s.drop q.pos).take w.length=w↔w.isPrefixOf (s.drop q.pos)=true:=by
 rw [List.isPrefixOf_iff_prefix,List.prefix_iff_eq_take,eq_comm]
theorem SameR.words {s:List UInt8} {q:RQ} {st:RS} (h:SameR s q st) (h1:¬ nxQ s q=34) (h2:qEE (nxQ s q)=false):(qDQ s q).1.bad=(vK st).1.bad∧((vK st).1.bad=false→SameR s (qDQ s q).1 (vK st).1∧(qDQ s q).2=(vK st).2):=by
 have h34:¬ ([34]:List UInt8).isPrefixOf st.left=true:=by rw [h.left]; exact fun e=>h1 ((qIS (by decide)).2 e)
 have hnum:¬ (st.left≠[]∧(qW st.left 0=45∨kX (qW st.left 0)=true)):=by
  rintro ⟨g1,g2⟩
  have e:nxQ s q=st.left.getD 0 0:=by rw [h.left]; unfold nxQ; simp [List.getD_eq_getElem?_getD]
  rw [e] at h2
  unfold qEE at h2
  simp only [Bool.or_eq_false_iff,decide_eq_false_iff_not] at h2
  rcases g2 with g | g
  ·exact h2.1 (UInt8.toNat_inj.1 (by unfold qW at g; show (st.left.getD 0 0).toNat=45; omega))
  have:qH (st.left.getD 0 0)=true:=g
  rw [this] at h2; exact absurd h2.2 (by decide)
 have key:∀ w:List UInt8,qAE s w q=if w.isPrefixOf st.left=true then (true,wV q w.length) else (false,q):=fun w=>by
  unfold qAE
  rw [h.left]
  by_cases c:w.isPrefixOf (s.drop q.pos)=true
  ·rw [if_pos c,if_pos (qXJ.2 c)]
  rw [if_neg c,if_neg (fun e=>c (qXJ.1 e))]
 have k1:=key qAS
 have k2:=key qAR
 have k3:=key xR
 have hbb:q.bad=st.bad:=by rw [h.bad,h.bad']
 unfold qDQ vK
 rw [k1,k2,k3]
 by_cases c1:qAS.isPrefixOf st.left=true
 ·rw [if_pos c1,if_pos c1,if_pos rfl]
  exact ⟨hbb,fun _=>⟨h.adv (yE c1),rfl⟩⟩
 rw [if_neg c1,if_neg c1,if_neg (by simp)]
 by_cases c2:qAR.isPrefixOf st.left=true
 ·rw [if_pos c2,if_pos c2,if_pos rfl]
  exact ⟨hbb,fun _=>⟨h.adv (yE c2),rfl⟩⟩
 rw [if_neg c2,if_neg c2,if_neg (by simp)]
 by_cases c3:xR.isPrefixOf st.left=true
 ·rw [if_pos c3,if_pos c3,if_pos rfl]
  exact ⟨hbb,fun _=>⟨h.adv (yE c3),rfl⟩⟩
 rw [if_neg c3,if_neg c3,if_neg (by simp),if_neg h34,if_neg hnum]
 exact ⟨rfl,fun hb=>by cases hb⟩
theorem zGC:∀ l:List UInt8,blL (kO l)=0
 | []=>rfl
 | b::l=>by
  have ih:=zGC l
  unfold kO blL at ih ⊢
  rw [List.dropWhile_cons]
  split
  ·exact ih
  rename_i h; rw [List.takeWhile_cons,if_neg h]; rfl
theorem zBG {s:List UInt8} {q:RQ} (h:q.pos≤s.length):blQ s (blQ s q)=blQ s q:=by
 have:=(qJQ h).1
 unfold blQ at this ⊢
 simp only at this ⊢
 rw [this,zGC]; rfl
theorem SameR.beh {s : List UInt8} {q : RQ} {st : RS} (h : SameR s q st) {c : UInt8} (hc : c ≠ 0) (many : Nat) :
  (qCL s c many q).1=(uO c many st).1∧(qCL s c many q).2.bad=(uO c many st).2.bad∧((uO c many st).2.bad=false→SameR s (qCL s c many q).2 (uO c many st).2):=by
 have h1:SameR s { q with big:=Bool.or q.big (decide (200<many)) } { st with big:=st.big || decide (200<many) }:=⟨h.left,h.le,h.nodes,h.bad,h.bad',h.deep,by simp only; rw [h.big]⟩
 have hsep:uO c many st=if ({ st with big:=st.big || decide (200<many) }:RS).bad=true then (true,{ st with big:=st.big || decide (200<many) }) else if (tk [c] { st with big:=st.big || decide (200<many) }).1=true then (true,(tk [c] { st with big:=st.big || decide (200<many) }).2) else (false,{ (tk [44] (tk [c] { st with big:=st.big || decide (200<many) }).2).2 with bad := !(tk [44] (tk [c] { st with big:=st.big || decide (200<many) }).2).1 }):=rfl
 rw [hsep]
 unfold qCL
 simp only
 generalize ({ q with big:=Bool.or q.big (decide (200<many)) }:RQ)=q1 at *
 generalize ({ st with big:=st.big || decide (200<many) }:RS)=st1 at *
 have hsb:=h1.bad'
 obtain ⟨t1,t2,t3⟩:=h1.take hc
 rw [if_neg (show ¬ st.bad=true by rw [h.bad']; simp)]
 by_cases e:nxQ s (blQ s q1)=c
 ·rw [if_pos e,if_pos (t1.1 e)]
  have:=t2 e
  exact ⟨rfl,by simp only; rw [this.bad,this.bad'],fun _=>this⟩
 rw [if_neg e,if_neg (fun h=>e (t1.2 h))]
 have g:=t3 e
 obtain ⟨u1,u2,u3⟩:=g.take (c:=44) (by decide)
 rw [zBG h1.le] at u1 u2 u3
 refine ⟨rfl, ?_,fun hb => ?_⟩
 ·simp only
  rw [g.bad]
  by_cases e2:nxQ s (blQ s q1)=44
  ·rw [u1.1 e2]; simp [e2]
  have:(tk [44] (tk [c] st1).2).1=false:=by
   cases hh:(tk [44] (tk [c] st1).2).1 with
   | false=>rfl
   | true=>exact absurd (u1.2 hh) e2
  rw [this]; simp [e2]
 have hb':(tk [44] (tk [c] st1).2).1=true:=by simpa using hb
 have e2:=u1.2 hb'
 have k:=u2 e2
 exact ⟨k.left,k.le,k.nodes,by simp only; rw [g.bad,e2]; rfl,hb,k.deep,k.big⟩
theorem qVH (st:RS):qY { st with left:=kO st.left }=qY st:=by
 unfold qY qBS
 simp only [qAT]
theorem SameR.key {s : List UInt8} {q : RQ} {st : RS} (h : SameR s q st) :
  (qJB s (blQ s q)).1.bad=(yL (qY st).1).bad∧(qJB s (blQ s q)).2=(qY st).2∧((yL (qY st).1).bad=false→SameR s (qJB s (blQ s q)).1 (yL (qY st).1)):=by
 obtain ⟨q1,q2,q3⟩:=h.bl.quoted (qAT _)
 rw [qVH] at q1 q2 q3
 unfold qJB
 simp only
 by_cases hb:(qY st).1.bad=true
 ·have hc:yL (qY st).1=(qY st).1:=by unfold yL; rw [if_pos hb]
  rw [hc]
  refine ⟨?_,q2,fun h'=>by rw [hb] at h'; cases h'⟩
  show Bool.or (zP s (blQ s q)).1.bad _=_
  rw [q1,hb]; rfl
 have hb':(qY st).1.bad=false:=by simpa using hb
 have g:=q3 hb'
 have hc:yL (qY st).1={ (tk [58] (qY st).1).2 with bad := !(tk [58] (qY st).1).1 }:=by unfold yL; rw [if_neg hb]
 rw [hc]
 obtain ⟨t1,t2,t3⟩:=g.take (c:=58) (by decide)
 refine ⟨?_,q2,fun h' => ?_⟩
 ·show Bool.or (zP s (blQ s q)).1.bad _=_
  rw [q1,hb']
  by_cases e:nxQ s (blQ s (zP s (blQ s q)).1)=58
  ·rw [t1.1 e]; simp [e]
  have:(tk [58] (qY st).1).1=false:=by
   cases hh:(tk [58] (qY st).1).1 with
   | false=>rfl
   | true=>exact absurd (t1.2 hh) e
  rw [this]; simp [e]
 have e:=t1.2 (by simpa using h')
 have k:=t2 e
 exact ⟨k.left,k.le,k.nodes,by show Bool.or (zP s (blQ s q)).1.bad _=_; rw [q1,hb',e]; rfl,h',k.deep,k.big⟩
theorem qFP {s:List UInt8} {n:Nat} {q:RQ} {d:Nat} {obj:Bool} {c:UInt8} {many:Nat} {ks:List (List UInt8)} {vs:List Val} (h:q.bad=true):(kB s n q d obj c many ks vs).1.bad=true:=by
 cases n with
 | zero=>simp [kB]
 | succ n=>rw [xW,if_pos h]; exact h
theorem zFJ {n:Nat} {st:RS} {d many:Nat} {vs:List Val} (h:st.bad=true):(qBM n st d many vs).1.bad=true:=by
 cases n with
 | zero=>simp [qBM]
 | succ n=>rw [qZN,if_pos h]; exact h
theorem zEX {n:Nat} {st:RS} {d many:Nat} {ks:List (List UInt8)} {vs:List Val} (h:st.bad=true):(qBL n st d many ks vs).1.bad=true:=by
 cases n with
 | zero=>simp [qBL]
 | succ n=>rw [qBL,if_pos h]; exact h
theorem zGF {s:List UInt8} {c:UInt8} {many:Nat} {q:RQ} (h:q.bad=true):(qCL s c many q).2.bad=true:=by
 unfold qCL; simp only; split
 ·exact h
 simp only [blQ]; rw [h]; rfl
theorem qNS {c:UInt8} {many:Nat} {st:RS} (h:st.bad=true):uO c many st=(true,{ st with big:=st.big || decide (200<many) }):=by
 unfold uO; simp only; rw [if_pos h]
theorem qYJ {c:UInt8} {many:Nat} {st:RS} (h:(uO c many st).2.big=false):st.big=false:=by
 unfold uO at h; simp only at h
 split at h
 ·simp only [Bool.or_eq_false_iff] at h; exact h.1
 split at h
 ·rw [zKZ] at h; simp only [Bool.or_eq_false_iff] at h; exact h.1
 simp only [zKZ,Bool.or_eq_false_iff] at h; exact h.1
theorem zDR {st:RS} (h:(yL st).big=false):st.big=false:=by
 unfold yL at h; split at h
 ·exact h
 simpa using h
theorem qFG {st:RS} (h:(qY st).1.big=false):st.big=false:=by
 unfold qY qBS at h; split at h
 ·exact h
 split at h
 ·cases h
 exact h
theorem zQH (ks:List (List UInt8)) (vs vs':List Val) (k:List UInt8) (v v':Val):(xE ks vs k v).1=(xE ks vs' k v').1:=by
 unfold xE; split <;> rfl
theorem qSL (s : List UInt8) : ∀ n : Nat,
  (∀ q st d,SameR s (blQ s q) { st with left:=kO st.left }→(kZ s n q d).1.bad=(kM n st d).1.bad∧((kM n st d).1.bad=false→SameR s (kZ s n q d).1 (kM n st d).1∧((kM n st d).1.big=false→st.big=false∧(kZ s n q d).2=(kM n st d).2))) ∧
  (∀ q st d many vs vs',SameR s q st→(st.big=false→vs'=vs)→(kB s n q d false 93 many [] vs').1.bad=(qBM n st (d+1) (many+1) vs).1.bad∧((qBM n st (d+1) (many+1) vs).1.bad=false→SameR s (kB s n q d false 93 many [] vs').1 (qBM n st (d+1) (many+1) vs).1∧(kB s n q d false 93 many [] vs').2.1=[]∧((qBM n st (d+1) (many+1) vs).1.big=false→st.big=false∧(kB s n q d false 93 many [] vs').2.2=(qBM n st (d+1) (many+1) vs).2))) ∧
  (∀ q st d many ks vs vs',SameR s q st→(st.big=false→vs'=vs)→(kB s n q d true 125 many ks vs').1.bad=(qBL n st (d+1) (many+1) ks vs).1.bad∧((qBL n st (d+1) (many+1) ks vs).1.bad=false→SameR s (kB s n q d true 125 many ks vs').1 (qBL n st (d+1) (many+1) ks vs).1∧(kB s n q d true 125 many ks vs').2.1=(qBL n st (d+1) (many+1) ks vs).2.1∧((qBL n st (d+1) (many+1) ks vs).1.big=false→st.big=false∧(kB s n q d true 125 many ks vs').2.2=(qBL n st (d+1) (many+1) ks vs).2.2)))
 | 0=>⟨fun q st d _=>by simp [kZ,kM],fun q st d many vs vs' _ _=>by simp [kB,qBM],fun q st d many ks vs vs' _ _=>by simp [kB,qBL]⟩
 | n+1=>by
  obtain ⟨ih1,ih2,ih3⟩:=qSL s n
  refine ⟨fun q st d h => ?_,fun q st d many vs vs' h hv => ?_,fun q st d many ks vs vs' h hv => ?_⟩
  ·have hE:SameR s (zV s q d) (zY st d):=⟨h.left,h.le,by show q.nodes+1=st.nodes+1; have:=h.nodes; simp only [blQ] at this; omega,h.bad,h.bad',by
    have:=h.deep; simp only [blQ] at this; show Bool.or q.deep _=Bool.or st.deep _; rw [this],by
    have hn:=h.nodes; simp only [blQ] at hn; have:=h.big; simp only [blQ] at this; show Bool.or q.big _=Bool.or st.big _; rw [this,hn]⟩
   have hEt:kO (zY st d).left=(zY st d).left:=qAT _
   have hbg:(zY st d).big=false→st.big=false:=fun h=>by
    have:Bool.or st.big (decide (400<st.nodes+1))=false:=h
    simp only [Bool.or_eq_false_iff] at this; exact this.1
   rw [zKN,qJU]
   have x34:=qIS (s:=s) (q:=zV s q d) (c:=34) (by decide)
   have x91:=qIS (s:=s) (q:=zV s q d) (c:=91) (by decide)
   have x123:=qIS (s:=s) (q:=zV s q d) (c:=123) (by decide)
   rw [← hE.left] at x34 x91 x123
   generalize zV s q d=Q at *
   generalize zY st d=E at *
   have hkids:∀ (obj:Bool) (c:UInt8),c≠0→1≤E.left.length→True→(nxQ s (blQ s (wV Q 1))=c↔(tk [c] (wM E 1)).1=true)∧(nxQ s (blQ s (wV Q 1))=c→SameR s (wV (blQ s (wV Q 1)) 1) (tk [c] (wM E 1)).2)∧(nxQ s (blQ s (wV Q 1))≠c→SameR s (blQ s (wV Q 1)) (tk [c] (wM E 1)).2):=fun obj c hc hl _=>(hE.adv hl).take hc
   by_cases c1:nxQ s Q=34
   ·rw [if_pos c1]
    have n91:¬ nxQ s Q=91:=by rw [c1]; decide
    have n123:¬ nxQ s Q=123:=by rw [c1]; decide
    rw [if_neg (fun h=>n91 (x91.2 h)),if_neg (fun h=>n123 (x123.2 h))]
    have hp:=x34.1 c1
    obtain ⟨t,ht⟩:=List.isPrefixOf_iff_prefix.1 hp
    have hat:vK E=((qY E).1,.mk 5 0 dc0 (qY E).2 [] [] 0):=by
     unfold vK
     rw [if_neg (by rw [← ht]; simp [qAS,List.isPrefixOf]),if_neg (by rw [← ht]; simp [qAR,List.isPrefixOf]),if_neg (by rw [← ht]; simp [xR,List.isPrefixOf]),if_pos hp]
    rw [hat]
    obtain ⟨g1,g2,g3⟩:=hE.quoted hEt
    exact ⟨g1,fun hb=>⟨g3 hb,fun hg=>⟨hbg (qFG hg),by simp only; rw [g2]⟩⟩⟩
   rw [if_neg c1]
   by_cases c2:nxQ s Q=91
   ·rw [if_pos c2,if_pos (x91.1 c2)]
    have hl:=yE (x91.1 c2)
    obtain ⟨t1,t2,t3⟩:=hkids false 93 (by decide) (by simpa using hl) trivial
    have hld:(wM E 1).big=E.big:=rfl
    unfold vH zUA
    by_cases e:nxQ s (blQ s (wV Q 1))=93
    ·rw [if_pos e,if_pos (t1.1 e)]
     have g:=t2 e
     exact ⟨by simp only; rw [g.bad,g.bad'],fun _=>⟨g,fun hg=>⟨hbg (by simpa [hld] using hg),rfl⟩⟩⟩
    rw [if_neg e,if_neg (fun h=>e (t1.2 h))]
    have g:=t3 e
    obtain ⟨k1,k2⟩:=ih2 _ _ d 0 [] [] g (fun _=>rfl)
    refine ⟨k1,fun hb => ?_⟩
    obtain ⟨k3,k4,k5⟩:=k2 hb
    refine ⟨k3,fun hg => ?_⟩
    obtain ⟨k6,k7⟩:=k5 hg
    refine ⟨hbg (by simpa [hld] using k6), ?_⟩
    simp only
    rw [k4,k7]
   rw [if_neg c2,if_neg (fun h=>c2 (x91.2 h))]
   by_cases c3:nxQ s Q=123
   ·rw [if_pos c3,if_pos (x123.1 c3)]
    have hl:=yE (x123.1 c3)
    obtain ⟨t1,t2,t3⟩:=hkids true 125 (by decide) (by simpa using hl) trivial
    have hld:(wM E 1).big=E.big:=rfl
    unfold vH zQM
    by_cases e:nxQ s (blQ s (wV Q 1))=125
    ·rw [if_pos e,if_pos (t1.1 e)]
     have g:=t2 e
     exact ⟨by simp only; rw [g.bad,g.bad'],fun _=>⟨g,fun hg=>⟨hbg (by simpa [hld] using hg),rfl⟩⟩⟩
    rw [if_neg e,if_neg (fun h=>e (t1.2 h))]
    have g:=t3 e
    obtain ⟨k1,k2⟩:=ih3 _ _ d 0 [] [] [] g (fun _=>rfl)
    refine ⟨k1,fun hb => ?_⟩
    obtain ⟨k3,k4,k5⟩:=k2 hb
    refine ⟨k3,fun hg => ?_⟩
    obtain ⟨k6,k7⟩:=k5 hg
    refine ⟨hbg (by simpa [hld] using k6), ?_⟩
    simp only
    rw [k4,k7]
   rw [if_neg c3,if_neg (fun h=>c3 (x123.2 h))]
   by_cases c4:qEE (nxQ s Q)=true
   ·rw [if_pos c4]
    have e:nxQ s Q=E.left.getD 0 0:=by rw [hE.left]; unfold nxQ; simp [List.getD_eq_getElem?_getD]
    have hne:E.left≠[]:=by intro h0; rw [e,h0] at c4; exact absurd c4 (by decide)
    obtain ⟨b,t,ht⟩:=List.exists_cons_of_ne_nil hne
    have hb:b=nxQ s Q:=by rw [e,ht]; rfl
    have hbn:qEE b=true:=by rw [hb]; exact c4
    have hat:vK E=jI E:=by
     have k1:¬ b=110:=by rintro rfl; revert hbn; decide
     have k2:¬ b=116:=by rintro rfl; revert hbn; decide
     have k3:¬ b=102:=by rintro rfl; revert hbn; decide
     have k4:¬ b=34:=by rintro rfl; revert hbn; decide
     unfold vK
     rw [if_neg (by rw [ht]; simp [qAS,List.isPrefixOf]; intro h; exact absurd h.symm k1),if_neg (by rw [ht]; simp [qAR,List.isPrefixOf]; intro h; exact absurd h.symm k2),if_neg (by rw [ht]; simp [xR,List.isPrefixOf]; intro h; exact absurd h.symm k3),if_neg (by rw [ht]; simp [List.isPrefixOf]; exact fun h=>k4 h.symm),if_pos]
     refine ⟨hne, ?_⟩
     have hb0:qW E.left 0=(b.toNat:Int):=by rw [ht]; rfl
     rw [hb0]
     unfold qEE at hbn
     simp only [Bool.or_eq_true,decide_eq_true_eq] at hbn
     rcases hbn with rfl | h
     ·exact .inl rfl
     exact .inr h
    rw [hat]
    obtain ⟨g1,g2⟩:=hE.number
    refine ⟨g1,fun hb => ?_⟩
    obtain ⟨g3,g4⟩:=g2 hb
    refine ⟨g3,fun hg=>⟨hbg ?_,g4 hg⟩⟩
    unfold jI at hg
    simp only [Bool.or_eq_false_iff] at hg
    exact hg.1
   rw [if_neg c4]
   obtain ⟨g1,g2⟩:=hE.words c1 (by simpa using c4)
   refine ⟨g1,fun hb => ?_⟩
   obtain ⟨g3,g4⟩:=g2 hb
   refine ⟨g3,fun hg=>⟨hbg ?_,g4⟩⟩
   unfold vK at hg
   split at hg
   ·exact hg
   split at hg
   ·exact hg
   split at hg
   ·exact hg
   split at hg
   ·exact qFG hg
   split at hg
   ·unfold jI at hg; simp only [Bool.or_eq_false_iff] at hg; exact hg.1
   exact hg
  ·rw [xW,qZN,if_neg (show ¬ q.bad=true by rw [h.bad]; simp),if_neg (show ¬ st.bad=true by rw [h.bad']; simp)]
   have hd:kL s false q=(blQ s q,[]):=rfl
   rw [hd,if_neg (by simp only; rw [h.bl.bad]; simp)]
   obtain ⟨v1,v2⟩:=ih1 (blQ s q) st (d+1) (by rw [zBG h.le]; exact h.bl)
   simp only
   generalize kZ s n (blQ s q) (d+1)=A at *
   generalize kM n st (d+1)=B at *
   have hm:∀ key,qRD false [] vs' key A.2=([],vs'++[A.2]):=fun _=>rfl
   simp only [hm]
   by_cases hb:B.1.bad=true
   ·rw [hb] at v1
    have e1:=zGF (s:=s) (c:=93) (many:=many+1) v1
    rw [qNS hb,if_pos rfl]
    refine ⟨?_,fun h'=>by simp only at h'; rw [hb] at h'; cases h'⟩
    simp only; rw [hb]
    split
    ·exact e1
    exact qFP e1
   have hb':B.1.bad=false:=by simpa using hb
   obtain ⟨v3,v4⟩:=v2 hb'
   obtain ⟨s1,s2,s3⟩:=v3.beh (c:=93) (by decide) (many+1)
   have sb:=qYJ (c:=93) (many:=many+1) (st:=B.1)
   generalize qCL s 93 (many+1) A.1=X at *
   generalize uO 93 (many+1) B.1=Y at *
   rw [s1]
   by_cases hy:Y.1=true
   ·rw [if_pos hy,if_pos hy]
    refine ⟨s2,fun h'=>⟨s3 h',rfl,fun hg => ?_⟩⟩
    obtain ⟨w1,w2⟩:=v4 (sb hg)
    exact ⟨w1,by simp only; rw [hv w1,w2]⟩
   rw [if_neg hy,if_neg hy]
   by_cases hyb:Y.2.bad=true
   ·rw [hyb] at s2
    exact ⟨by rw [qFP s2,zFJ hyb],fun h'=>by rw [zFJ hyb] at h'; cases h'⟩
   have g:=s3 (by simpa using hyb)
   obtain ⟨k1,k2⟩:=ih2 X.2 Y.2 d (many+1) (vs++[B.2]) (vs'++[A.2]) g (fun hg=>by
    obtain ⟨w1,w2⟩:=v4 (sb hg)
    rw [hv w1,w2])
   refine ⟨k1,fun h' => ?_⟩
   obtain ⟨k3,k4,k5⟩:=k2 h'
   refine ⟨k3,k4,fun hg => ?_⟩
   obtain ⟨k6,k7⟩:=k5 hg
   exact ⟨(v4 (sb k6)).1,k7⟩
  rw [xW,qBL,if_neg (show ¬ q.bad=true by rw [h.bad]; simp),if_neg (show ¬ st.bad=true by rw [h.bad']; simp)]
  have hd:kL s true q=qJB s (blQ s q):=rfl
  obtain ⟨y1,y2,y3⟩:=h.key
  have ybig:(yL (qY st).1).big=false→st.big=false:=fun h=>qFG (zDR h)
  rw [hd]
  generalize qJB s (blQ s q)=K at *
  simp only
  generalize (qY st).2=key at *
  generalize yL (qY st).1=C at *
  by_cases hC:C.bad=true
  ·rw [hC] at y1
   rw [if_pos y1]
   simp only [hC,if_true]
   rw [qNS hC,if_pos rfl]
   exact ⟨by simp only; rw [y1,hC],fun h'=>by simp only at h'; rw [hC] at h'; cases h'⟩
  have hC':C.bad=false:=by simpa using hC
  have g:=y3 hC'
  rw [if_neg (by rw [g.bad]; simp)]
  simp only [hC',Bool.false_eq_true,if_false]
  obtain ⟨v1,v2⟩:=ih1 K.1 C (d+1) g.bl
  rw [y2]
  generalize kZ s n K.1 (d+1)=A at *
  generalize kM n C (d+1)=B at *
  have hm:qRD true ks vs' key A.2=xE ks vs' key A.2:=rfl
  rw [hm]
  have hpf:=zQH ks vs vs' key B.2 A.2
  by_cases hb:B.1.bad=true
  ·rw [hb] at v1
   have e1:=zGF (s:=s) (c:=125) (many:=many+1) v1
   rw [qNS hb,if_pos rfl]
   refine ⟨?_,fun h'=>by simp only at h'; rw [hb] at h'; cases h'⟩
   simp only; rw [hb]
   split
   ·exact e1
   exact qFP e1
  have hb':B.1.bad=false:=by simpa using hb
  obtain ⟨v3,v4⟩:=v2 hb'
  obtain ⟨s1,s2,s3⟩:=v3.beh (c:=125) (by decide) (many+1)
  have sb:=qYJ (c:=125) (many:=many+1) (st:=B.1)
  generalize qCL s 125 (many+1) A.1=X at *
  generalize uO 125 (many+1) B.1=Y at *
  rw [s1]
  by_cases hy:Y.1=true
  ·rw [if_pos hy,if_pos hy]
   refine ⟨s2,fun h'=>⟨s3 h',hpf.symm,fun hg => ?_⟩⟩
   obtain ⟨w1,w2⟩:=v4 (sb hg)
   exact ⟨ybig w1,by simp only; rw [hv (ybig w1),w2]⟩
  rw [if_neg hy,if_neg hy]
  by_cases hyb:Y.2.bad=true
  ·rw [hyb] at s2
   exact ⟨by rw [qFP s2,zEX hyb],fun h'=>by rw [zEX hyb] at h'; cases h'⟩
  have g2:=s3 (by simpa using hyb)
  rw [← hpf]
  obtain ⟨k1,k2⟩:=ih3 X.2 Y.2 d (many+1) (xE ks vs key B.2).1 (xE ks vs key B.2).2 (xE ks vs' key A.2).2 g2 (fun hg=>by
   obtain ⟨w1,w2⟩:=v4 (sb hg)
   rw [hv (ybig w1),w2])
  refine ⟨k1,fun h' => ?_⟩
  obtain ⟨k3,k4,k5⟩:=k2 h'
  refine ⟨k3,k4,fun hg => ?_⟩
  obtain ⟨k6,k7⟩:=k5 hg
  exact ⟨ybig (v4 (sb k6)).1,k7⟩
set_option maxHeartbeats 4000000
variable {G:qR}
theorem kE (b:UInt8) (n:Nat) (hn:n<256):((b.toNat:Int)=(n:Int))↔b=UInt8.ofNat n:=by
 constructor
 ·intro e; exact UInt8.toNat_inj.1 (by rw [UInt8.toNat_ofNat']; omega)
 rintro rfl; rw [UInt8.toNat_ofNat']; omega
theorem zHO {s:List UInt8} {i:Nat} {c:UInt8} (h:s[i]?=some c) (hc:¬ c.toNat<128):(wC s i).2≠1:=by
 unfold wC
 rw [h]
 simp only
 rw [if_neg (by omega)]
 unfold jB
 split
 ·decide
 rename_i h0
 have hn:(kK c.toNat).1=0∨2≤(kK c.toNat).1:=by
  unfold kK
  repeat' split
  all_goals simp
 unfold qMI
 split
 ·simp
 split
 ·simp
 simp only; omega
theorem zAL {s:List UInt8} {k:Nat} (hk:k<s.length):Lib.decodeL (s.drop k)=if (wC s k).2=0 then (65533,1) else ((wC s k).1.toNat,(wC s k).2.toNat):=by
 unfold Lib.decodeL
 rw [qLP (by rw [List.length_drop]; omega),← qNT]
theorem qRU {s : List UInt8} (hne : s ≠ []) (f k : Nat) (out : List UInt8) : uB (f + 1) s k out = if (Lib.decodeL s).1 = 34 then (if 4096 < out.length then ([], 0, 3) else (out, k + 1, 0)) else if (Lib.decodeL s).1 < 32 ∨ ((Lib.decodeL s).1 = 65533 ∧ (Lib.decodeL s).2 = 1) then ([], 0, 6)
  else if (Lib.decodeL s).1=92 then (match zNT s with
   | none=>([],0,6)
   | some (c,n)=>uB f (s.drop n) (k+n) (out++Lib.encodeRune c))
  else uB f (s.drop (Lib.decodeL s).2) (k+(Lib.decodeL s).2) (out++Lib.encodeRune (Lib.decodeL s).1):=by
 simp only [uB]; rw [if_neg hne] <;> rfl
theorem zGR (f k:Nat) (out:List UInt8):uB f [] k out=([],0,6):=by cases f <;> rfl
theorem zKR {s : List UInt8} {k : Nat} {c : UInt8} (hc : s[k]? = some c) (h34 : c ≠ 34) (h92 : c ≠ 92) (f : Nat) (out : List UInt8) : uB (f + 1) (s.drop k) k out =
  if (wC s k).2=0∨(wC s k).1<32 then ([],0,6) else uB f (s.drop (k+(wC s k).2.toNat)) (k+(wC s k).2.toNat) (out++(s.drop k).take (wC s k).2.toNat):=by
 have hk:=(List.getElem?_eq_some_iff.1 hc).1
 have hne:s.drop k≠[]:=by intro e; have:=congrArg List.length e; simp at this; omega
 have hd:=zAL hk
 have hcons:∃ t,s.drop k=c::t:=⟨s.drop (k+1),by rw [List.drop_eq_getElem_cons hk,(List.getElem?_eq_some_iff.1 hc).2]⟩
 have hlen:=qGL s k hk
 rw [qRU hne,List.drop_drop]
 have t34:c.toNat=34→c=34:=fun h=>UInt8.toNat_inj.1 h
 have t92:c.toNat=92→c=92:=fun h=>UInt8.toNat_inj.1 h
 by_cases hlt:c.toNat<128
 ·obtain ⟨t,ht⟩:=hcons
  have h1:Lib.decodeL (s.drop k)=(c.toNat,1):=by rw [ht]; exact qQB hlt
  have h2:(wC s k).2≠0:=fun h0=>by rw [h1,if_pos h0] at hd; have:=congrArg Prod.fst hd; simp only at this; omega
  have h3:(wC s k).1.toNat=c.toNat∧(wC s k).2.toNat=1:=by rw [h1,if_neg h2] at hd; exact ⟨(congrArg Prod.fst hd).symm,(congrArg Prod.snd hd).symm⟩
  have h4:(wC s k).1=c.toNat:=by
   unfold wC; rw [hc]; simp only; rw [if_pos (by omega)]
  rw [h1]
  simp only
  rw [if_neg (fun h=>h34 (t34 h)),h3.2]
  by_cases h32:c.toNat<32
  ·rw [if_pos (.inl h32),if_pos (.inr (by omega))]
  rw [if_neg (by omega),if_neg (fun h=>h92 (t92 h)),if_neg (by omega)]
  have:Lib.encodeRune (c.toNat:Int)=(s.drop k).take 1:=by rw [zMM hlt,ht]; rfl
  rw [this]
 by_cases h0:(wC s k).2=0
 ·rw [if_pos h0] at hd
  rw [hd]
  simp only
  rw [if_neg (by omega),if_pos (.inr (by simp)),if_pos (.inl h0)]
 have h1:=zHO hc hlt
 rw [if_neg h0] at hd
 have hbad:¬ ((Lib.decodeL (s.drop k)).1=65533∧(Lib.decodeL (s.drop k)).2=1):=by rw [hd]; simp only; omega
 have h128:128≤((s.drop k).getD 0 0).toNat:=by
  obtain ⟨t,ht⟩:=hcons
  rw [ht]; show 128≤c.toNat; omega
 have hbig:=(zKB (s.drop k) hne hbad h128).2
 have henc:=Lib.encode_decode (s.drop k) hne hbad
 rw [if_neg (by omega),if_neg (by rintro (h | h); omega; exact hbad h),if_neg (by omega),henc,hd]
 rw [hd] at hbig
 simp only at hbig ⊢
 rw [if_neg (show ¬ ((wC s k).2=0∨(wC s k).1<32) by omega)]
@[simp] def rqC (s:List UInt8) (q:RQ):List V:=[.p (.str s),.p (.int .i64 q.pos),.p (.int .i64 q.nodes),.p (.bool q.bad),.p (.bool q.deep),.p (.bool q.big)]
attribute [local simp] wV
theorem getD_some {s:List UInt8} {k:Nat} (h:k<s.length):s[k]?=some (s.getD k 0):=by rw [List.getD_eq_getElem?_getD,List.getElem?_eq_getElem h]; rfl
theorem zYZ (c:UInt8):qPL c=true↔((((c.toNat:Int)=32∨(c.toNat:Int)=9)∨(c.toNat:Int)=10)∨(c.toNat:Int)=13):=by
 rw [show ((c.toNat:Int)=32)=(c=32) from propext (kE c 32 (by decide)),show ((c.toNat:Int)=9)=(c=9) from propext (kE c 9 (by decide)),show ((c.toNat:Int)=10)=(c=10) from propext (kE c 10 (by decide)),show ((c.toNat:Int)=13)=(c=13) from propext (kE c 13 (by decide))]
 simp only [qPL,Bool.or_eq_true,beq_iff_eq]
 constructor
 ·rintro (((h | h) | h) | h) <;> simp [h]
 rintro (((h | h) | h) | h) <;> simp [h]
theorem jS (s:List UInt8) (q:RQ) (hs:s.length≤1000000000) (hp:q.pos≤6000000000):AX Tryz.prog G 180 [.ptr 2 0] [(2,.vars 137 (rqC s q))] (.tuple []) [2] [(2,.vars 137 (rqC s (blQ s q)))]:=by
 refine AX.introU tok 900 Tryz.func180 (by kernel_rfl) rfl rfl ?_
 simp only [Tryz.f180,qI,List.map_cons,List.map_nil]
 have hbl:blQ s q=⟨q.pos+blL (s.drop q.pos),q.nodes,q.bad,q.deep,q.big⟩:=rfl
 rw [hbl]
 have htw:=fun k=>qAH (p:=qPL) (l:=s.drop q.pos) (n:=k)
 have hbe:(List.takeWhile qPL (s.drop q.pos)).length=blL (s.drop q.pos):=rfl
 rw [hbe] at htw
 have hble:=(zGD (s.drop q.pos)).2
 rw [List.length_drop] at hble
 generalize blL (s.drop q.pos)=B at *
 refine AW.block ?_
 refine AW.loop (α:=Nat) (fun k=>k≤B) (fun k=>⟨qV 67 [(0,.ptr 2 0)],[2],[(2,.vars 137 [.p (.str s),.p (.int .i64 (q.pos+k:Nat)),.p (.int .i64 q.nodes),.p (.bool q.bad),.p (.bool q.deep),.p (.bool q.big)])],900⟩) (fun k=>B-k) (0) (by omega) ⟨qB (by simp),rfl,by simp,by simp⟩ ?_
 rintro k hk
 have hlt:=htw k hk
 have hg:=fun h=>getD_some (s:=s) (k:=q.pos+k) h
 have hba:=zYZ (s.getD (q.pos+k) 0)
 generalize s.getD (q.pos+k) 0=c at *
 refine AW.seq ?_
 refine AW.seqDrawS tok mixed 58 [[0],[2],[3],[4],[0],[6],[7],[8],[9],[5,10],[11],[0,12],[13,12],[14,12],[15,12],[0,12],[17,12],[18,12],[19,12],[16,20,12],[21,12],[22,12],[0,23],[24,23],[25,23],[26,23],[0,23],[28,23],[29,23],[30,23],[27,31,23],[32,23],[23,33,12],[34,12],[0,35],[36,35],[37,35],[38,35],[0,35],[40,35],[41,35],[42,35],[39,43,35],[44,35],[35,45,12],[46,12],[0,47],[48,47],[49,47],[50,47],[0,47],[52,47],[53,47],[54,47],[51,55,47],[56,47],[47,57,12],[12,58]] [.int .u8 c.toNat,.int .u8 c.toNat,.int .u8 c.toNat,.int .u8 c.toNat] [] (by kernel_rfl) ?_
 iterate 11 refine d1 ?_ (hv:=by first | with_reducible exact True.intro | (first | (intros; exact ⟨by assumption,by omega,c,hg (by omega),rfl⟩) | (intros; exact ⟨by omega,by omega,c,hg (by omega),rfl⟩); done) | omega | simp | (simp +contextual; omega))
 iterate 11 refine d2 12 rfl rfl ?_ (hv:=by first | with_reducible exact True.intro | (first | (intros; exact ⟨by assumption,by omega,c,hg (by omega),rfl⟩) | (intros; exact ⟨by omega,by omega,c,hg (by omega),rfl⟩); done) | omega | simp | (simp +contextual; omega))
 iterate 10 refine d2 23 rfl rfl ?_ (hv:=by first | with_reducible exact True.intro | (first | (intros; exact ⟨by assumption,by omega,c,hg (by omega),rfl⟩) | (intros; exact ⟨by omega,by omega,c,hg (by omega),rfl⟩); done) | omega | simp | (simp +contextual; omega))
 iterate 2 refine d2 12 rfl rfl ?_ (hv:=by first | with_reducible exact True.intro | (first | (intros; exact ⟨by assumption,by omega,c,hg (by omega),rfl⟩) | (intros; exact ⟨by omega,by omega,c,hg (by omega),rfl⟩); done) | omega | simp | (simp +contextual; omega))
 iterate 10 refine d2 35 rfl rfl ?_ (hv:=by first | with_reducible exact True.intro | (first | (intros; exact ⟨by assumption,by omega,c,hg (by omega),rfl⟩) | (intros; exact ⟨by omega,by omega,c,hg (by omega),rfl⟩); done) | omega | simp | (simp +contextual; omega))
 iterate 2 refine d2 12 rfl rfl ?_ (hv:=by first | with_reducible exact True.intro | (first | (intros; exact ⟨by assumption,by omega,c,hg (by omega),rfl⟩) | (intros; exact ⟨by omega,by omega,c,hg (by omega),rfl⟩); done) | omega | simp | (simp +contextual; omega))
 iterate 10 refine d2 47 rfl rfl ?_ (hv:=by first | with_reducible exact True.intro | (first | (intros; exact ⟨by assumption,by omega,c,hg (by omega),rfl⟩) | (intros; exact ⟨by omega,by omega,c,hg (by omega),rfl⟩); done) | omega | simp | (simp +contextual; omega))
 refine d2 12 rfl rfl ?_ (hv:=by first | with_reducible exact True.intro | (first | (intros; exact ⟨by assumption,by omega,c,hg (by omega),rfl⟩) | (intros; exact ⟨by omega,by omega,c,hg (by omega),rfl⟩); done) | omega | simp | (simp +contextual; omega))
 refine d1 ?_ (hv:=by first | with_reducible exact True.intro | (first | (intros; exact ⟨by assumption,by omega,c,hg (by omega),rfl⟩) | (intros; exact ⟨by omega,by omega,c,hg (by omega),rfl⟩); done) | omega | simp | (simp +contextual; omega))
 refine DGo.nil (by kernel_rfl) ⟨by kernel_rfl, ?_⟩
 refine qC.nil ?_
 refine cnd ?_ ?_
 ·intro h59
  try simp at h59
  have hkb:k<B:=hlt.2 ⟨c,by rw [List.getElem?_drop]; exact hg (by omega),hba.2 h59.2⟩
  refine AW.skip (AW.block (rgz [] [[],[],[],[],[],[0,64,65],[],[0]] ?_))
  iterate 8 refine op1 tok ?_
  refine qA ?_
  exact ⟨k+1,by omega,by omega,qB (by simp [show (q.pos:Int)+((k:Int)+1)=(q.pos:Int)+k+1 from by omega]),rfl,by simp [show (q.pos:Int)+((k:Int)+1)=(q.pos:Int)+k+1 from by omega],by simp [show (q.pos:Int)+((k:Int)+1)=(q.pos:Int)+k+1 from by omega]⟩
 intro h59
 try simp at h59
 have hkb:k=B:=by
  rcases Nat.lt_or_ge k B with h | h
  ·obtain ⟨b,hb1,hb2⟩:=hlt.1 h
   rw [List.getElem?_drop] at hb1
   have hl:=(List.getElem?_eq_some_iff.1 hb1).1
   rw [hg hl] at hb1
   cases hb1
   exact absurd (hba.1 hb2) (by have:=h59 (by omega); omega)
  omega
 subst hkb
 refine AW.exit ?_
 simp
 exact zFP
theorem qCY (s:List UInt8) (q:RQ) (hs:s.length≤1000000000) (hp:q.pos≤6000000000):AX Tryz.prog G 181 [.ptr 2 0] [(2,.vars 137 (rqC s q))] (.p (.int .u8 (nxQ s q).toNat)) [2] [(2,.vars 137 (rqC s q))]:=by
 refine AX.introU tok 900 Tryz.func181 (by kernel_rfl) rfl rfl ?_
 simp only [Tryz.f181,qI,List.map_cons,List.map_nil]
 have hn:nxQ s q=s.getD q.pos 0:=rfl
 have hg:=fun h=>getD_some (s:=s) (k:=q.pos) h
 have hge:¬ q.pos<s.length→s.getD q.pos 0=0:=fun h=>by rw [List.getD_eq_getElem?_getD,List.getElem?_eq_none (by omega)]; rfl
 rw [hn]
 generalize s.getD q.pos 0=c at *
 refine rgn [] [[0]] ?_
 refine op1 tok ?_
 refine qA (AW.seq ?_)
 refine AW.seqDrawS tok mixed 10 [[0],[3],[4],[5],[0],[7],[8],[9],[10],[6,11]] [] [] (by kernel_rfl) ?_
 iterate 10 refine d1 ?_
 refine DGo.nil (by kernel_rfl) ⟨by kernel_rfl, ?_⟩
 refine qC.nil ?_
 refine cnd ?_ ?_
 ·intro h12
  try simp at h12
  have hc:=hg (by omega)
  refine AW.seqDrawS tok mixed 9 [[0],[13],[14],[15],[0],[17],[18],[19],[16,20]] [.int .u8 c.toNat] [] (by kernel_rfl) ?_
  iterate 9 refine d1 ?_ (hv:=by first | with_reducible exact True.intro | (exact ⟨c,hc,rfl⟩; done) | omega | simp | (simp +contextual; omega))
  refine DGo.nil (by kernel_rfl) ⟨by kernel_rfl, ?_⟩
  refine qC.run [[2]] ?_
  refine op1 tok ?_
  refine qA ?_
  exact AW.ret wD
 intro h12
 try simp at h12
 have hc:=hge (by omega)
 subst hc
 refine AW.skip (rgn [] [[]] ?_)
 refine op1 tok ?_
 refine qA ?_
 exact AW.ret wD
theorem zKM (s:List UInt8) (q:RQ) (w:List UInt8) (hs:s.length≤1000000000) (hp:q.pos≤s.length) (hw:w.length≤100):AX Tryz.prog G 185 [.ptr 2 0,.p (.str w)] [(2,.vars 137 (rqC s q))] (.p (.bool (qAE s w q).1)) [2] [(2,.vars 137 (rqC s (qAE s w q).2))]:=by
 refine AX.introU tok 900 Tryz.func185 (by kernel_rfl) rfl rfl ?_
 simp only [Tryz.f185,qI,List.map_cons,List.map_nil]
 have hwq:qAE s w q=if (s.drop q.pos).take w.length=w then (true,wV q w.length) else (false,q):=rfl
 rw [hwq]
 have hsl:(s.take (q.pos+w.length)).drop q.pos=(s.drop q.pos).take w.length:=by rw [List.drop_take,Nat.add_sub_cancel_left]
 have hln:(s.drop q.pos).take w.length=w→q.pos+w.length≤s.length:=fun h=>by
  have:=congrArg List.length h
  simp at this; omega
 have hti:((q.pos:Int)+(w.length:Int)).toNat=q.pos+w.length:=by omega
 refine rgn [] [[0,1]] ?_
 refine op1 tok ?_
 refine qA (AW.seq ?_)
 refine AW.seqDrawS tok mixed 33 [[0],[5],[6],[7],[8],[0],[10],[11],[12],[9,13],[1],[15],[14,16],[17],[0,18],[19,18],[20,18],[21,18],[0,18],[23,18],[24,18],[25,18],[0,18],[27,18],[28,18],[29,18],[1,18],[31,18],[30,32,18],[22,26,33,18],[1,18],[34,35,18],[18,36]] [] [] (by kernel_rfl) ?_
 iterate 14 refine d1 ?_ (h:=by intro C; conv=>lhs; simp [hti,hsl]) (hv:=by first | with_reducible exact True.intro | (first | omega | (intros; omega); done) | omega | simp | (simp +contextual; omega))
 iterate 18 refine d2 18 rfl rfl ?_ (h:=by intro C; conv=>lhs; simp [hti,hsl]) (hv:=by first | with_reducible exact True.intro | (first | omega | (intros; omega); done) | omega | simp | (simp +contextual; omega))
 refine d1 ?_ (h:=by intro C; conv=>lhs; simp [hti,hsl]) (hv:=by first | with_reducible exact True.intro | (first | omega | (intros; omega); done) | omega | simp | (simp +contextual; omega))
 refine DGo.nil (by kernel_rfl) ⟨by kernel_rfl, ?_⟩
 refine qC.nil ?_
 refine cnd ?_ ?_
 ·intro h37
  try simp at h37
  rw [if_neg (by
   intro h
   have h2:=hln h
   rcases h37 with h' | h'
   ·omega
   exact h' h)]
  refine rgn [] [[]] ?_
  refine op1 tok ?_
  refine qA ?_
  exact AW.ret wD
 intro h37
 try simp at h37
 rw [if_pos h37.2]
 have h2:=hln h37.2
 refine AW.skip (rgn [] [[],[],[],[],[1,38,42],[],[],[38,45],[],[],[48]] ?_)
 iterate 11 refine op1 tok ?_
 refine qA (rgn [] [[]] ?_)
 refine op1 tok ?_
 refine qA ?_
 exact AW.ret wD
theorem zRA (s:List UInt8) (hs:s.length≤1000000000000):AFn Tryz.prog G 214 [.str s] (.int .i64 (qFC s)):=by
 refine AFn.introU tok Tryz.func214 (by kernel_rfl) rfl rfl ?_
 simp only [Tryz.f214,qI,List.map_cons,List.map_nil]
 refine rgn [] [[0]] ?_
 refine op1 tok ?_
 refine qA (AW.seq (rgn [] [[]] ?_))
 refine op1 tok ?_
 refine qA (AW.block ?_)
 refine AW.loop (α:=Nat) (fun i=>qFC s=qDT s i∧i≤s.length+2) (fun i=>⟨qV 24 [(0,.p (.str s)),(3,.p (.int .i64 i))],[],[],0⟩) (fun i=>s.length+2-i) (1) ⟨zCF s,by omega⟩ ⟨qB (by simp),rfl,by simp,by simp⟩ ?_
 rintro i ⟨hi,hil⟩
 rw [hi]
 refine AW.seq (rgn [] [[],[],[],[0,3,7]] ?_)
 iterate 4 refine op1 tok ?_
 refine qA (cnd ?_ ?_)
 ·intro h7
  try simp at h7
  obtain ⟨c,hc⟩:∃ c,s[i]?=some c:=⟨s[i],by simp [show i<s.length by omega]⟩
  have hst:=qYG hc
  rw [hst]
  have hcl:=c.toNat_lt
  refine AW.skip (AW.seq (AW.block (AW.seq (rgn [.int .u8 c.toNat] [[],[],[],[0,3,13]] ?_))))
  iterate 4 refine op1 tok ?_ (hv:=by first | with_reducible exact True.intro | (first | exact ⟨by omega,_,hc,rfl⟩ | simp [hc]; done) | omega | simp | (simp +contextual; omega))
  refine qA (cnd ?_ ?_)
  ·intro h13
   try simp at h13
   rw [if_pos (show c=34 from UInt8.toNat_inj.1 (by show c.toNat=34; omega))]
   refine rgn [] [[],[],[2]] ?_
   iterate 3 refine op1 tok ?_
   exact qA (AW.ret qG)
  intro h13
  try simp at h13
  rw [if_neg (show ¬ c=34 by rintro rfl; exact h13 rfl)]
  rw [if_neg (show ¬ c=34 by rintro rfl; exact h13 rfl)] at hst
  refine AW.skip (rgn [.int .u8 c.toNat] [[],[],[],[0,3,19]] ?_)
  iterate 4 refine op1 tok ?_ (hv:=by first | with_reducible exact True.intro | (first | exact ⟨by omega,_,hc,rfl⟩ | simp [hc]; done) | omega | simp | (simp +contextual; omega))
  refine qA (cnd ?_ ?_)
  ·intro h19
   try simp at h19
   rw [if_pos (show c=92 from UInt8.toNat_inj.1 (by show c.toNat=92; omega))]
   rw [if_pos (show c=92 from UInt8.toNat_inj.1 (by show c.toNat=92; omega))] at hst
   refine rgz [] [[],[],[0,3]] ?_
   iterate 3 refine op1 tok ?_
   refine qA (rgz [] [[],[],[0,3]] ?_)
   iterate 3 refine op1 tok ?_
   refine qA ?_
   exact ⟨i+2,⟨rfl,by omega⟩,by omega,qB (by simp [(show (i:Int)+1+1=i+2 by omega)]),rfl,by simp [(show (i:Int)+1+1=i+2 by omega)],by simp [(show (i:Int)+1+1=i+2 by omega)]⟩
  intro h19
  try simp at h19
  rw [if_neg (show ¬ c=92 by rintro rfl; exact h19 rfl)]
  rw [if_neg (show ¬ c=92 by rintro rfl; exact h19 rfl)] at hst
  refine AW.skip (rgz [] [[],[],[0,3]] ?_)
  iterate 3 refine op1 tok ?_
  refine qA ?_
  exact ⟨i+1,⟨rfl,by omega⟩,by omega,qB (by simp),rfl,by simp,by simp⟩
 intro h7
 try simp at h7
 have hend:qDT s i=s.length:=by
  unfold qDT; split
  ·rw [show i=s.length by omega]; simp [vP]
  rfl
 refine AW.exit ?_
 simp
 refine rgn [] [[],[],[2]] ?_
 iterate 3 refine op1 tok ?_
 refine qA ?_
 exact AW.ret (qG (k:=by simp [hend]))
def qQS (G:qR) (s:List UInt8):Prop:=∀ k,AFn Tryz.prog G 213 [.str (s.drop k)] (.tup [.str (zN (s.drop k)).1,.int .i64 (zN (s.drop k)).2.1,.int .i64 (zN (s.drop k)).2.2])
theorem qOD (s:List UInt8) (q:RQ) (hs:s.length≤1000000000) (hp:q.pos≤s.length) (hU:qQS G s):AX Tryz.prog G 182 [.ptr 2 0] [(2,.vars 137 (rqC s q))] (.p (.str (zP s q).2)) [2] [(2,.vars 137 (rqC s (zP s q).1))]:=by
 refine AX.introU tok 900 Tryz.func182 (by kernel_rfl) rfl rfl ?_
 simp only [Tryz.f182,qI,List.map_cons,List.map_nil]
 have hu:=hU q.pos
 have hpr:=qCA (s.drop q.pos)
 have hue:=qLJ (s.drop q.pos)
 have hen:=zRA (G:=G) (s.drop q.pos) (by simp; omega)
 have hsk:=qNQ (s.drop q.pos)
 have hq:zP s q=if (zN (s.drop q.pos)).2.2=3 then ({ q with pos:=q.pos+qFC (s.drop q.pos),big:=true },[])
  else ({ q with pos:=q.pos+(zN (s.drop q.pos)).2.1,bad:=Bool.or q.bad (decide ((zN (s.drop q.pos)).2.2≠0)) },(zN (s.drop q.pos)).1):=rfl
 rw [hq]
 have hdl:(s.drop q.pos).length≤1000000000:=by simp; omega
 generalize zN (s.drop q.pos)=u at *
 obtain ⟨us,un,ue⟩:=u
 simp only at hu hpr hue ⊢
 refine rgn [] [[0]] ?_
 refine op1 tok ?_
 refine qA ?_
 refine AW.seqDrawS tok mixed 16 [[0],[7],[8],[9],[0],[11],[12],[13],[10,14],[15],[16],[6],[6],[6],[17],[18]] [.nilp,.tup [.str us,.int .i64 un,.int .i64 ue]] [] (by kernel_rfl) ?_
 iterate 16 refine dq1 hu ?_
 refine DGo.nil (by kernel_rfl) ⟨by kernel_rfl, ?_⟩
 refine qC.run [[0,3,4,5]] ?_
 refine op1 tok ?_
 refine qA (AW.seq (rgn [] [[],[0,3,4,5,21]] ?_))
 iterate 2 refine op1 tok ?_
 refine qA (cnd ?_ ?_)
 ·intro h21
  try simp at h21
  rw [if_pos h21]
  refine rgn [] [[],[],[],[0]] ?_
  iterate 4 refine op1 tok ?_
  refine qA ?_
  refine AW.seqDrawS tok mixed 10 [[0],[25],[26],[27],[0],[29],[30],[31],[28,32],[33]] [.nilp,.int .i64 (qFC (s.drop q.pos))] [] (by kernel_rfl) ?_
  iterate 10 refine dq1 hen ?_
  refine DGo.nil (by kernel_rfl) ⟨by kernel_rfl, ?_⟩
  refine qC.run [[0,4]] ?_
  refine op1 tok ?_
  refine qA (rgz [] [[]] ?_)
  refine op1 tok ?_
  refine qA (rgn [] [[],[],[],[],[3,4,40,44],[],[],[3,46,47],[],[3]] ?_)
  iterate 10 refine op1 tok ?_
  refine qA (rgn [] [[],[2]] ?_)
  iterate 2 refine op1 tok ?_
  refine qA ?_
  exact AW.ret wD
 intro h21
 try simp at h21
 rw [if_neg h21]
 refine rgn [] [[],[0,3,4,36]] ?_
 iterate 2 refine op1 tok ?_
 refine qA (cnd ?_ ?_)
 ·intro h36
  try simp at h36
  rw [decide_eq_true h36]
  refine rgz [] [[],[],[],[0,3,4]] ?_
  iterate 4 refine op1 tok ?_
  refine qA (rgn [] [[],[],[],[],[3,4,40,44],[],[],[3,46,47],[],[3]] ?_)
  iterate 10 refine op1 tok ?_
  refine qA (rgn [] [[],[2]] ?_)
  iterate 2 refine op1 tok ?_
  refine qA ?_
  exact AW.ret wD
 intro h36
 try simp at h36
 have hd0:decide (ue≠0)=false:=by simp [h36]
 rw [hd0]
 refine AW.skip (rgn [] [[],[],[],[],[3,4,40,44],[],[],[3,46,47],[],[3]] ?_)
 iterate 10 refine op1 tok ?_
 refine qA (rgn [] [[],[2]] ?_)
 iterate 2 refine op1 tok ?_
 refine qA ?_
 exact AW.ret wD
theorem zCT (c:UInt8):AFn Tryz.prog G 216 [.int .u8 c.toNat] (.bool (kH c)):=by
 refine AFn.introU tok Tryz.func216 (by kernel_rfl) rfl rfl ?_
 simp only [Tryz.f216,qI,List.map_cons,List.map_nil]
 have key:∀ k:Fin 256,kH (UInt8.ofNat k.val)=(((((decide (48≤k.val) && decide (k.val≤57)) || decide (k.val=45)) || decide (k.val=43)) || decide (k.val=46)) || decide (k.val=101) || decide (k.val=69)):=by decide +kernel
 have hk:=key ⟨c.toNat,c.toNat_lt⟩
 simp only [UInt8.ofNat_toNat] at hk
 have e1:decide ((48:Int)≤(c.toNat:Int))=decide (48≤c.toNat):=by rw [decide_eq_decide]; omega
 have e2:decide ((c.toNat:Int)≤57)=decide (c.toNat≤57):=by rw [decide_eq_decide]; omega
 have e3:decide ((c.toNat:Int)=45)=decide (c.toNat=45):=by rw [decide_eq_decide]; omega
 have e4:decide ((c.toNat:Int)=43)=decide (c.toNat=43):=by rw [decide_eq_decide]; omega
 have e5:decide ((c.toNat:Int)=46)=decide (c.toNat=46):=by rw [decide_eq_decide]; omega
 have e6:decide ((c.toNat:Int)=101)=decide (c.toNat=101):=by rw [decide_eq_decide]; omega
 have e7:decide ((c.toNat:Int)=69)=decide (c.toNat=69):=by rw [decide_eq_decide]; omega
 rw [hk]
 refine rgn [] [[0]] ?_
 refine op1 tok ?_
 refine qA (rgn [] [[],[],[],[],[],[0,8],[],[],[],[0,12],[],[],[],[0,16],[],[],[],[0,20],[],[],[],[0,24],[],[],[],[28],[2]] ?_)
 iterate 27 first | refine op1 tok ?_ | refine op2 tok ?_
 refine qA ?_
 exact AW.ret (qG (k:=by (simp [e1,e2,e3,e4,e5,e6,e7,Bool.or_assoc])))
end Go.Proofs.YtdojfdaglbphlaaGreatDoor
namespace Go.Proofs.YtdojfdaglbphlaaGreatDoor
open Sy Go
set_option maxRecDepth 100000
set_option maxHeartbeats 4000000
set_option linter.unusedSimpArgs false
set_option linter.unusedVariables false
variable {G:qR}
attribute [local simp] wV
def qUK (G:qR) (s:List UInt8):Prop:=∀ k,AFn Tryz.prog G 26 [.str ((s.drop k).takeWhile kH)] (.tup [(wO ((s.drop k).takeWhile kH)).1.enc,.int .i64 (wO ((s.drop k).takeWhile kH)).2])
theorem zCU (s:List UInt8) (q:RQ) (hs:s.length≤100000) (hp:q.pos≤s.length) (hNu:qUK G s):AX Tryz.prog G 184 [.ptr 2 0] [(2,.vars 137 (rqC s q))] (.agg (vT s q).2.cells) [2] [(2,.vars 137 (rqC s (vT s q).1))]:=by
 refine AX.introU tok 900 Tryz.func184 (by kernel_rfl) rfl rfl ?_
 simp only [Tryz.f184,qI,List.map_cons,List.map_nil]
 have hle:((s.drop q.pos).takeWhile kH).length≤s.length-q.pos:=by
  have:=(List.takeWhile_sublist kH (l:=s.drop q.pos)).length_le
  rwa [List.length_drop] at this
 have hpa:=hNu q.pos
 have hnq:vT s q=({ q with pos:=q.pos+((s.drop q.pos).takeWhile kH).length,big:=Bool.or q.big (decide ((wO ((s.drop q.pos).takeWhile kH)).2=3)),bad:=Bool.or q.bad (decide ((wO ((s.drop q.pos).takeWhile kH)).2≠3∧(wO ((s.drop q.pos).takeWhile kH)).2≠0)) },
  .mk 4 0 (if (wO ((s.drop q.pos).takeWhile kH)).2=3 then ⟨false,[48],0⟩ else (wO ((s.drop q.pos).takeWhile kH)).1) [] [] [] 0):=rfl
 rw [hnq]
 have htw:=fun k=>qAH (p:=kH) (l:=s.drop q.pos) (n:=k)
 have hA:(s.drop q.pos).take ((s.drop q.pos).takeWhile kH).length=(s.drop q.pos).takeWhile kH:=(List.prefix_iff_eq_take.1 (List.takeWhile_prefix kH)).symm
 generalize (s.drop q.pos).takeWhile kH=A at *
 generalize wO A=p at *
 obtain ⟨dc,e⟩:=p
 simp only [Dc.enc] at hpa
 simp only
 refine rgn [] [[]] ?_
 refine op1 tok ?_
 refine qA (rgn [] [[],[],[],[],[0,2,3]] ?_)
 iterate 5 refine op1 tok ?_
 refine qA (AW.seq (AW.block ?_))
 refine AW.loop (α:=Nat) (fun k=>k≤A.length) (fun k=>⟨qV 66 [(0,.ptr 2 0),(2,.ptr 902 0),(3,.p (.int .i64 q.pos))],[2],[(2,.vars 137 [.p (.str s),.p (.int .i64 (q.pos+k:Nat)),.p (.int .i64 q.nodes),.p (.bool q.bad),.p (.bool q.deep),.p (.bool q.big)]),(902,.vars 31 [.p (.int .i64 0),.p (.int .u64 0),.p (.bool false),.p (.str []),.p (.int .i64 0),.p (.str []),.nilsl,.nilsl,.p (.int .i64 0)])],900⟩) (fun k=>A.length-k) (0) (by omega) ⟨qB (by simp),rfl,by simp,by simp⟩ ?_
 rintro k hk
 have hlt:=htw k hk
 have hg:=fun h=>getD_some (s:=s) (k:=q.pos+k) h
 have hnu:=zCT (G:=G) (s.getD (q.pos+k) 0)
 generalize s.getD (q.pos+k) 0=c at *
 refine AW.seq ?_
 refine AW.seqDrawS tok mixed 22 [[0],[10],[11],[12],[0],[14],[15],[16],[17],[13,18],[19],[0,20],[21,20],[22,20],[23,20],[0,20],[25,20],[26,20],[27,20],[24,28,20],[29,20],[20,30]] [.int .u8 c.toNat,.nilp,.bool (kH c)] [] (by kernel_rfl) ?_
 iterate 11 refine d1 ?_ (hv:=by first | with_reducible exact True.intro | (first | (intros; exact ⟨by assumption,by omega,c,hg (by omega),rfl⟩) | (intros; exact ⟨by omega,by omega,c,hg (by omega),rfl⟩) | (intros; exact ⟨by omega,hnu⟩) | (intros; exact hnu); done) | omega | simp | (simp +contextual; omega))
 iterate 10 refine d2 20 rfl rfl ?_ (hv:=by first | with_reducible exact True.intro | (first | (intros; exact ⟨by assumption,by omega,c,hg (by omega),rfl⟩) | (intros; exact ⟨by omega,by omega,c,hg (by omega),rfl⟩) | (intros; exact ⟨by omega,hnu⟩) | (intros; exact hnu); done) | omega | simp | (simp +contextual; omega))
 refine d1 ?_ (hv:=by first | with_reducible exact True.intro | (first | (intros; exact ⟨by assumption,by omega,c,hg (by omega),rfl⟩) | (intros; exact ⟨by omega,by omega,c,hg (by omega),rfl⟩) | (intros; exact ⟨by omega,hnu⟩) | (intros; exact hnu); done) | omega | simp | (simp +contextual; omega))
 refine DGo.nil (by kernel_rfl) ⟨by kernel_rfl, ?_⟩
 refine qC.nil ?_
 refine cnd ?_ ?_
 ·intro h31
  try simp at h31
  have hkb:k<A.length:=hlt.2 ⟨c,by rw [List.getElem?_drop]; exact hg (by omega),h31.2⟩
  refine AW.skip (AW.block (rgz [] [[],[],[],[],[],[0,2,3,36,37],[],[0,2,3]] ?_))
  iterate 8 refine op1 tok ?_
  refine qA ?_
  exact ⟨k+1,by omega,by omega,qB (by simp [show (q.pos:Int)+((k:Int)+1)=(q.pos:Int)+k+1 from by omega]),rfl,by simp [show (q.pos:Int)+((k:Int)+1)=(q.pos:Int)+k+1 from by omega],by simp [show (q.pos:Int)+((k:Int)+1)=(q.pos:Int)+k+1 from by omega]⟩
 intro h31
 try simp at h31
 have hkb:k=A.length:=by
  rcases Nat.lt_or_ge k A.length with h | h
  ·obtain ⟨b,hb1,hb2⟩:=hlt.1 h
   rw [List.getElem?_drop] at hb1
   have hl:=(List.getElem?_eq_some_iff.1 hb1).1
   rw [hg hl] at hb1
   cases hb1
   have:=h31 (by omega)
   rw [hb2] at this; cases this
  omega
 subst hkb
 have hsl:(s.take (q.pos+A.length)).drop q.pos=A:=by rw [List.drop_take,Nat.add_sub_cancel_left]; exact hA
 have hti:((q.pos:Int)+(A.length:Int)).toNat=q.pos+A.length:=by omega
 refine AW.exit ?_
 simp
 refine AW.seqDrawS tok mixed 16 [[0],[40],[41],[42],[3],[0],[45],[46],[47],[43,44,48],[49],[50],[39],[39],[],[4,51]] [.nilp,.tup [.agg [.bool dc.neg,.str dc.digits,.int .i64 dc.scale],.int .i64 e]] [] (by kernel_rfl) ?_
 iterate 16 refine d1 ?_ (h:=by intro C; conv=>lhs; simp [hti,hsl]) (hv:=by first | with_reducible exact True.intro | (first | exact hpa | omega | (intros; omega); done) | omega | simp | (simp +contextual; omega))
 refine DGo.nil (by kernel_rfl) ⟨by kernel_rfl, ?_⟩
 refine qC.run [[0,2,4,5]] ?_
 refine op1 tok ?_ (h:=by intro C; conv=>lhs; simp [hti,hsl])
 refine qA (AW.seq (rgn [] [[],[0,2,4,5,54]] ?_))
 iterate 2 refine op1 tok ?_
 refine qA (cnd ?_ ?_)
 ·intro h54
  try simp at h54
  subst h54
  rw [if_pos rfl]
  refine rgn [] [[],[],[],[2,4]] ?_
  iterate 4 refine op1 tok ?_
  refine qA (rgz [] [[],[2,4]] ?_)
  iterate 2 refine op1 tok ?_
  refine qA (rgn [] [[],[],[2]] ?_)
  iterate 3 refine op1 tok ?_
  refine qA ?_
  refine AW.fillE 902 [none,none,none,none,none,none,some 1,some 9,none] (by conv=>lhs; simp) ?_
  exact AW.ret wD
 intro h54
 try simp at h54
 rw [if_neg h54]
 refine rgn [] [[],[0,2,4,60]] ?_
 iterate 2 refine op1 tok ?_
 refine qA (cnd ?_ ?_)
 ·intro h60
  try simp at h60
  simp only [ne_eq,h54,h60,not_false_eq_true,and_self,decide_true,decide_false]
  refine rgz [] [[],[],[],[2,4]] ?_
  iterate 4 refine op1 tok ?_
  refine qA (rgn [] [[],[],[2]] ?_)
  iterate 3 refine op1 tok ?_
  refine qA ?_
  refine AW.fillE 902 [none,none,none,none,none,none,some 1,some 9,none] (by conv=>lhs; simp) ?_
  exact AW.ret (wD (k:=by simp [h54]))
 intro h60
 try simp at h60
 subst h60
 refine AW.skip (rgn [] [[],[],[2]] ?_)
 iterate 3 refine op1 tok ?_
 refine qA ?_
 refine AW.fillE 902 [none,none,none,none,none,none,some 1,some 9,none] (by conv=>lhs; simp) ?_
 exact AW.ret wD
theorem zQI (ks:List (List UInt8)) (vs:List Val) (key:List UInt8) (v:Val) (hlen:ks.length=vs.length) (hl:vs.length≤1000000000):AX Tryz.prog G 215 [.agg [.p (.int .i64 7),.p (.int .u64 0),.p (.bool false),.p (.str []),.p (.int .i64 0),.p (.str []),.ms 3,.ms 8,.p (.int .i64 0)],.p (.str key),.p v.enc] [(3,.row 9 1 (ks.map PD.str)),(8,.row 31 9 (vs.map Val.enc))] (.agg [.p (.int .i64 7),.p (.int .u64 0),.p (.bool false),.p (.str []),.p (.int .i64 0),.p (.str []),.ms 3,.ms 8,.p (.int .i64 0)]) [] [(3,.row 9 1 ((xE ks vs key v).1.map PD.str)),(8,.row 31 9 ((xE ks vs key v).2.map Val.enc))]:=by
 refine AX.introU tok 900 Tryz.func215 (by kernel_rfl) rfl rfl ?_
 simp only [Tryz.f215,qI,List.map_cons,List.map_nil]
 have hput:xE ks vs key v=if key∈ks then (ks,vs.set (ks.idxOf key) v) else (ks++[key],vs++[v]):=rfl
 rw [hput]
 refine rgn [] [[],[],[1,3,5,6]] ?_
 iterate 3 refine op1 tok ?_
 refine qA (AW.seq (rgn [] [[]] ?_))
 refine op1 tok ?_
 refine qA (AW.block ?_)
 refine AW.loop (α:=Nat) (fun k=>k≤ks.length∧key ∉ ks.take k) (fun k=>⟨qV 41 [(1,.p (.str key)),(3,.ptr 903 0),(5,.ptr 905 0),(6,.ptr 906 0),(7,.p (.int .i64 k))],[3,8],[(903,.vars 31 [.p (.int .i64 7),.p (.int .u64 0),.p (.bool false),.p (.str []),.p (.int .i64 0),.p (.str []),.ms 3,.ms 8,.p (.int .i64 0)]),(905,.vars 31 v.cells),(906,.vars 31 [.p (.int .i64 0),.p (.int .u64 0),.p (.bool false),.p (.str []),.p (.int .i64 0),.p (.str []),.nilsl,.nilsl,.p (.int .i64 0)]),(3,.row 9 1 (ks.map PD.str)),(8,.row 31 9 (vs.map Val.enc))],900⟩) (fun k=>ks.length-k) (0) ⟨by omega,by simp⟩ ⟨qB (by simp),rfl,by simp,by simp⟩ ?_
 rintro k ⟨hk,hno⟩
 refine AW.seq (rgn [] [[],[],[],[],[1,3,5,6,7,12]] ?_)
 iterate 5 refine op1 tok ?_
 refine qA (cnd ?_ ?_)
 ·intro h12
  try simp at h12
  obtain ⟨x,hx⟩:∃ x,ks[k]?=some x:=⟨ks[k],by simp [h12]⟩
  refine AW.skip (AW.seq (AW.block (rgn [.str x] [[],[],[],[],[1,3,5,6,7,19],[],[1,3,5,6,7,21]] ?_)))
  iterate 7 refine op1 tok ?_ (hv:=by first | with_reducible exact True.intro | (first | (simp [hx]; done) | (simp [hx]; omega); done) | omega | simp | (simp +contextual; omega))
  refine qA (cnd ?_ ?_)
  ·intro h21
   try simp at h21
   subst h21
   have hm:x∈ks:=List.mem_of_getElem? hx
   have hi:ks.idxOf x=k:=by
    obtain ⟨h1,h2⟩:=List.getElem?_eq_some_iff.1 hx
    have h3:=List.take_append_drop k ks
    rw [← h3,List.idxOf_append,if_neg hno,List.drop_eq_getElem_cons h1,h2,List.idxOf_cons_self]
    simp; omega
   rw [if_pos hm,hi]
   obtain ⟨o,ho⟩:∃ o,vs[k]?=some o:=⟨vs[k]'(by omega),by simp⟩
   refine rgn [o.enc,v.enc] [[],[],[],[],[3,6,25,26],[3,6]] ?_
   iterate 6 refine op1 tok ?_ (hv:=by first | with_reducible exact True.intro | (first | omega | (simp [ho]; done) | (simp [ho,Val.cells,V.fitsL]; done); done) | omega | simp | (simp +contextual; omega))
   refine qA (rgn [] [[],[6]] ?_)
   iterate 2 refine op1 tok ?_
   refine qA ?_
   exact AW.ret wD
  intro h21
  try simp at h21
  have hno2:key ∉ ks.take (k+1):=by
   rw [List.take_add_one,hx]
   simp only [Option.toList_some,List.mem_append,List.mem_singleton,not_or]
   exact ⟨hno,fun e=>h21 e.symm⟩
  refine AW.skip (rgz [] [[],[],[1,3,5,6,7]] ?_)
  iterate 3 refine op1 tok ?_
  refine qA ?_
  exact ⟨k+1,⟨by omega,hno2⟩,by omega,qB (by simp),rfl,by simp,by simp⟩
 intro h12
 try simp at h12
 rw [List.take_of_length_le (by omega)] at hno
 rw [if_neg hno]
 refine AW.exit ?_
 simp
 refine rgn [.str key] [[],[],[],[],[3,5,6,32],[],[3,5,6]] ?_
 iterate 7 refine op1 tok ?_
 refine qA (rgn [v.enc] [[],[],[],[],[3,6,38],[],[3,6]] ?_)
 iterate 7 refine op1 tok ?_
 refine qA (rgn [] [[],[6]] ?_)
 iterate 2 refine op1 tok ?_
 refine qA ?_
 exact AW.ret wD
end Go.Proofs.YtdojfdaglbphlaaGreatDoor
