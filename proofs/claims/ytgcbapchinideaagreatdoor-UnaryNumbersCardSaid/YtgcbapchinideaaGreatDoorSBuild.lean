import Derived.Test.YtgcbapchinideaaGreatDoorSBuildA
import Derived.Test.YtgcbapchinideaaGreatDoorK2
namespace Go.Proofs.YtgcbapchinideaaGreatDoor
open Sy Go
set_option maxRecDepth 100000
set_option maxHeartbeats 4000000
set_option linter.unusedSimpArgs false
set_option linter.unusedVariables false
variable {G:qM}
@[simp] theorem zBB (a s:List UInt8):qI (a++s)=qI a++s.map fun b => .int .u8 b.toNat:=by simp [qI]
theorem qIB (bs:List UInt8) (c:UInt8) (hb:bs.length≤100000000000):AX Tryz.prog G 157 [.ptr 2 0,.p (.int .u8 c.toNat)] [(2,.vars 163 [.p .nilp,.ms 3]),(3,.row 5 1 (qI bs))] (.dead) [2] [(2,.vars 163 [.ptr 2 0,.ms 3]),(3,.row 5 1 (qI (bs++[c])))]:=by
 refine AX.introU tok 900 Tryz.func157 (by kernel_rfl) rfl rfl ?_
 simp only [Tryz.f157,qO,List.map_cons,List.map_nil]
 refine rgn [] [[0,1]] ?_
 refine op1 tok ?_
 refine qA (rgn [] [[]] ?_)
 refine op1 tok ?_
 refine zS ?_
 refine qH.stepK [0,1] (yQ rfl (qPZ bs) (by simp)) (by conv=>lhs; simp) rfl ?_
 refine qH.nil ?_
 refine rgn [.int .u8 c.toNat] [[],[],[],[],[1,7,11],[],[],[7,14],[],[],[17]] ?_
 iterate 11 refine op1 tok ?_
 refine qA (rgn [] [[]] ?_)
 refine op1 tok ?_
 refine qA ?_
 exact AW.ret yH
theorem qTY (bs s:List UInt8) (hb:bs.length≤100000000000) (hs:s.length≤100000000000):AX Tryz.prog G 149 [.ptr 2 0,.p (.str s)] [(2,.vars 163 [.p .nilp,.ms 3]),(3,.row 5 1 (qI bs))] (.dead) [2] [(2,.vars 163 [.ptr 2 0,.ms 3]),(3,.row 5 1 (qI (bs++s)))]:=by
 refine AX.introU tok 900 Tryz.func149 (by kernel_rfl) rfl rfl ?_
 simp only [Tryz.f149,qO,List.map_cons,List.map_nil]
 refine rgn [] [[],[0,1]] ?_
 iterate 2 refine op1 tok ?_
 refine qA (rgn [] [[]] ?_)
 refine op1 tok ?_
 refine zS ?_
 refine qH.stepK [0,1] (yQ rfl (qPZ bs) (by simp)) (by conv=>lhs; simp) rfl ?_
 refine qH.nil ?_
 refine rgn [] [[],[],[],[],[1,8,12],[],[],[],[1,14,16],[1]] ?_
 iterate 10 refine op1 tok ?_
 refine qA (rgn [] [[],[],[],[4,5]] ?_)
 iterate 4 refine op1 tok ?_
 refine qA ?_
 exact AW.ret yH
theorem kL (bs:List UInt8) (c:UInt8) (hb:bs.length≤100000000000):AX Tryz.prog G 157 [.ptr 2 0,.p (.int .u8 c.toNat)] [(2,.vars 163 [.ptr 2 0,.ms 3]),(3,.row 5 1 (qI bs))] (.dead) [2] [(2,.vars 163 [.ptr 2 0,.ms 3]),(3,.row 5 1 (qI (bs++[c])))]:=by
 refine AX.introU tok 900 Tryz.func157 (by kernel_rfl) rfl rfl ?_
 simp only [Tryz.f157,qO,List.map_cons,List.map_nil]
 refine rgn [] [[0,1]] ?_
 refine op1 tok ?_
 refine qA (rgn [] [[]] ?_)
 refine op1 tok ?_
 refine zS ?_
 refine qH.stepK [0,1] (yQ rfl (qWQ bs) (by simp)) (by conv=>lhs; simp) rfl ?_
 refine qH.nil ?_
 refine rgn [.int .u8 c.toNat] [[],[],[],[],[1,7,11],[],[],[7,14],[],[],[17]] ?_
 iterate 11 refine op1 tok ?_
 refine qA (rgn [] [[]] ?_)
 refine op1 tok ?_
 refine qA ?_
 exact AW.ret yH
theorem kK (bs s:List UInt8) (hb:bs.length≤100000000000) (hs:s.length≤100000000000):AX Tryz.prog G 149 [.ptr 2 0,.p (.str s)] [(2,.vars 163 [.ptr 2 0,.ms 3]),(3,.row 5 1 (qI bs))] (.dead) [2] [(2,.vars 163 [.ptr 2 0,.ms 3]),(3,.row 5 1 (qI (bs++s)))]:=by
 refine AX.introU tok 900 Tryz.func149 (by kernel_rfl) rfl rfl ?_
 simp only [Tryz.f149,qO,List.map_cons,List.map_nil]
 refine rgn [] [[],[0,1]] ?_
 iterate 2 refine op1 tok ?_
 refine qA (rgn [] [[]] ?_)
 refine op1 tok ?_
 refine zS ?_
 refine qH.stepK [0,1] (yQ rfl (qWQ bs) (by simp)) (by conv=>lhs; simp) rfl ?_
 refine qH.nil ?_
 refine rgn [] [[],[],[],[],[1,8,12],[],[],[],[1,14,16],[1]] ?_
 iterate 10 refine op1 tok ?_
 refine qA (rgn [] [[],[],[],[4,5]] ?_)
 iterate 4 refine op1 tok ?_
 refine qA ?_
 exact AW.ret yH
@[simp] theorem zBA:qI []=[]:=rfl
theorem qTC (r:Int) (l:List Int) (h:Lib.encodeRuneZ r=l):qI (Lib.encodeRune r)=l.map (PD.int .u8):=by
 subst h
 simp only [qI,Lib.encodeRune,List.map_map]
 apply List.map_congr_left
 intro x hx
 obtain ⟨h0,h1⟩:=Lib.encodeRuneZ_byte r x hx
 simp [Function.comp]
 omega
theorem qKU {k:Nat} {n:Int} (h:0≤n∧n<k):∃ x:Fin k,n=x.val:=⟨⟨n.toNat,by omega⟩,by simp; omega⟩
theorem qZR (n:Int) (h:0≤n):IntKind.u8.wrap n=n % 256:=by simp [IntKind.wrap,IntKind.bits,IntKind.signed]
theorem qYS (n:Int) (h:0≤n∧n<32):IntKind.u8.wrap ↑(192 % 2 ^ IntKind.u8.bits ||| (IntKind.u8.wrap n % 2 ^ IntKind.u8.bits).toNat)=192+n:=by
 obtain ⟨x,rfl⟩:=qKU h; revert x; decide +kernel
theorem qRC (n:Int) (h:0≤n∧n<16):IntKind.u8.wrap ↑(224 % 2 ^ IntKind.u8.bits ||| (IntKind.u8.wrap n % 2 ^ IntKind.u8.bits).toNat)=224+n:=by
 obtain ⟨x,rfl⟩:=qKU h; revert x; decide +kernel
theorem qRB (n:Int) (h:0≤n∧n<8):IntKind.u8.wrap ↑(240 % 2 ^ IntKind.u8.bits ||| (IntKind.u8.wrap n % 2 ^ IntKind.u8.bits).toNat)=240+n:=by
 obtain ⟨x,rfl⟩:=qKU h; revert x; decide +kernel
theorem qYY:∀ x:Fin 256,IntKind.u8.wrap ↑(128 % 2 ^ IntKind.u8.bits ||| (IntKind.u8.wrap ↑((((x.val:Nat):Int) % 2 ^ IntKind.u8.bits).toNat &&& 63 % 2 ^ IntKind.u8.bits) % 2 ^ IntKind.u8.bits).toNat)=128+((x.val:Nat):Int) % 64:=by decide +kernel
theorem uX (n:Int) (h:0≤n):IntKind.u8.wrap ↑(128 % 2 ^ IntKind.u8.bits ||| (IntKind.u8.wrap ↑((IntKind.u8.wrap n % 2 ^ IntKind.u8.bits).toNat &&& 63 % 2 ^ IntKind.u8.bits) % 2 ^ IntKind.u8.bits).toNat)=128+n % 64:=by
 rw [qZR n h]
 obtain ⟨x,hx⟩:=qKU (k:=256) (n:=n % 256) (by omega)
 rw [hx,qYY x,← hx]
 omega
theorem qUN (r:Int):r.fdiv (2 ^ min 6 IntKind.i32.bits)=r / 64:=Int.fdiv_eq_ediv_of_nonneg _ (by decide)
theorem qMJ (r:Int):r.fdiv (2 ^ min 12 IntKind.i32.bits)=r / 4096:=Int.fdiv_eq_ediv_of_nonneg _ (by decide)
theorem qMI (r:Int):r.fdiv (2 ^ min 18 IntKind.i32.bits)=r / 262144:=Int.fdiv_eq_ediv_of_nonneg _ (by decide)
theorem qLG (bs:List UInt8) (r:Int) (hb:bs.length≤100000000000) (h0:128≤r) (h1:r≤1114111) (h2:r<55296∨57343<r):AX Tryz.prog G 227 [.ms 3,.p (.int .i32 r)] [(3,.row 5 1 (qI bs))] (.ms 3) [] [(3,.row 5 1 (qI bs++qI (Lib.encodeRune r)))]:=by
 refine AX.introU tok 900 Tryz.func227 (by kernel_rfl) rfl rfl ?_
 simp only [Tryz.f227,qO,List.map_cons,List.map_nil]
 have hw:IntKind.u32.wrap r=r:=by simp [IntKind.wrap,IntKind.bits,IntKind.signed]; omega
 refine rgn [] [[0,1]] ?_
 refine op1 tok ?_
 refine qA (rgn [] [[],[],[0,1,5]] ?_)
 iterate 3 refine op1 tok ?_
 refine qA (AW.block (rgn [] [[],[],[0,1,5,11]] ?_))
 iterate 3 refine op1 tok ?_
 refine qA (cnd ?_ ?_)
 ·intro h11
  try simp at h11
  rw [qTC r _ (Lib.encodeRuneZ_two (by omega) (by omega))]
  refine rgn [.int .u8 (192+r / 64),.int .u8 (128+r % 64)] [[],[],[],[],[1,14,18],[],[],[],[14,18,22],[],[24],[4]] ?_
  iterate 12 refine op1 tok ?_ (hv:=by first | with_reducible exact True.intro | (simp only [qUN,qMJ,qMI]; exact ⟨qYS _ (by omega),uX _ (by omega)⟩; done) | omega | simp | (simp +contextual; omega))
  refine qA ?_
  exact AW.ret yH
 intro h11
 try simp at h11
 refine AW.seq (rgn [] [[],[],[0,1,5,25]] ?_)
 iterate 3 refine op1 tok ?_
 refine qA (cnd ?_ ?_)
 ·intro h25
  try simp at h25
  refine AW.skip (cnd ?_ ?_)
  ·intro h25
   try simp at h25
   rw [qTC r _ (Lib.encodeRuneZ_three (by omega))]
   refine rgn [.int .u8 (224+r / 4096),.int .u8 (128+r / 64 % 64),.int .u8 (128+r % 64)] [[],[],[],[],[1,34,38],[],[],[],[],[1,34,38,43],[],[],[],[34,38,43,47],[],[49],[4]] ?_
   iterate 17 refine op1 tok ?_ (hv:=by first | with_reducible exact True.intro | (simp only [qUN,qMJ,qMI]; exact ⟨qRC _ (by omega),uX _ (by omega),uX _ (by omega)⟩; done) | omega | simp | (simp +contextual; omega))
   refine qA ?_
   exact AW.ret yH
  intro h25
  try simp at h25
  refine rgn [] [[],[],[],[],[0,1,53,55],[],[0,1,50]] ?_
  iterate 3 refine op1 tok ?_
  iterate 2 refine op2 tok ?_
  iterate 2 refine op1 tok ?_
  refine qA (cnd ?_ ?_)
  ·intro h50
   try simp at h50
   rw [qTC r _ (Lib.encodeRuneZ_four (by omega) (by omega))]
   refine rgn [.int .u8 (240+r / 262144),.int .u8 (128+r / 4096 % 64),.int .u8 (128+r / 64 % 64),.int .u8 (128+r % 64)] [[],[],[],[],[1,57,61],[],[],[],[],[1,57,61,66],[],[],[],[],[1,57,61,66,71],[],[],[],[57,61,66,71,75],[57,76],[],[4]] ?_
   iterate 22 refine op1 tok ?_ (hv:=by first | with_reducible exact True.intro | (simp only [qUN,qMJ,qMI]; exact ⟨qRB _ (by omega),uX _ (by omega),uX _ (by omega),uX _ (by omega)⟩; done) | omega | simp | (simp +contextual; omega))
   refine qA ?_
   exact AW.ret yH
  intro h50
  try simp at h50
  omega
 intro h25
 try simp at h25
 refine rgz [] [[],[],[],[],[],[0,1,5,33],[0,1,5,25]] ?_
 iterate 3 refine op1 tok ?_
 iterate 2 refine op2 tok ?_
 iterate 2 refine op1 tok ?_
 refine qA (cnd ?_ ?_)
 ·intro h25
  try simp at h25
  rw [qTC r _ (Lib.encodeRuneZ_three (by omega))]
  refine rgn [.int .u8 (224+r / 4096),.int .u8 (128+r / 64 % 64),.int .u8 (128+r % 64)] [[],[],[],[],[1,34,38],[],[],[],[],[1,34,38,43],[],[],[],[34,38,43,47],[],[49],[4]] ?_
  iterate 17 refine op1 tok ?_ (hv:=by first | with_reducible exact True.intro | (simp only [qUN,qMJ,qMI]; exact ⟨qRC _ (by omega),uX _ (by omega),uX _ (by omega)⟩; done) | omega | simp | (simp +contextual; omega))
  refine qA ?_
  exact AW.ret yH
 intro h25
 try simp at h25
 refine rgn [] [[],[],[],[],[0,1,53,55],[],[0,1,50]] ?_
 iterate 3 refine op1 tok ?_
 iterate 2 refine op2 tok ?_
 iterate 2 refine op1 tok ?_
 refine qA (cnd ?_ ?_)
 ·intro h50
  try simp at h50
  rw [qTC r _ (Lib.encodeRuneZ_four (by omega) (by omega))]
  refine rgn [.int .u8 (240+r / 262144),.int .u8 (128+r / 4096 % 64),.int .u8 (128+r / 64 % 64),.int .u8 (128+r % 64)] [[],[],[],[],[1,57,61],[],[],[],[],[1,57,61,66],[],[],[],[],[1,57,61,66,71],[],[],[],[57,61,66,71,75],[57,76],[],[4]] ?_
  iterate 22 refine op1 tok ?_ (hv:=by first | with_reducible exact True.intro | (simp only [qUN,qMJ,qMI]; exact ⟨qRB _ (by omega),uX _ (by omega),uX _ (by omega),uX _ (by omega)⟩; done) | omega | simp | (simp +contextual; omega))
  refine qA ?_
  exact AW.ret yH
 intro h50
 try simp at h50
 omega
theorem qAY (bs:List UInt8) (r:Int) (hb:bs.length≤100000000000) (h0:0≤r) (h1:r≤1114111) (h2:r<55296∨57343<r):AX Tryz.prog G 199 [.ms 3,.p (.int .i32 r)] [(3,.row 5 1 (qI bs))] (.ms 3) [] [(3,.row 5 1 (qI bs++qI (Lib.encodeRune r)))]:=by
 refine AX.introU tok 900 Tryz.func199 (by kernel_rfl) rfl rfl ?_
 simp only [Tryz.f199,qO,List.map_cons,List.map_nil]
 have hw:IntKind.u32.wrap r=r:=by simp [IntKind.wrap,IntKind.bits,IntKind.signed]; omega
 have hw8:=qZR r h0
 refine rgn [] [[0,1]] ?_
 refine op1 tok ?_
 refine qA (AW.seq (rgn [] [[],[],[0,1,7]] ?_))
 iterate 3 refine op1 tok ?_
 refine qA (cnd ?_ ?_)
 ·intro h7
  try simp at h7
  rw [qTC r _ (Lib.encodeRuneZ_one (by omega) (by omega))]
  refine rgn [.int .u8 r] [[],[],[],[8,11],[],[4]] ?_
  iterate 6 refine op1 tok ?_ (hv:=by first | with_reducible exact True.intro | ((rw [hw8]; omega); done) | omega | simp | (simp +contextual; omega))
  refine qA ?_
  exact AW.ret yH
 intro h7
 try simp at h7
 refine AW.skip (rgn [] [[],[]] ?_)
 iterate 2 refine op1 tok ?_
 refine zS ?_
 refine qH.stepK [15] (yQ rfl (qLG bs r hb (by omega) h1 h2) (by simp)) (by conv=>lhs; simp) rfl ?_
 refine qH.run [[4]] ?_
 refine op1 tok ?_
 refine qA ?_
 exact AW.ret yH
theorem qXR (bs:List UInt8) (r:Int) (hb:bs.length≤100000000000) (h0:0≤r) (h1:r≤1114111) (h2:r<55296∨57343<r):AX Tryz.prog G 158 [.ptr 2 0,.p (.int .i32 r)] [(2,.vars 163 [.p .nilp,.ms 3]),(3,.row 5 1 (qI bs))] (.dead) [2] [(2,.vars 163 [.ptr 2 0,.ms 3]),(3,.row 5 1 (qI bs++qI (Lib.encodeRune r)))]:=by
 refine AX.introU tok 900 Tryz.func158 (by kernel_rfl) rfl rfl ?_
 simp only [Tryz.f158,qO,List.map_cons,List.map_nil]
 have hel:(Lib.encodeRune r).length≤4:=by simp only [Lib.encodeRune,List.length_map]; exact (Lib.encodeRuneZ_length r).2
 refine rgn [] [[],[0,1]] ?_
 iterate 2 refine op1 tok ?_
 refine qA (rgn [] [[]] ?_)
 refine op1 tok ?_
 refine zS ?_
 refine qH.stepK [0,1] (yQ rfl (qPZ bs) (by simp)) (by conv=>lhs; simp) rfl ?_
 refine qH.nil ?_
 refine rgn [] [[],[],[],[],[0,1,13],[0,1,6]] ?_
 iterate 6 refine op1 tok ?_
 refine qA (rgn [] [[],[],[],[],[],[0,6,14,18,19]] ?_)
 iterate 6 refine op1 tok ?_
 refine zS ?_
 refine qH.stepK [0,6,14,20] (yQ rfl (qAY bs r hb h0 h1 h2) (by simp)) (by conv=>lhs; simp) rfl ?_
 refine qH.run [[],[],[0,6]] ?_
 iterate 3 refine op1 tok ?_
 refine qA (rgn [] [[],[],[],[6,26],[],[],[29],[],[4,5]] ?_)
 iterate 9 refine op1 tok ?_
 refine qA ?_
 exact AW.ret yH
theorem uB (bs:List UInt8) (r:Int) (hb:bs.length≤100000000000) (h0:0≤r) (h1:r≤1114111) (h2:r<55296∨57343<r):AX Tryz.prog G 158 [.ptr 2 0,.p (.int .i32 r)] [(2,.vars 163 [.ptr 2 0,.ms 3]),(3,.row 5 1 (qI bs))] (.dead) [2] [(2,.vars 163 [.ptr 2 0,.ms 3]),(3,.row 5 1 (qI bs++qI (Lib.encodeRune r)))]:=by
 refine AX.introU tok 900 Tryz.func158 (by kernel_rfl) rfl rfl ?_
 simp only [Tryz.f158,qO,List.map_cons,List.map_nil]
 have hel:(Lib.encodeRune r).length≤4:=by simp only [Lib.encodeRune,List.length_map]; exact (Lib.encodeRuneZ_length r).2
 refine rgn [] [[],[0,1]] ?_
 iterate 2 refine op1 tok ?_
 refine qA (rgn [] [[]] ?_)
 refine op1 tok ?_
 refine zS ?_
 refine qH.stepK [0,1] (yQ rfl (qWQ bs) (by simp)) (by conv=>lhs; simp) rfl ?_
 refine qH.nil ?_
 refine rgn [] [[],[],[],[],[0,1,13],[0,1,6]] ?_
 iterate 6 refine op1 tok ?_
 refine qA (rgn [] [[],[],[],[],[],[0,6,14,18,19]] ?_)
 iterate 6 refine op1 tok ?_
 refine zS ?_
 refine qH.stepK [0,6,14,20] (yQ rfl (qAY bs r hb h0 h1 h2) (by simp)) (by conv=>lhs; simp) rfl ?_
 refine qH.run [[],[],[0,6]] ?_
 iterate 3 refine op1 tok ?_
 refine qA (rgn [] [[],[],[],[6,26],[],[],[29],[],[4,5]] ?_)
 iterate 9 refine op1 tok ?_
 refine qA ?_
 exact AW.ret yH
end Go.Proofs.YtgcbapchinideaaGreatDoor
