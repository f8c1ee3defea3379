import Derived.Test.YtbhhphabggcacaaGreatDoorM4
import Derived.Test.YtbhhphabggcacaaGreatDoorM3
import Derived.Lib.ValidU
import Derived.Lib.LaidU8T
import Derived.Shelf.LaysC
import Derived.Shelf.Strconv.AtoiAll
import Derived.Test.YtbhhphabggcacaaGreatDoorProg
import Derived.Shelf.LaysM
import Derived.Shelf.Strconv.Itoa3
import Derived.Lib.ItoaLen
import Derived.Lib.AppendIntMem
import Derived.Lib.LaidU8
import Derived.LaidLaws
import Derived.Maps.RangeRun
import Derived.Lib.AppendZerosOnto
import Derived.Lib.Bytealg
namespace Go.Proofs.YtbhhphabggcacaaGreatDoor
open Sy Go
set_option maxRecDepth 100000
set_option linter.unusedSimpArgs false
set_option linter.unusedVariables false
structure Dc where
 neg:Bool
 digits:List UInt8
 scale:Int
 deriving DecidableEq
@[simp] def Dc.enc (d:Dc):PD := .agg [.bool d.neg,.str d.digits,.int .i64 d.scale]
inductive Val where
 | mk (kind mask:Int) (num:Dc) (text:List UInt8) (keys:List (List UInt8)) (kids:List Val) (code:Int)
def Val.kind:Val→Int
 | .mk k _ _ _ _ _ _=>k
def Val.mask:Val→Int
 | .mk _ m _ _ _ _ _=>m
def Val.num:Val→Dc
 | .mk _ _ n _ _ _ _=>n
def Val.text:Val→List UInt8
 | .mk _ _ _ t _ _ _=>t
def Val.keys:Val→List (List UInt8)
 | .mk _ _ _ _ ks _ _=>ks
def Val.kids:Val→List Val
 | .mk _ _ _ _ _ vs _=>vs
def Val.code:Val→Int
 | .mk _ _ _ _ _ _ c=>c
@[simp] theorem Val.kind_mk (k m:Int) (n:Dc) (t:List UInt8) (ks:List (List UInt8)) (vs:List Val) (c:Int):(Val.mk k m n t ks vs c).kind=k:=rfl
@[simp] theorem Val.mask_mk (k m:Int) (n:Dc) (t:List UInt8) (ks:List (List UInt8)) (vs:List Val) (c:Int):(Val.mk k m n t ks vs c).mask=m:=rfl
@[simp] theorem Val.num_mk (k m:Int) (n:Dc) (t:List UInt8) (ks:List (List UInt8)) (vs:List Val) (c:Int):(Val.mk k m n t ks vs c).num=n:=rfl
@[simp] theorem Val.text_mk (k m:Int) (n:Dc) (t:List UInt8) (ks:List (List UInt8)) (vs:List Val) (c:Int):(Val.mk k m n t ks vs c).text=t:=rfl
@[simp] theorem Val.keys_mk (k m:Int) (n:Dc) (t:List UInt8) (ks:List (List UInt8)) (vs:List Val) (c:Int):(Val.mk k m n t ks vs c).keys=ks:=rfl
@[simp] theorem Val.kids_mk (k m:Int) (n:Dc) (t:List UInt8) (ks:List (List UInt8)) (vs:List Val) (c:Int):(Val.mk k m n t ks vs c).kids=vs:=rfl
@[simp] theorem Val.code_mk (k m:Int) (n:Dc) (t:List UInt8) (ks:List (List UInt8)) (vs:List Val) (c:Int):(Val.mk k m n t ks vs c).code=c:=rfl
mutual
def Val.enc:Val→PD
 | .mk k m n t ks vs c => .agg [.int .i64 k,.int .u64 m,.bool n.neg,.str n.digits,.int .i64 n.scale,.str t,.sl 1 (ks.map PD.str),.sl 9 (Val.encL vs),.int .i64 c]
def Val.encL:List Val→List PD
 | []=>[]
 | v::vs=>Val.enc v::Val.encL vs
end
mutual
def Val.sz:Val→Nat
 | .mk _ _ _ _ _ vs _=>1+Val.szL vs
def Val.szL:List Val→Nat
 | []=>0
 | v::vs=>Val.sz v+Val.szL vs
end
theorem Val.ext {a b:Val} (h1:a.kind=b.kind) (h2:a.mask=b.mask) (h3:a.num=b.num) (h4:a.text=b.text) (h5:a.keys=b.keys) (h6:a.kids=b.kids) (h7:a.code=b.code):a=b:=by
 cases a; cases b; simp_all [Val.kind,Val.mask,Val.num,Val.text,Val.keys,Val.kids,Val.code]
theorem Dc.ext' {a b:Dc} (h1:a.neg=b.neg) (h2:a.digits=b.digits) (h3:a.scale=b.scale):a=b:=by cases a; cases b; simp_all
namespace Sy
variable {P:Program} {G:qS}
theorem AFn.of_calls {f : FuncId} {args : List PD} {r : PD} (hc : qAF P f) (h : ∀ (M : zE) (w : World) (vs : Array Value), GOK G M w → (∀ b o v, M b o = some v → w.cell? ⟨b, o, none⟩ = some v) → vs.size = args.length →
  (∀ (i:Nat) u d,vs[i]?=some u→args[i]?=some d→Rd M u d)→Calls P f vs w fun e w'=>∃ v,e = .returned v∧Rd M v r∧RowKit.Below w.heap.size w w'):AFn P G f args r:=by
 refine ⟨hc,fun M w vs hg hmem hsz hrd=>(h M w vs hg hmem hsz hrd).mono ?_⟩
 rintro e w' ⟨v,rfl,hv,hb⟩
 refine ⟨v,M,rfl,hv,fun b o u hu => ?_,fun _ _ _ h=>h,fun _ _ _=>rfl,hb⟩
 have h1:=hmem b o u hu
 exact (World.cell?_of_block (w:=w) (hb.block b (vO h1))).trans h1
theorem jR {f : FuncId} {fn : Func} {c : Code} (hf : P.funcs[f]? = some fn) (hn : (fn.name == "runtime.NumGoroutine") = false) (hb : fn.body = some c) : qAF P f := ⟨fn, c, hf, hn, hb⟩
theorem qZS {M:zE} {vs:Array Value} {s:List UInt8} (hsz:vs.size=1) (h:∀ (i:Nat) u d,vs[i]?=some u→[PD.str s][i]?=some d→Rd M u d):∃ b:ByteArray,vs = #[.string b]∧b.data.toList=s∧b.size≤maxLen:=by
 obtain ⟨l⟩:=vs
 match l,hsz with
 | [u],_ =>
  have:=h 0 u (.str s) rfl rfl
  cases this with
  | @str b _ hs hm=>exact ⟨b,rfl,hs,by rw [jP hs]; exact hm⟩
def qIS:List PD:=(List.range 256).map fun c => .int .u8 (Lib.firstT c)
def qXR:List PD:=(List.range 32).map fun i => .int .u8 (if i % 2=0 then Lib.accLo (i / 2) else Lib.accHi (i / 2))
def qVW (g3 g4:Nat) (G:qS):Prop:=G g3=some qIS∧G g4=some qXR
theorem zGT {g3 g4:Nat} {M:zE} {w:World} (hG:qVW g3 g4 G) (hg:GOK G M w) (hmem:∀ b o v,M b o=some v→w.cell? ⟨b,o,none⟩=some v):Lib.Utf8Tabs g3 g4 w:=by
 have key:∀ (g:Nat) (cs:List PD) (j:Nat) (n:Int),G g=some cs→cs[j]?=some (.int .u8 n)→w.cell? ⟨g,j,none⟩=some (.int .u8 n):=by
  intro g cs j n h1 h2
  obtain ⟨h3,h4⟩:=hg.1 g cs h1
  obtain ⟨u,hu,_⟩:=h3 j _ h2
  have:=h4 j _ u h2 hu
  cases this
  exact hmem _ _ _ hu
 refine ⟨fun c hc=>key _ _ _ _ hG.1 (by simp [qIS,hc]),fun i hi=>⟨key _ _ _ _ hG.2 ?_,key _ _ _ _ hG.2 ?_⟩⟩
 ·simp [qXR,show 2 * i<32 by omega]
 simp only [qXR,List.getElem?_map,List.getElem?_range (show 2 * i+1<32 by omega),Option.map_some]
 rw [if_neg (by omega),show (2 * i+1) / 2=i by omega]
def u8G (g3 g4:Nat):qS:=fun g=>if g=g3 then some qIS else if g=g4 then some qXR else none
theorem zGU {g3 g4:Nat} (h:g4≠g3):qVW g3 g4 (u8G g3 g4):=⟨by simp [u8G],by simp [u8G,h]⟩
theorem zKA {g3 g4:Nat} {W:World} (h:Lib.Utf8Tabs g3 g4 W) (hne:g4≠g3):GOK (u8G g3 g4) (jX W) W:=by
 have one : ∀ (g j : Nat) (cs : List PD), (∀ (j : Nat) d, cs[j]? = some d → ∃ n : Int, d = .int .u8 n ∧ 0 ≤ n ∧ n ≤ 255 ∧ W.cell? ⟨g, j, none⟩ = some (.int .u8 n)) →
   (∀ (j:Nat) d,cs[j]?=some d→∃ u,jX W g j=some u∧u.oneCell'=true)∧(∀ (j:Nat) d u,cs[j]?=some d→jX W g j=some u→Rd (jX W) u d):=by
  intro g _ cs hc
  refine ⟨fun j d hd => ?_,fun j d u hd hu => ?_⟩
  ·obtain ⟨n,rfl,_,_,h⟩:=hc j d hd; exact ⟨_,h,rfl⟩
  obtain ⟨n,rfl,h0,h1,h⟩:=hc j d hd
  have:some u=some (Value.int .u8 n):=hu.symm.trans h
  cases this
  exact .int (by rw [jN]; exact h0) (by rw [jC]; exact h1)
 have hft:∀ c,(0:Int)≤Lib.firstT c∧(Lib.firstT c:Int)≤255:=fun c=>by
  rcases Lib.firstT_cases c with h | h | h | h | h | h | h | h | h <;> rw [h] <;> omega
 have hno:GX (u8G g3 g4) W:=fun g cs hg ht=>by
  simp only [u8G] at hg
  split at hg
  ·cases hg; exact absurd ht (by rw [show qZF qIS=false from rfl]; simp)
  split at hg
  ·cases hg; exact absurd ht (by rw [show qZF qXR=false from rfl]; simp)
  cases hg
 refine ⟨?_,hno⟩
 intro g cs hg
 simp only [u8G] at hg
 split at hg
 ·rename_i e
  subst e
  cases hg
  refine one g 0 _ fun j d hd => ?_
  have hj:j<256:=by have:=(List.getElem?_eq_some_iff.1 hd).1; simpa [qIS] using this
  simp [qIS,hj] at hd
  exact ⟨_,hd.symm,(hft j).1,(hft j).2,h.1 j hj⟩
 split at hg
 ·rename_i _ e
  subst e
  cases hg
  refine one g 0 _ fun j d hd => ?_
  have hj:j<32:=by have:=(List.getElem?_eq_some_iff.1 hd).1; simpa [qXR] using this
  simp only [qXR,List.getElem?_map,List.getElem?_range hj,Option.map_some,Option.some.injEq] at hd
  have hb:=h.2 (j / 2) (by omega)
  have hacc:∀ i,i<16→(0:Int)≤Lib.accLo i∧(Lib.accLo i:Int)≤255∧(0:Int)≤Lib.accHi i∧(Lib.accHi i:Int)≤255:=by decide
  have hac:=hacc (j / 2) (by omega)
  by_cases h2:j % 2=0
  ·rw [if_pos h2] at hd
   exact ⟨_,hd.symm,hac.1,hac.2.1,by have:=hb.1; rwa [show 2 * (j / 2)=j by omega] at this⟩
  rw [if_neg h2] at hd
  exact ⟨_,hd.symm,hac.2.2.1,hac.2.2.2,by have:=hb.2; rwa [show 2 * (j / 2)+1=j by omega] at this⟩
 cases hg
end Sy
variable {G:qS}
abbrev U8 (G:qS):Prop:=qVW 1 2 G
end Go.Proofs.YtbhhphabggcacaaGreatDoor
namespace Go.Proofs
open Go.Shelf
def Tryz.laysC172_ren:Go.Shelf.Ren:=⟨fun | 172=>97 | 244=>125 | 245=>126 | 247=>141 | 279=>142 | 280=>143 | 281=>144 | 282=>145 | 287=>151 | 316=>152 | 171=>29 | 205=>153 | 321=>155 | 322=>156 | 243=>55 | 246=>81 | 283=>104 | 284=>105 | 285=>106 | 286=>107 | 129=>131 | 317=>130 | 318=>132 | 319=>133 | 320=>134 | 337=>147 | 338=>148 | n=>n,fun | 9=>9 | 3=>3 | 75=>88 | 76=>89 | 4=>4 | 5=>5 | 167=>157 | 37=>83 | 0=>0 | 85=>158 | 2=>2 | 168=>160 | 53=>136 | 175=>166 | 46=>94 | 210=>169 | 127=>117 | 145=>177 | 143=>175 | 21=>21 | 171=>135 | 173=>139 | 212=>153 | 51=>133 | 20=>20 | 213=>154 | 232=>172 | 233=>173 | 80=>91 | n=>n,fun | 15=>4 | 16=>5 | 17=>3 | 18=>6 | 19=>7 | n=>n⟩
theorem Tryz.laysC172:Go.Proofs.LaysC.n172 Tryz.prog Tryz.laysC172_ren:={
 mixed:=by kernel_rfl
 f129:=Tryz.func131.trans (congrArg some (by kernel_rfl))
 f171:=Tryz.func29.trans (congrArg some (by kernel_rfl))
 f172:=Tryz.func97.trans (congrArg some (by kernel_rfl))
 f205:=Tryz.func153.trans (congrArg some (by kernel_rfl))
 f243:=Tryz.func55.trans (congrArg some (by kernel_rfl))
 f244:=Tryz.func125.trans (congrArg some (by kernel_rfl))
 f245:=Tryz.func126.trans (congrArg some (by kernel_rfl))
 f246:=Tryz.func81.trans (congrArg some (by kernel_rfl))
 f247:=Tryz.func141.trans (congrArg some (by kernel_rfl))
 f279:=Tryz.func142.trans (congrArg some (by kernel_rfl))
 f280:=Tryz.func143.trans (congrArg some (by kernel_rfl))
 f281:=Tryz.func144.trans (congrArg some (by kernel_rfl))
 f282:=Tryz.func145.trans (congrArg some (by kernel_rfl))
 f283:=Tryz.func104.trans (congrArg some (by kernel_rfl))
 f284:=Tryz.func105.trans (congrArg some (by kernel_rfl))
 f285:=Tryz.func106.trans (congrArg some (by kernel_rfl))
 f286:=Tryz.func107.trans (congrArg some (by kernel_rfl))
 f287:=Tryz.func151.trans (congrArg some (by kernel_rfl))
 f316:=Tryz.func152.trans (congrArg some (by kernel_rfl))
 f317:=Tryz.func130.trans (congrArg some (by kernel_rfl))
 f318:=Tryz.func132.trans (congrArg some (by kernel_rfl))
 f319:=Tryz.func133.trans (congrArg some (by kernel_rfl))
 f320:=Tryz.func134.trans (congrArg some (by kernel_rfl))
 f321:=Tryz.func155.trans (congrArg some (by kernel_rfl))
 f322:=Tryz.func156.trans (congrArg some (by kernel_rfl))
 f337:=Tryz.func147.trans (congrArg some (by kernel_rfl))
 f338:=Tryz.func148.trans (congrArg some (by kernel_rfl))
 t0:=Tryz.underlying0
 a0:=Tryz.isAgg0
 z0:=Tryz.sizeOf0
 v0:=Tryz.zeroValue0
 t2:=Tryz.underlying2
 a2:=Tryz.isAgg2
 z2:=Tryz.sizeOf2
 v2:=Tryz.zeroValue2
 t3:=Tryz.underlying3
 a3:=Tryz.isAgg3
 z3:=Tryz.sizeOf3
 v3:=Tryz.zeroValue3
 t4:=Tryz.underlying4
 a4:=Tryz.isAgg4
 z4:=Tryz.sizeOf4
 v4:=Tryz.zeroValue4
 t5:=Tryz.underlying5
 a5:=Tryz.isAgg5
 z5:=Tryz.sizeOf5
 v5:=Tryz.zeroValue5
 t9:=Tryz.underlying9
 a9:=Tryz.isAgg9
 z9:=Tryz.sizeOf9
 v9:=Tryz.zeroValue9
 t20:=Tryz.underlying20
 a20:=Tryz.isAgg20
 z20:=Tryz.sizeOf20
 v20:=Tryz.zeroValue20
 t21:=Tryz.underlying21
 a21:=Tryz.isAgg21
 z21:=Tryz.sizeOf21
 v21:=Tryz.zeroValue21
 t37:=Tryz.underlying83
 a37:=Tryz.isAgg83
 z37:=Tryz.sizeOf83
 v37:=Tryz.zeroValue83
 t46:=Tryz.underlying94
 a46:=Tryz.isAgg94
 z46:=Tryz.sizeOf94
 v46:=Tryz.zeroValue94
 t51:=Tryz.underlying133
 a51:=Tryz.isAgg133
 z51:=Tryz.sizeOf133
 v51:=Tryz.zeroValue133
 t53:=Tryz.underlying136
 a53:=Tryz.isAgg136
 z53:=Tryz.sizeOf136
 v53:=Tryz.zeroValue136
 t75:=Tryz.underlying88
 a75:=Tryz.isAgg88
 z75:=Tryz.sizeOf88
 v75:=Tryz.zeroValue88
 t76:=Tryz.underlying89
 a76:=Tryz.isAgg89
 z76:=Tryz.sizeOf89
 v76:=Tryz.zeroValue89
 t85:=Tryz.underlying158
 a85:=Tryz.isAgg158
 z85:=Tryz.sizeOf158
 v85:=Tryz.zeroValue158
 t127:=Tryz.underlying117
 a127:=Tryz.isAgg117
 z127:=Tryz.sizeOf117
 v127:=Tryz.zeroValue117
 t143:=Tryz.underlying175
 a143:=Tryz.isAgg175
 z143:=Tryz.sizeOf175
 v143:=Tryz.zeroValue175
 t145:=Tryz.underlying177
 a145:=Tryz.isAgg177
 z145:=Tryz.sizeOf177
 v145:=Tryz.zeroValue177
 t167:=Tryz.underlying157
 a167:=Tryz.isAgg157
 z167:=Tryz.sizeOf157
 v167:=Tryz.zeroValue157
 t168:=Tryz.underlying160
 a168:=Tryz.isAgg160
 z168:=Tryz.sizeOf160
 v168:=Tryz.zeroValue160
 t171:=Tryz.underlying135
 a171:=Tryz.isAgg135
 z171:=Tryz.sizeOf135
 v171:=Tryz.zeroValue135
 t173:=Tryz.underlying139
 a173:=Tryz.isAgg139
 z173:=Tryz.sizeOf139
 v173:=Tryz.zeroValue139
 t175:=Tryz.underlying166
 a175:=Tryz.isAgg166
 z175:=Tryz.sizeOf166
 v175:=Tryz.zeroValue166
 t210:=Tryz.underlying169
 a210:=Tryz.isAgg169
 z210:=Tryz.sizeOf169
 v210:=Tryz.zeroValue169
 t212:=Tryz.underlying153
 a212:=Tryz.isAgg153
 z212:=Tryz.sizeOf153
 v212:=Tryz.zeroValue153
 t213:=Tryz.underlying154
 a213:=Tryz.isAgg154
 z213:=Tryz.sizeOf154
 t232:=Tryz.underlying172
 a232:=Tryz.isAgg172
 z232:=Tryz.sizeOf172
 v232:=Tryz.zeroValue172
 t233:=Tryz.underlying173
 a233:=Tryz.isAgg173
 z233:=Tryz.sizeOf173
 v233:=Tryz.zeroValue173
 g15:=by kernel_rfl
 g16:=by kernel_rfl
 g17:=by kernel_rfl
 g18:=by kernel_rfl
 g19:=by kernel_rfl
 t80:=Tryz.underlying91
 a80:=Tryz.isAgg91
 z80:=Tryz.sizeOf91
 v80:=Tryz.zeroValue91
 i0:=by kernel_rfl
 i2:=by kernel_rfl
 i3:=by kernel_rfl
 i4:=by kernel_rfl
 i5:=by kernel_rfl
 i9:=by kernel_rfl
 i20:=by kernel_rfl
 i21:=by kernel_rfl
 i37:=by kernel_rfl
 i46:=by kernel_rfl
 i51:=by kernel_rfl
 i53:=by kernel_rfl
 i75:=by kernel_rfl
 i76:=by kernel_rfl
 i80:=by kernel_rfl
 i85:=by kernel_rfl
 i127:=by kernel_rfl
 i143:=by kernel_rfl
 i145:=by kernel_rfl
 i167:=by kernel_rfl
 i168:=by kernel_rfl
 i171:=by kernel_rfl
 i173:=by kernel_rfl
 i175:=by kernel_rfl
 i210:=by kernel_rfl
 i212:=by kernel_rfl
 i232:=by kernel_rfl
 i233:=by kernel_rfl
 m15:=by kernel_rfl
 m16:=by kernel_rfl
 m17:=by kernel_rfl
 m18:=by kernel_rfl
 m19:=by kernel_rfl
 c0:=by kernel_rfl
 c2:=by kernel_rfl
 c3:=by kernel_rfl
 c4:=by kernel_rfl
 c5:=by kernel_rfl
 c9:=by kernel_rfl
 c20:=by kernel_rfl
 c21:=by kernel_rfl
 c37:=by kernel_rfl
 c46:=by kernel_rfl
 c51:=by kernel_rfl
 c53:=by kernel_rfl
 c75:=by kernel_rfl
 c76:=by kernel_rfl
 c80:=by kernel_rfl
 c85:=by kernel_rfl
 c127:=by kernel_rfl
 c143:=by kernel_rfl
 c145:=by kernel_rfl
 c167:=by kernel_rfl
 c168:=by kernel_rfl
 c171:=by kernel_rfl
 c173:=by kernel_rfl
 c175:=by kernel_rfl
 c210:=by kernel_rfl
 c212:=by kernel_rfl
 c213:=by kernel_rfl
 c232:=by kernel_rfl
 c233:=by kernel_rfl }
end Go.Proofs
namespace Go.Proofs.YtbhhphabggcacaaGreatDoor
open Sy Go
set_option linter.unusedVariables false
variable {G:qS}
def qXX (g1 g2:Nat) (G:qS):Prop:=G g1=some [.err]∧G g2=some [.err]
abbrev PE (G:qS):Prop:=qXX 4 5 G
def kX (s:List UInt8):Int × PD:=match Lib.atoiAll s with
 | .ok v=>(v,.noerr)
 | .range=>(Lib.atoiSat s,.err)
 | _=>(0,.err)
theorem qVI {g:Nat} {M:zE} {w:World} (hG:G g=some [.err]) (hg:GOK G M w) (hmem:∀ b o v,M b o=some v→w.cell? ⟨b,o,none⟩=some v):∃ t p,w.cell? ⟨g,0,none⟩=some (.iface t p):=by
 obtain ⟨h1,h2⟩:=hg.1 g _ hG
 obtain ⟨u,hu,_⟩:=h1 0 .err rfl
 have:=h2 0 .err u rfl hu
 cases this
 exact ⟨_,_,hmem _ _ _ hu⟩
theorem zJN (hE:PE G) (s:List UInt8) (hs:s.length≤281474976710656):AFn Tryz.prog G 97 [.str s] (.tup [.int .i64 (kX s).1,(kX s).2]):=by
 refine AFn.of_calls (jR Tryz.func97 (by kernel_rfl) rfl) fun M w vs hg hmem hsz hrd => ?_
 obtain ⟨b,rfl,hb,hm⟩:=qZS hsz hrd
 have hbs:b.size=s.length:=jP hb
 obtain ⟨t1,p1,hc1⟩:=qVI hE.1 hg hmem
 obtain ⟨t2,p2,hc2⟩:=qVI hE.2 hg hmem
 have two:∀ (u:Value) (v:Int) (d:PD),Rd M (.int .i64 v) (.int .i64 v)→Rd M u d→Rd M (.tuple #[.int .i64 v,u]) (.tup [.int .i64 v,d]):=by
  intro u v d h1 h2
  refine .tup rfl fun i x y hx hy => ?_
  match i with
  | 0=>simp at hx hy; subst hx; subst hy; exact h1
  | 1=>simp at hx hy; subst hx; subst hy; exact h2
  | i+2=>simp at hx
 have hsat:=Lib.atoiSat_bounds s
 rcases h:Lib.atoiAll s with v | _ | _
 ·have hv:=Lib.atoiAll_bounds h
  have ht:kX s=(v,.noerr):=by unfold kX; rw [h]
  rw [ht]
  refine (Any.strconv_Atoi_ok Tryz.laysC172 b (by omega) v (by rw [hb]; exact h) w).mono ?_
  rintro e w' ⟨rfl,hW⟩
  refine ⟨_,rfl,two _ _ _ (Rd.intOf (by simp only [kV]; omega) (by simp only [kW]; omega)) .noerr, ?_⟩
  rcases hW with rfl | ⟨t,rfl⟩
  ·exact RowKit.Below.refl _ _
  exact Lib.bytesWorld_below _ _ _
 ·have ht:kX s=(0,.err):=by unfold kX; rw [h]
  rw [ht]
  refine (Any.strconv_Atoi_syntax Tryz.laysC172 b (by omega) (by rw [hb]; exact h) _ w hc1 (.inr ⟨_,_,rfl⟩)).mono ?_
  rintro e w' ⟨N,rfl,_,_,hB⟩
  exact ⟨_,rfl,two _ _ _ (Rd.intOf (by simp [kV]) (by simp [kW])) .err,hB⟩
 have ht:kX s=(Lib.atoiSat s,.err):=by unfold kX; rw [h]
 rw [ht]
 refine (Any.strconv_Atoi_range Tryz.laysC172 b (by omega) (by rw [hb]; exact h) _ w hc2 (.inr ⟨_,_,rfl⟩)).mono ?_
 rintro e w' ⟨N,rfl,_,_,hB⟩
 rw [hb]
 exact ⟨_,rfl,two _ _ _ (Rd.intOf (by simp only [kV]; omega) (by simp only [kW]; omega)) .err,hB⟩
set_option maxRecDepth 100000
set_option linter.unusedSimpArgs false
structure Tok where
 kind:Int
 pos:Int
 text:List UInt8
 num:Dc
 deriving DecidableEq
@[simp] def Tok.pds (t:Tok):List PD:=[.int .i64 t.kind,.int .i64 t.pos,.str t.text,.bool t.num.neg,.str t.num.digits,.int .i64 t.num.scale]
@[simp] def Tok.enc (t:Tok):PD := .agg t.pds
@[simp] def Tok.cells (t:Tok):List V:=t.pds.map .p
def qAG:Tok:=⟨0,0,[],⟨false,[],0⟩⟩
structure Nd where
 op:Int
 n:Int
 text:List UInt8
 num:Dc
 keys:List (List UInt8)
 kids:List Int
 deriving DecidableEq
@[simp] def Nd.pds (x:Nd):List PD:=[.int .i64 x.op,.int .i64 x.n,.str x.text,.bool x.num.neg,.str x.num.digits,.int .i64 x.num.scale,.sl 1 (x.keys.map PD.str),.sl 1 (x.kids.map (PD.int .i64))]
@[simp] def Nd.enc (x:Nd):PD := .agg x.pds
@[simp] def Nd.cells (x:Nd):List V:=x.pds.map .p
structure PS where
 left:List Tok
 nodes:List Nd
 deep:Int
 bad:Bool
def wZ (s:PS):Tok:=if s.bad=true then qAG else s.left.headD qAG
def qP (f:Tok→Bool) (s:PS):(Tok × Bool) × PS :=
 if (wZ s).kind=0∨f (wZ s)=false then ((qAG,false),s) else ((wZ s,true),{ s with left:=s.left.drop 1 })
def qK (ok:Bool) (s:PS):PS:={ s with bad:=s.bad || !ok }
def wH (k:Int) (l:List (List UInt8)) (t:Tok):Bool:=decide (t.kind=k) && decide (t.text∈l)
def qT (k:Int) (l:List (List UInt8)) (s:PS):(List UInt8 × Bool) × PS :=
 (((qP (wH k l) s).1.1.text,(qP (wH k l) s).1.2),(qP (wH k l) s).2)
def zA (k:Int) (w:List UInt8) (s:PS):PS:=qK (qT k [w] s).1.2 (qT k [w] s).2
def zD (ks:List Int) (s:PS):Tok × PS :=
 ((qP (fun t=>decide (t.kind∈ks)) s).1.1,qK (qP (fun t=>decide (t.kind∈ks)) s).1.2 (qP (fun t=>decide (t.kind∈ks)) s).2)
def okD (d:Dc):Bool:=(match Lib.atoiAll d.digits with | .ok _=>true | _=>false) && decide (d.scale=0) && decide (d.digits.length≤3)
def wY (s:PS):Int × PS:=((kX (zD [4] s).1.num.digits).1,qK (okD (zD [4] s).1.num) (zD [4] s).2)
def wF (x:Nd) (s:PS):Int × PS:=((s.nodes.length:Nat),{ s with nodes:=s.nodes++[x] })
def opP (op:Int) (text:List UInt8) (kids:List Int) (s:PS):Int × PS:=wF ⟨op,0,text,⟨false,[],0⟩,[],kids⟩ s
def kY:List (List UInt8):=[[108,101,110,103,116,104],[107,101,121,115],[110,111,116],[116,121,112,101],[115,111,114,116],[117,110,105,113,117,101],[114,101,118,101,114,115,101],[97,100,100],[109,105,110],[109,97,120],[102,108,111,111,114],[99,101,105,108],[114,111,117,110,100],[116,111,106,115,111,110],[116,111,115,116,114,105,110,103],[116,111,110,117,109,98,101,114],[97,110,121],[97,108,108],[101,110,116,114,105,101,115]]
def jS:List (List UInt8):=[[104,97,115],[116,101,115,116],[115,116,97,114,116,115],[101,110,100,115],[106,111,105,110],[115,112,108,105,116]]
def kS (w:List UInt8):Int:=if w∈kY then 1 else if w∈jS then 2 else 0
def jG (w:List UInt8) (s:PS):Int × PS :=
 if kS w=0 then wF ⟨18,0,w,⟨false,[],0⟩,[],[]⟩ (qK false s)
 else if kS w=2 then
  wF ⟨18,0,w,⟨false,[],0⟩,[(zD [5] (zA 6 [40] s)).1.text],[]⟩ (zA 6 [41] (zD [5] (zA 6 [40] s)).2)
 else wF ⟨18,0,w,⟨false,[],0⟩,[],[]⟩ s
def yU (i:Nat):Int:=if i=0 then 8 else 11
def lvK (i:Nat):Int:=if i=1∨i=2 then 1 else 6
def zI (i:Nat):List (List UInt8):=match i with
 | 0=>[[44]]
 | 1=>[[111,114]]
 | 2=>[[97,110,100]]
 | 3=>[[61,61],[33,61],[60],[60,61],[62],[62,61]]
 | 4=>[[43],[45]]
 | _=>[[42],[47],[37]]
def uD (i:Nat):Bool:=decide (i=3)
def upP (by_:Int) (s:PS):PS:=qK (decide (s.deep+by_≤60)) { s with deep:=s.deep+by_ }
def yN (by_:Int) (s:PS):PS:={ s with deep:=s.deep-by_ }
mutual
def zF:Nat→PS→Int × PS
 | 0,s=>(0,qK false s)
 | n+1,s =>
  let a:=qL n 0 s
  let r:=qT 6 [[124]] a.2
  if r.1.2=true then
   let b:=zF n r.2
   opP 7 [] [a.1,b.1] b.2
  else
   let q:=qT 1 [[97,115]] r.2
   if q.1.2=true then
    let x:=zD [2] q.2
    let b:=qW n 0 (zA 6 [124] x.2)
    opP 16 x.1.text [a.1,b.1] b.2
   else (a.1,q.2)
def qW:Nat→Int→PS→Int × PS
 | 0,_,s=>(0,qK false s)
 | n+1,by_,s =>
  if (upP by_ s).bad=true then (0,upP by_ s) else
   let a:=zF n (upP by_ s)
   (a.1,yN by_ a.2)
def qQ:Nat→List UInt8→PS→Int × PS
 | 0,_,s=>(0,qK false s)
 | n+1,w,s =>
  let a:=qW n 1 s
  (a.1,zA 6 w a.2)
def zB:Nat→PS→Int × PS
 | 0,s=>(0,qK false s)
 | n+1,s=>qQ n [41] (zA 6 [40] s)
def qL:Nat→Nat→PS→Int × PS
 | 0,_,s=>(0,qK false s)
 | n+1,i,s =>
  if i=6 then wQ n s else
   let a:=qL n (i+1) s
   wO n i a.1 a.2
def wO:Nat→Nat→Int→PS→Int × PS
 | 0,_,a,s=>(a,qK false s)
 | n+1,i,a,s =>
  if s.bad=true then (a,s) else
   let r:=qT (lvK i) (zI i) s
   if r.1.2=false then (a,r.2) else
    let b:=qL n (i+1) r.2
    let c:=opP (yU i) (if yU i=8 then [] else r.1.1) [a,b.1] b.2
    if uD i=true then c else wO n i c.1 c.2
def wQ:Nat→PS→Int × PS
 | 0,s=>(0,qK false s)
 | n+1,s =>
  let a:=zM n s
  zW n a.1 a.2
def zW:Nat→Int→PS→Int × PS
 | 0,a,s=>(a,qK false s)
 | n+1,a,s =>
  if s.bad=true then (a,s) else
   let r:=qP (fun t=>decide (t.kind=3)) s
   if r.1.2=true then
    let c:=opP 4 r.1.1.text [a] r.2
    zW n c.1 c.2
   else
    let r:=qT 6 [[91]] r.2
    if r.1.2=false then (a,r.2) else
     let q:=qT 6 [[93]] r.2
     if q.1.2=true then
      let c:=opP 6 [] [a] q.2
      zW n c.1 c.2
     else
      let m:=qT 6 [[45]] q.2
      let w:=wY m.2
      let c:=wF ⟨5,(if m.1.2=true then-w.1 else w.1),[],⟨false,[],0⟩,[],[a]⟩ (zA 6 [93] w.2)
      zW n c.1 c.2
def zM:Nat→PS→Int × PS
 | 0,s=>(0,qK false s)
 | n+1,s =>
  let r:=qP (fun _=>true) s
  let s1:=qK r.1.2 r.2
  if r.1.1.kind=1 then zS n r.1.1.text s1
  else if r.1.1.kind=2 then opP 3 r.1.1.text [] s1
  else if r.1.1.kind=3 then
   let d:=opP 1 [] [] s1
   opP 4 r.1.1.text [d.1] d.2
  else if r.1.1.kind=4 then wF ⟨2,4,[],r.1.1.num,[],[]⟩ s1
  else if r.1.1.kind=5 then wF ⟨2,5,r.1.1.text,⟨false,[],0⟩,[],[]⟩ s1
  else zJ n r.1.1.text s1
def zS:Nat→List UInt8→PS→Int × PS
 | 0,_,s=>(0,qK false s)
 | n+1,w,s =>
  if w=[110,117,108,108] then wF ⟨2,1,[],⟨false,[],0⟩,[],[]⟩ s
  else if w=[116,114,117,101] then wF ⟨2,3,[],⟨false,[],0⟩,[],[]⟩ s
  else if w=[102,97,108,115,101] then wF ⟨2,2,[],⟨false,[],0⟩,[],[]⟩ s
  else if w=[101,109,112,116,121] then opP 19 [] [] s
  else if w=[105,102] then wB n s
  else if w=[116,114,121] then
   let k:=wQ n s
   opP 13 [] [k.1] k.2
  else if w=[115,101,97,108] then
   let k:=zB n s
   opP 14 [] [k.1] k.2
  else if w=[101,114,114,111,114] then
   let k:=zB n s
   opP 20 [] [k.1] k.2
  else if w=[114,101,100,117,99,101] then zY n s
  else if w=[108,105,109,105,116] then wV n s
  else if w=[102,105,114,115,116] then
   let k:=zB n s
   wF ⟨17,1,[],⟨false,[],0⟩,[],[k.1]⟩ k.2
  else if w=[109,97,112] then kC n s
  else if w=[115,101,108,101,99,116] then zO n s
  else jG w s
def wB:Nat→PS→Int × PS
 | 0,s=>(0,qK false s)
 | n+1,s =>
  let a:=qW n 0 { s with deep:=s.deep+1 }
  let b:=qW n 0 (zA 1 [116,104,101,110] a.2)
  let c:=qW n 0 (zA 1 [101,108,115,101] b.2)
  opP 12 [] [a.1,b.1,c.1] (yN 1 (zA 1 [101,110,100] c.2))
def zY:Nat→PS→Int × PS
 | 0,s=>(0,qK false s)
 | n+1,s =>
  let a:=wQ n s
  let x:=zD [2] (zA 1 [97,115] a.2)
  let b:=qQ n [59] (zA 6 [40] x.2)
  let c:=qQ n [41] b.2
  opP 15 x.1.text [a.1,b.1,c.1] c.2
def wV:Nat→PS→Int × PS
 | 0,s=>(0,qK false s)
 | n+1,s =>
  let w:=wY (zA 6 [40] s)
  let k:=qQ n [41] (zA 6 [59] w.2)
  wF ⟨17,w.1,[],⟨false,[],0⟩,[],[k.1]⟩ k.2
def kC:Nat→PS→Int × PS
 | 0,s=>(0,qK false s)
 | n+1,s =>
  let d:=opP 1 [] [] s
  let e:=opP 6 [] [d.1] d.2
  let k:=zB n e.2
  let x:=opP 7 [] [e.1,k.1] k.2
  opP 9 [] [x.1] x.2
def zO:Nat→PS→Int × PS
 | 0,s=>(0,qK false s)
 | n+1,s =>
  let k:=zB n s
  let d:=opP 1 [] [] k.2
  let e:=opP 19 [] [] d.2
  opP 12 [] [k.1,d.1,e.1] e.2
def zJ:Nat→List UInt8→PS→Int × PS
 | 0,_,s=>(0,qK false s)
 | n+1,w,s =>
  if w=[46] then opP 1 [] [] s
  else if w=[45] then
   let t:=zD [4] s
   wF ⟨2,4,[],⟨decide (t.1.num.digits≠[48]),t.1.num.digits,t.1.num.scale⟩,[],[]⟩ t.2
  else if w=[40] then qQ n [41] s
  else if w=[91] then
   let r:=qT 6 [[93]] s
   if r.1.2=true then opP 9 [] [] r.2 else
    let k:=qQ n [93] r.2
    opP 9 [] [k.1] k.2
  else if w=[123] then zZ n s
  else (0,qK false s)
def zZ:Nat→PS→Int × PS
 | 0,s=>(0,qK false s)
 | n+1,s =>
  let r:=qT 6 [[125]] s
  if r.1.2=true then wF ⟨10,0,[],⟨false,[],0⟩,[],[]⟩ r.2 else
   let o:=wG n [] [] (upP 1 r.2)
   wF ⟨10,0,[],⟨false,[],0⟩,o.1.1,o.1.2⟩ (yN 1 o.2)
def wG:Nat→List (List UInt8)→List Int→PS→(List (List UInt8) × List Int) × PS
 | 0,ks,vs,s=>((ks,vs),qK false s)
 | n+1,ks,vs,s =>
  if s.bad=true then ((ks,vs),s) else
   let t:=zD [1,5] s
   let s2:=qK (decide (t.1.text ∉ ks)) (zA 6 [58] t.2)
   if s2.bad=true then ((ks,vs),s2) else
    let k:=qL n 1 s2
    let r:=qT 6 [[125],[44]] k.2
    if r.1.1=[125] then ((ks++[t.1.text],vs++[k.1]),qK r.1.2 r.2)
    else wG n (ks++[t.1.text]) (vs++[k.1]) (qK r.1.2 r.2)
end
def vN (l:List Tok):List Nd × Int :=
 let s:=(zF (20 * l.length+20) ⟨l,[],0,false⟩).2
 if s.bad=true∨s.left≠[] then ([],31) else if 400<s.nodes.length then ([],3) else (s.nodes,0)
set_option maxHeartbeats 1000000
structure Le (c d:Nat) (s s':PS):Prop where
 suf:s'.left <:+ s.left
 pre:s.nodes <+: s'.nodes
 d0:s.deep≤s'.deep
 d1:s'.deep+2 * s'.left.length≤s.deep+2 * s.left.length+c
 n0:s'.nodes.length+4 * s'.left.length≤s.nodes.length+4 * s.left.length+d
 b0:s.bad=true→s'.bad=true
theorem Le.len {c d:Nat} {s s':PS} (h:Le c d s s'):s'.left.length≤s.left.length:=h.suf.length_le
theorem Le.refl (s:PS):Le 0 0 s s:=⟨List.suffix_refl _,List.prefix_refl _,Int.le_refl _,by omega,by omega,id⟩
theorem Le.trans {c d c' d':Nat} {s t u:PS} (h:Le c d s t) (g:Le c' d' t u):Le (c+c') (d+d') s u :=
 ⟨g.suf.trans h.suf,h.pre.trans g.pre,Int.le_trans h.d0 g.d0,by have:=h.d1; have:=g.d1; omega,by have:=h.n0; have:=g.n0; omega,fun x=>g.b0 (h.b0 x)⟩
theorem Le.mono {c d c' d':Nat} {s t:PS} (h:Le c d s t) (hc:c≤c') (hd:d≤d'):Le c' d' s t :=
 ⟨h.suf,h.pre,h.d0,by have:=h.d1; omega,by have:=h.n0; omega,h.b0⟩
theorem Le.eat {c d c' d':Nat} {s t u:PS} (h:Le c d s t) (hl:t.left.length+1≤s.left.length) (hd:t.deep=s.deep) (hn:t.nodes=s.nodes) (g:Le c' d' t u) (hc:c'≤2) (hd':d'≤4):Le 0 0 s u :=
 ⟨g.suf.trans h.suf,h.pre.trans g.pre,by rw [← hd]; exact g.d0,by have:=g.d1; omega,by have:=g.n0; rw [hn] at this; omega,fun x=>g.b0 (h.b0 x)⟩
theorem jK {p:Prop} [Decidable p] {c d:Nat} {s:PS} {a b:Int × PS} (ha:Le c d s a.2) (hb:Le c d s b.2):Le c d s (if p then a else b).2:=by split <;> assumption
theorem kB (ok:Bool) (s:PS):Le 0 0 s (qK ok s):=⟨List.suffix_refl _,List.prefix_refl _,Int.le_refl _,by simp [qK],by simp [qK],fun h=>by simp [qK,h]⟩
theorem qEI (f:Tok→Bool) (s:PS):Le 0 0 s (qP f s).2:=by
 unfold qP
 split
 ·exact Le.refl s
 exact ⟨List.drop_suffix _ _,List.prefix_refl _,Int.le_refl _,by simp <;> omega,by simp <;> omega,id⟩
theorem uI {f:Tok→Bool} {s:PS} (h:(qP f s).1.2=true):(qP f s).2.left.length+1=s.left.length∧(qP f s).2.deep=s.deep∧(qP f s).2.nodes=s.nodes∧s.bad=false∧(qP f s).2.bad=false∧s.left=(qP f s).1.1::(qP f s).2.left∧f (qP f s).1.1=true:=by
 unfold qP at h ⊢
 split at h
 ·cases h
 rename_i c
 rw [if_neg c]
 simp only [not_or] at c
 obtain ⟨c1,c2⟩:=c
 unfold wZ at c1 c2 ⊢
 cases hb:s.bad with
 | true=>rw [hb] at c1; exact absurd rfl c1
 | false =>
  rw [hb] at c1 c2
  cases hl:s.left with
  | nil=>rw [hl] at c1; exact absurd rfl c1
  | cons t l=>rw [hl] at c2; refine ⟨by simp,rfl,rfl,rfl,rfl,by simp,by simpa using c2⟩
theorem qRG {f:Tok→Bool} {s:PS} (h:(qP f s).1.2=false):qP f s=((qAG,false),s):=by
 unfold qP at h ⊢
 split at h
 ·rename_i c; rw [if_pos c]
 cases h
theorem zP (k:Int) (l:List (List UInt8)) (s:PS):Le 0 0 s (qT k l s).2:=qEI _ _
theorem xH {k:Int} {l:List (List UInt8)} {s:PS} (h:(qT k l s).1.2=true):(qT k l s).2.left.length+1=s.left.length∧(qT k l s).2.deep=s.deep∧(qT k l s).2.nodes=s.nodes∧s.bad=false∧(qT k l s).2.bad=false:=by
 have:=uI h; exact ⟨this.1,this.2.1,this.2.2.1,this.2.2.2.1,this.2.2.2.2.1⟩
theorem qU (k:Int) (w:List UInt8) (s:PS):Le 0 0 s (zA k w s):=(zP k [w] s).trans (kB _ _)
theorem kK (ks:List Int) (s:PS):Le 0 0 s (zD ks s).2:=(qEI _ s).trans (kB _ _)
theorem uS (s:PS):Le 0 0 s (wY s).2:=(kK [4] s).trans (kB _ _)
theorem kP (x:Nd) (s:PS):Le 0 1 s (wF x s).2:=⟨List.suffix_refl _,List.prefix_append _ _,Int.le_refl _,by simp [wF],by simp [wF]; omega,id⟩
theorem wW (o:Int) (t:List UInt8) (l:List Int) (s:PS):Le 0 1 s (opP o t l s).2:=kP _ s
theorem zIY (w:List UInt8) (s:PS):Le 0 1 s (jG w s).2:=by
 unfold jG
 split
 ·exact (kB _ _).trans (kP _ _)
 split
 ·exact (((qU _ _ _).trans (kK _ _)).trans (qU _ _ _)).trans (kP _ _)
 exact kP _ _
theorem zMB (s:PS) {b:Int} (h:0≤b) {c:Nat} (hc:b≤c):Le c 0 s (upP b s):=⟨List.suffix_refl _,List.prefix_refl _,by simp [upP,qK]; omega,by simp [upP,qK]; omega,by simp [upP,qK],fun h=>by simp [upP,qK,h]⟩
theorem qRU {s t u:PS} {b:Int} {c d:Nat} (h0:t.left=s.left) (h1:t.nodes=s.nodes) (h2:t.deep=s.deep+b) (h3:s.bad=true→t.bad=true) (g:Le c d t u):Le c d s (yN b u) :=
 ⟨h0 ▸ g.suf,h1 ▸ g.pre,by have:=g.d0; simp [yN]; omega,by have:=g.d1; rw [h0] at this; simp [yN]; omega,by have:=g.n0; rw [h0,h1] at this; exact this,fun x=>g.b0 (h3 x)⟩
structure MonoAll (n:Nat):Prop where
 pipe:∀ s,Le 0 0 s (zF n s).2
 deeper:∀ b s,0≤b→Le b.toNat 0 s (qW n b s).2
 closed:∀ w s,Le 1 0 s (qQ n w s).2
 inside:∀ s,Le 1 0 s (zB n s).2
 bound:∀ i s,Le 0 0 s (qL n i s).2
 bloop:∀ i a s,Le 0 0 s (wO n i a s).2
 post:∀ s,Le 0 0 s (wQ n s).2
 ploop:∀ a s,Le 0 0 s (zW n a s).2
 term:∀ s,Le 0 0 s (zM n s).2
 named:∀ w s,Le 2 4 s (zS n w s).2
 choice:∀ s,Le 0 1 s (wB n s).2
 reduce:∀ s,Le 2 1 s (zY n s).2
 limit:∀ s,Le 1 1 s (wV n s).2
 maps:∀ s,Le 1 4 s (kC n s).2
 selects:∀ s,Le 1 3 s (zO n s).2
 signed:∀ w s,Le 1 1 s (zJ n w s).2
 object:∀ s,Le 0 1 s (zZ n s).2
 oloop:∀ ks vs s,Le 0 0 s (wG n ks vs s).2
theorem zAZ:MonoAll 0:=by
 constructor <;> intros <;> simp only [zF,qW,qQ,zB,qL,wO,wQ,zW,zM,zS,wB,zY,wV,kC,zO,zJ,zZ,wG] <;> exact (kB _ _).mono (Nat.zero_le _) (Nat.zero_le _)
theorem zK:∀ n,MonoAll n
 | 0=>zAZ
 | n+1=>by
  have ih:=zK n
  constructor
  ·intro s
   simp only [zF]
   have h1:=ih.bound 0 s
   have h2:=zP 6 [[124]] (qL n 0 s).2
   split
   ·rename_i c
    obtain ⟨e1,e2,e3, -⟩:=xH c
    exact h1.trans (h2.eat (by omega) e2 e3 ((ih.pipe _).trans (wW _ _ _ _)) (by omega) (by omega))
   have h3:=zP 1 [[97,115]] (qT 6 [[124]] (qL n 0 s).2).2
   split
   ·rename_i c
    obtain ⟨e1,e2,e3, -⟩:=xH c
    exact (h1.trans h2).trans (h3.eat (by omega) e2 e3 ((((kK _ _).trans (qU _ _ _)).trans (ih.deeper 0 _ (by omega))).trans (wW _ _ _ _)) (by simp) (by simp))
   exact (h1.trans h2).trans h3
  ·intro b s hb
   simp only [qW]
   split
   ·exact zMB s hb (by omega)
   refine (qRU (s:=s) (t:=upP b s) (b:=b) rfl rfl rfl ?_ (ih.pipe _)).mono (by omega) (by omega)
   intro h; simp [upP,qK,h]
  ·intro w s
   simp only [qQ]
   exact (ih.deeper 1 s (by omega)).trans (qU _ _ _)
  ·intro s
   simp only [zB]
   exact ((qU _ _ _).trans (ih.closed _ _)).mono (by omega) (by omega)
  ·intro i s
   simp only [qL]
   split
   ·exact ih.post s
   exact (ih.bound _ _).trans (ih.bloop _ _ _)
  ·intro i a s
   simp only [wO]
   split
   ·exact Le.refl s
   have h2:=zP (lvK i) (zI i) s
   split
   ·exact h2
   rename_i c
   obtain ⟨e1,e2,e3, -⟩:=xH (by simpa using c)
   have h3:=(ih.bound (i+1) (qT (lvK i) (zI i) s).2).trans (wW (yU i) (if yU i=8 then [] else (qT (lvK i) (zI i) s).1.1) [a,(qL n (i+1) (qT (lvK i) (zI i) s).2).1] _)
   split
   ·exact h2.eat (by omega) e2 e3 h3 (by omega) (by omega)
   exact h2.eat (by omega) e2 e3 (h3.trans (ih.bloop _ _ _)) (by omega) (by omega)
  ·intro s
   simp only [wQ]
   exact (ih.term _).trans (ih.ploop _ _)
  ·intro a s
   simp only [zW]
   split
   ·exact Le.refl s
   have h2:=qEI (fun t=>decide (t.kind=3)) s
   split
   ·rename_i c
    obtain ⟨e1,e2,e3, -⟩:=uI c
    exact h2.eat (by omega) e2 e3 ((wW _ _ _ _).trans (ih.ploop _ _)) (by omega) (by omega)
   have h3:=zP 6 [[91]] (qP (fun t=>decide (t.kind=3)) s).2
   split
   ·exact h2.trans h3
   rename_i c
   obtain ⟨e1,e2,e3, -⟩:=xH (by simpa using c)
   refine h2.trans (h3.eat (by omega) e2 e3 (c':=0) (d':=1) ?_ (by omega) (by omega))
   split
   ·exact (((zP _ _ _).trans (wW _ _ _ _)).trans (ih.ploop _ _)).mono (by omega) (by omega)
   exact ((((((zP _ _ _).trans (zP _ _ _)).trans (uS _)).trans (qU _ _ _)).trans (kP _ _)).trans (ih.ploop _ _)).mono (by omega) (by omega)
  ·intro s
   simp only [zM]
   have h2:=qEI (fun _=>true) s
   by_cases c:(qP (fun _=>true) s).1.2=true
   ·obtain ⟨e1,e2,e3, -⟩:=uI c
    refine h2.eat (by omega) e2 e3 (c':=2) (d':=4) (Le.mono ((kB (qP (fun _=>true) s).1.2 _).trans (c':=2) (d':=4) ?_) (by omega) (by omega)) (by omega) (by omega)
    split
    ·exact (ih.named _ _).mono (by omega) (by omega)
    split
    ·exact (wW _ _ _ _).mono (by omega) (by omega)
    split
    ·exact ((wW _ _ _ _).trans (wW _ _ _ _)).mono (by omega) (by omega)
    split
    ·exact (kP _ _).mono (by omega) (by omega)
    split
    ·exact (kP _ _).mono (by omega) (by omega)
    exact (ih.signed _ _).mono (by omega) (by omega)
   have e:=qRG (by simpa using c)
   have hk:(qP (fun _=>true) s).1.1.kind=0:=by rw [e]; rfl
   have ht:(qP (fun _=>true) s).1.1.text=[]:=by rw [e]; rfl
   have hs:qK (qP (fun _=>true) s).1.2 (qP (fun _=>true) s).2=qK false s:=by rw [e]
   rw [hk,ht,hs,if_neg (by decide),if_neg (by decide),if_neg (by decide),if_neg (by decide),if_neg (by decide)]
   cases n with
   | zero=>simp only [zJ]; exact (kB _ _).trans (kB _ _)
   | succ n =>
    simp only [zJ]
    rw [if_neg (by decide),if_neg (by decide),if_neg (by decide),if_neg (by decide),if_neg (by decide)]
    exact (kB _ _).trans (kB _ _)
  ·intro w s
   simp only [zS]
   refine jK (Le.mono (kP _ _) (by omega) (by omega)) ?_
   refine jK (Le.mono (kP _ _) (by omega) (by omega)) ?_
   refine jK (Le.mono (kP _ _) (by omega) (by omega)) ?_
   refine jK (Le.mono (wW _ _ _ _) (by omega) (by omega)) ?_
   refine jK (Le.mono (ih.choice _) (by omega) (by omega)) ?_
   refine jK (Le.mono ((ih.post _).trans (wW _ _ _ _)) (by omega) (by omega)) ?_
   refine jK (Le.mono ((ih.inside _).trans (wW _ _ _ _)) (by omega) (by omega)) ?_
   refine jK (Le.mono ((ih.inside _).trans (wW _ _ _ _)) (by omega) (by omega)) ?_
   refine jK (Le.mono (ih.reduce _) (by omega) (by omega)) ?_
   refine jK (Le.mono (ih.limit _) (by omega) (by omega)) ?_
   refine jK (Le.mono ((ih.inside _).trans (kP _ _)) (by omega) (by omega)) ?_
   refine jK (Le.mono (ih.maps _) (by omega) (by omega)) ?_
   refine jK (Le.mono (ih.selects _) (by omega) (by omega)) ?_
   exact (zIY _ _).mono (by omega) (by omega)
  ·intro s
   simp only [wB]
   have h:=((((((ih.deeper 0 { s with deep:=s.deep+1 } (by omega)).trans (qU 1 [116,104,101,110] _)).trans (ih.deeper 0 _ (by omega))).trans (qU 1 [101,108,115,101] _)).trans (ih.deeper 0 _ (by omega))).trans (qU 1 [101,110,100] _))
   exact ((qRU (s:=s) (t:={ s with deep:=s.deep+1 }) (b:=1) rfl rfl rfl id h).trans (wW _ _ _ _)).mono (by decide) (by decide)
  ·intro s
   simp only [zY]
   exact (((((((ih.post s).trans (qU _ _ _)).trans (kK _ _)).trans (qU _ _ _)).trans (ih.closed _ _)).trans (ih.closed _ _)).trans (wW _ _ _ _)).mono (by omega) (by omega)
  ·intro s
   simp only [wV]
   exact (((((qU _ _ s).trans (uS _)).trans (qU _ _ _)).trans (ih.closed _ _)).trans (kP _ _)).mono (by omega) (by omega)
  ·intro s
   simp only [kC]
   exact (((((wW _ _ _ s).trans (wW _ _ _ _)).trans (ih.inside _)).trans (wW _ _ _ _)).trans (wW _ _ _ _)).mono (by omega) (by omega)
  ·intro s
   simp only [zO]
   exact ((((ih.inside s).trans (wW _ _ _ _)).trans (wW _ _ _ _)).trans (wW _ _ _ _)).mono (by omega) (by omega)
  ·intro w s
   simp only [zJ]
   repeat' split
   ·exact (wW _ _ _ _).mono (by omega) (by omega)
   ·exact ((kK _ _).trans (kP _ _)).mono (by omega) (by omega)
   ·exact (ih.closed _ _).mono (by omega) (by omega)
   ·exact ((zP _ _ _).trans (wW _ _ _ _)).mono (by omega) (by omega)
   ·exact (((zP _ _ _).trans (ih.closed _ _)).trans (wW _ _ _ _)).mono (by omega) (by omega)
   ·exact (ih.object _).mono (by omega) (by omega)
   exact (kB _ _).mono (by omega) (by omega)
  ·intro s
   simp only [zZ]
   split
   ·exact ((zP _ _ _).trans (kP _ _)).mono (by omega) (by omega)
   refine ((zP 6 [[125]] s).trans ((qRU (s:=(qT 6 [[125]] s).2) (t:=upP 1 (qT 6 [[125]] s).2) (b:=1) rfl rfl rfl ?_ (ih.oloop [] [] _)).trans (kP _ _))).mono (by omega) (by omega)
   intro h; simp [upP,qK,h]
  intro ks vs s
  simp only [wG]
  have h2:=kK [1,5] s
  have h3:=h2.trans ((qU 6 [58] _).trans (kB (decide ((zD [1,5] s).1.text ∉ ks)) _))
  split
  ·exact Le.refl s
  split
  ·exact h3
  have h4:=(h3.trans (ih.bound 1 _)).trans ((zP 6 [[125],[44]] _).trans (kB (qT 6 [[125],[44]] (qL n 1 (qK (decide ((zD [1,5] s).1.text ∉ ks)) (zA 6 [58] (zD [1,5] s).2))).2).1.2 _))
  split
  ·exact h4
  exact h4.trans (ih.oloop _ _ _)
end Go.Proofs.YtbhhphabggcacaaGreatDoor
namespace Go.Proofs.YtbhhphabggcacaaGreatDoor.Sy
open Go
section
variable {P:Program} {T:Tab} {G:qS} {Q:Exit→St→Prop} {st st':St}
theorem Turned.refl (w:World) (b:Nat):Turned w w b:=⟨rfl,rfl,rfl,rfl,fun _ _=>rfl⟩
theorem Rel.beginBox {c : Ctx} {M : zE} {μ : Mu} {st : St} {tmps : Array Value} {w : World} (r : Rel c M μ st tmps w) {id k j : Nat} {e : TypeId} {cells : List V} (hb : yB id st.H = some (.vars e cells)) (hj : cells[j]? = some .nilsl)
  (hf:st.fresh k=true) (e':TypeId) (sz:Nat):∃ μ',Rel c M μ' { st with H:=yE id (.vars e (cells.set j (.ms k))) ((k,.row e' sz [])::st.H) } tmps w:=by
 have hm:=zX hb
 have hk:qM id st.H=true:=qG.2 ⟨_,hm⟩
 have hne:id≠k:=by
  rintro rfl
  have:=(St.fresh_spec hf).2.2.2
  rw [hk] at this; cases this
 have r1:=r.adopt (l:=⟨none,.slice none 0 0⟩) hf (fun b hb=>by cases hb) (bx := .row e' sz []) (.rowN (by rw [qZ]) (by rw [qZ]))
 have hbx:=r1.box id _ (List.mem_cons_of_mem _ hm)
 cases hbx with
 | @vars _ _ b arr h0 hh hs ho hc =>
 refine ⟨_,r1.write (id:=id) (b:=b) (w':=w) (bx := .vars e (cells.set j (.ms k))) (by simp [qM,hk]) h0 (Turned.refl w b) (.vars h0 hh (by simpa using hs) ho fun i u x hu hx => ?_)⟩
 rw [List.getElem?_set] at hx
 split at hx
 ·rename_i hji
  subst hji
  split at hx
  ·cases hx
   have:=hc j u .nilsl hu hj
   cases this
   exact .ms (by rw [qZ]) rfl
  cases hx
 exact hc i u x hu hx
theorem AW.beginBox {c : Code} (id k j : Nat) (e' : TypeId) (sz : Nat) {e : TypeId} {cells : List V} (hb : yB id st.H = some (.vars e cells)) (hj : cells[j]? = some .nilsl) (hf : st.fresh k = true)
  (h:({ st with H:=yE id (.vars e (cells.set j (.ms k))) ((k,.row e' sz [])::st.H) }:St)=st') (k:AW P G c Q st'):AW P G c Q st:=fun x M μ tmps w hg r=>by
 obtain ⟨μ',r'⟩:=r.beginBox hb hj hf e' sz
 exact k x M μ' tmps w hg (h ▸ r')
theorem qB.beginBox {ops : Array Oper} {l : List Oper} {orc : List PD} (id k j : Nat) (e' : TypeId) (sz : Nat) {e : TypeId} {cells : List V} (hb : yB id st.H = some (.vars e cells)) (hj : cells[j]? = some .nilsl) (hf : st.fresh k = true)
  (h:({ st with H:=yE id (.vars e (cells.set j (.ms k))) ((k,.row e' sz [])::st.H) }:St)=st') (k:qB P G ops Q l st' orc):qB P G ops Q l st orc:=fun x M μ tmps w hg r=>by
 obtain ⟨μ',r'⟩:=r.beginBox hb hj hf e' sz
 exact k x M μ' tmps w hg (h ▸ r')
theorem AW.pinsTo {c:Code} (ps:List Nat) (hs:∀ i∈ps,i∈st.pins) (h:({ st with pins:=ps }:St)=st') (k:AW P G c Q st'):AW P G c Q st:=fun x M μ tmps w hg r =>
 k x M μ tmps w hg (h ▸ ⟨r.mem,r.ext,r.old,r.slots,fun i hi=>r.pins i (hs i hi),r.box,r.nodup,r.inj,r.own,r.size,r.below⟩)
end
end Go.Proofs.YtbhhphabggcacaaGreatDoor.Sy
namespace Go.Proofs
open Go.Shelf
def Tryz.laysM171_ren:Go.Shelf.Ren:=⟨fun | 171=>29 | 243=>55 | 246=>81 | 283=>104 | 284=>105 | 285=>106 | 286=>107 | 129=>131 | 317=>130 | 318=>132 | 319=>133 | 320=>134 | 337=>147 | 338=>148 | n=>n,fun | 3=>3 | 9=>9 | 2=>2 | 4=>4 | 171=>135 | 0=>0 | 53=>136 | 37=>83 | 5=>5 | 173=>139 | 212=>153 | 51=>133 | 20=>20 | 213=>154 | 46=>94 | 232=>172 | 233=>173 | n=>n,fun | 17=>3 | 18=>6 | 19=>7 | n=>n⟩
theorem Tryz.laysM171:Go.Proofs.LaysM.n171 Tryz.prog Tryz.laysM171_ren:={
 mixed:=by kernel_rfl
 f129:=Tryz.func131.trans (congrArg some (by kernel_rfl))
 f171:=Tryz.func29.trans (congrArg some (by kernel_rfl))
 f243:=Tryz.func55.trans (congrArg some (by kernel_rfl))
 f246:=Tryz.func81.trans (congrArg some (by kernel_rfl))
 f283:=Tryz.func104.trans (congrArg some (by kernel_rfl))
 f284:=Tryz.func105.trans (congrArg some (by kernel_rfl))
 f285:=Tryz.func106.trans (congrArg some (by kernel_rfl))
 f286:=Tryz.func107.trans (congrArg some (by kernel_rfl))
 f317:=Tryz.func130.trans (congrArg some (by kernel_rfl))
 f318:=Tryz.func132.trans (congrArg some (by kernel_rfl))
 f319:=Tryz.func133.trans (congrArg some (by kernel_rfl))
 f320:=Tryz.func134.trans (congrArg some (by kernel_rfl))
 f337:=Tryz.func147.trans (congrArg some (by kernel_rfl))
 f338:=Tryz.func148.trans (congrArg some (by kernel_rfl))
 t0:=Tryz.underlying0
 a0:=Tryz.isAgg0
 z0:=Tryz.sizeOf0
 v0:=Tryz.zeroValue0
 t2:=Tryz.underlying2
 a2:=Tryz.isAgg2
 z2:=Tryz.sizeOf2
 v2:=Tryz.zeroValue2
 t3:=Tryz.underlying3
 a3:=Tryz.isAgg3
 z3:=Tryz.sizeOf3
 v3:=Tryz.zeroValue3
 t4:=Tryz.underlying4
 a4:=Tryz.isAgg4
 z4:=Tryz.sizeOf4
 v4:=Tryz.zeroValue4
 t5:=Tryz.underlying5
 a5:=Tryz.isAgg5
 z5:=Tryz.sizeOf5
 v5:=Tryz.zeroValue5
 t9:=Tryz.underlying9
 a9:=Tryz.isAgg9
 z9:=Tryz.sizeOf9
 v9:=Tryz.zeroValue9
 t20:=Tryz.underlying20
 a20:=Tryz.isAgg20
 z20:=Tryz.sizeOf20
 v20:=Tryz.zeroValue20
 t37:=Tryz.underlying83
 a37:=Tryz.isAgg83
 z37:=Tryz.sizeOf83
 v37:=Tryz.zeroValue83
 t46:=Tryz.underlying94
 a46:=Tryz.isAgg94
 z46:=Tryz.sizeOf94
 v46:=Tryz.zeroValue94
 t51:=Tryz.underlying133
 a51:=Tryz.isAgg133
 z51:=Tryz.sizeOf133
 v51:=Tryz.zeroValue133
 t53:=Tryz.underlying136
 a53:=Tryz.isAgg136
 z53:=Tryz.sizeOf136
 v53:=Tryz.zeroValue136
 t171:=Tryz.underlying135
 a171:=Tryz.isAgg135
 z171:=Tryz.sizeOf135
 v171:=Tryz.zeroValue135
 t173:=Tryz.underlying139
 a173:=Tryz.isAgg139
 z173:=Tryz.sizeOf139
 v173:=Tryz.zeroValue139
 t212:=Tryz.underlying153
 a212:=Tryz.isAgg153
 z212:=Tryz.sizeOf153
 v212:=Tryz.zeroValue153
 t213:=Tryz.underlying154
 a213:=Tryz.isAgg154
 z213:=Tryz.sizeOf154
 t232:=Tryz.underlying172
 a232:=Tryz.isAgg172
 z232:=Tryz.sizeOf172
 v232:=Tryz.zeroValue172
 t233:=Tryz.underlying173
 a233:=Tryz.isAgg173
 z233:=Tryz.sizeOf173
 v233:=Tryz.zeroValue173
 g17:=by kernel_rfl
 g18:=by kernel_rfl
 g19:=by kernel_rfl
 i0:=by kernel_rfl
 i2:=by kernel_rfl
 i3:=by kernel_rfl
 i4:=by kernel_rfl
 i5:=by kernel_rfl
 i9:=by kernel_rfl
 i20:=by kernel_rfl
 i37:=by kernel_rfl
 i46:=by kernel_rfl
 i51:=by kernel_rfl
 i53:=by kernel_rfl
 i171:=by kernel_rfl
 i173:=by kernel_rfl
 i212:=by kernel_rfl
 i232:=by kernel_rfl
 i233:=by kernel_rfl
 m17:=by kernel_rfl
 m18:=by kernel_rfl
 m19:=by kernel_rfl }
end Go.Proofs
namespace Go.Proofs.YtbhhphabggcacaaGreatDoor
open Sy Go
set_option linter.unusedVariables false
variable {G:qS}
def qKA:List PD:=Lib.pow10Tab.map (PD.int .u64)
def qJB (g:Nat) (G:qS):Prop:=G g=some qKA
theorem zHK {g : Nat} {M : zE} {w : World} (hG : qJB g G) (hn : Tryz.prog.globalNamed "internal/strconv.uint64pow10" = some g) (hg : GOK G M w) (hmem : ∀ b o v, M b o = some v → w.cell? ⟨b, o, none⟩ = some v) : Lib.TabIs Tryz.prog w "internal/strconv.uint64pow10" .u64 Lib.pow10Tab := by
 obtain ⟨arr,t,q,h1,h2⟩:=hg.2 g qKA hG rfl
 obtain ⟨h3,h4⟩:=hg.1 g qKA hG
 unfold Lib.TabIs World.var?
 rw [hn]
 simp only [Option.bind_some,h1]
 congr 1
 have hl:qKA.length=Lib.pow10Tab.length:=by simp [qKA]
 refine Array.ext (by simp [h2,hl]) fun j hj1 hj2 => ?_
 have hj:j<Lib.pow10Tab.length:=by simpa using hj2
 have hd:qKA[j]?=some (.int .u64 (Lib.pow10Tab[j])):=by simp [qKA,hj]
 obtain ⟨u,hu,_⟩:=h3 j _ hd
 have hr:=h4 j _ u hd hu
 cases hr
 have hc:=hmem _ _ _ hu
 have hw:w.cell? ⟨g,j,none⟩=some arr[j]:=by
  unfold World.cell?
  simp [h1,hj1]
 have e:=Option.some.inj (hw.symm.trans hc)
 rw [e]; simp
theorem zFZ {M:zE} {vs:Array Value} {n:Int} (hsz:vs.size=1) (h:∀ (i:Nat) u d,vs[i]?=some u→[PD.int .i64 n][i]?=some d→Rd M u d):vs = #[.int .i64 n] ∧ -9223372036854775808≤n∧n≤9223372036854775807:=by
 obtain ⟨l⟩:=vs
 match l,hsz with
 | [u],_ =>
  have h1:=h 0 u (.int .i64 n) rfl rfl
  cases h1 with
  | int h3 h4=>exact ⟨rfl,by rw [jN] at h3; simpa [kV] using h3,by rw [jC] at h4; simpa [kW] using h4⟩
theorem qVV {g : Nat} (hG : qJB g G) (hn : Tryz.prog.globalNamed "internal/strconv.uint64pow10" = some g) (n : Int) : AFn Tryz.prog G 29 [.int .i64 n] (.str (Lib.itoa n)) := by
 refine AFn.of_calls (jR Tryz.func29 (by kernel_rfl) rfl) fun M w vs hg hmem hsz hrd => ?_
 obtain ⟨rfl,h0,h1⟩:=zFZ hsz hrd
 refine (Any.strconv_Itoa Tryz.laysM171 n h0 h1 w (zHK hG hn hg hmem)).mono ?_
 rintro e w' ⟨rfl,k,os,rfl⟩
 have hl:=Lib.itoa_length_le n h0 h1
 exact ⟨_,rfl,.str (by simp) (by simp; omega),Lib.below_grow _ w (Nat.le_refl _) k os⟩
def qNX (g3 g4 g5:Nat):qS:=fun g=>if g=g5 then some qKA else u8G g3 g4 g
theorem zCT (g3 g4 g5:Nat):qJB g5 (qNX g3 g4 g5):=by simp [qJB,qNX]
theorem zCU {g3 g4 g5:Nat} (h:g4≠g3) (h3:g3≠g5) (h4:g4≠g5):qVW g3 g4 (qNX g3 g4 g5):=by
 obtain ⟨a,b⟩:=zGU h
 exact ⟨by simp only [qNX]; rw [if_neg h3]; exact a,by simp only [qNX]; rw [if_neg h4]; exact b⟩
theorem zAL:∀ j:Fin 20,(0:Int)≤Lib.pow10Tab.getD j.val 0∧Lib.pow10Tab.getD j.val 0≤18446744073709551615:=by decide
theorem qYE {g3 g4 g5 : Nat} {W : World} (h : Lib.Utf8Tabs g3 g4 W) (hne : g4 ≠ g3) (hn : Tryz.prog.globalNamed "internal/strconv.uint64pow10" = some g5) (ht : Lib.TabIs Tryz.prog W "internal/strconv.uint64pow10" .u64 Lib.pow10Tab) : GOK (qNX g3 g4 g5) (jX W) W := by
 have hu:=zKA h hne
 refine ⟨fun g cs hg => ?_,fun g cs hg hi => ?_⟩
 ·simp only [qNX] at hg
  split at hg
  ·rename_i e; subst e; cases hg
   have key:∀ (j:Nat) d,qKA[j]?=some d→∃ z:Int,d = .int .u64 z∧0≤z∧z≤18446744073709551615∧jX W g j=some (.int .u64 z):=fun j d hd=>by
    have hj:j<Lib.pow10Tab.length:=by have:=(List.getElem?_eq_some_iff.1 hd).1; simpa [qKA] using this
    have h20:j<20:=by simpa [Lib.pow10Tab] using hj
    have hb:=zAL ⟨j,h20⟩
    refine ⟨Lib.pow10Tab.getD j 0, ?_,hb.1,hb.2,ht.cell hn j hj⟩
    simp only [qKA,List.getElem?_map,List.getElem?_eq_getElem hj,Option.map_some,Option.some.injEq] at hd
    rw [← hd,List.getD_eq_getElem?_getD,List.getElem?_eq_getElem hj]; rfl
   refine ⟨fun j d hd => ?_,fun j d u hd hu => ?_⟩
   ·obtain ⟨z,rfl,_,_,hm⟩:=key j d hd; exact ⟨_,hm,rfl⟩
   obtain ⟨z,rfl,h0,h1,hm⟩:=key j d hd
   have:=hu.symm.trans hm
   cases this
   exact .int (by rw [jN]; exact h0) (by rw [jC]; exact h1)
  exact hu.1 g cs hg
 simp only [qNX] at hg
 split at hg
 ·rename_i e; subst e; cases hg
  unfold Lib.TabIs World.var? at ht
  rw [hn] at ht
  simp only [Option.bind_some] at ht
  split at ht
  ·rename_i cs t q hb
   refine ⟨cs,t,q,hb, ?_⟩
   rw [Option.some.inj ht]; simp [qKA]
  cases ht
 exact hu.2 g cs hg hi
theorem qGK {P : Program} {W : World} {name : String} {k : IntKind} {zs : List Int} {g : Nat} {t e : TypeId} {n : Nat} (hg : P.globalNamed name = some g) (hty : (P.globals[g]?).map (·.type) = some t) (ht : P.underlying t = some (.array n e)) (he : P.underlying e = some (.int k))
  (hce:P.cellsOf e=1) (hct:P.cellsOf t=n) (h:Lib.VarReads P W name (Lib.tabData k zs)):Lib.TabIs P W name k zs:=by
 obtain ⟨g',t',cs,fuel,p,hg',ht',hvar,hd⟩:=h
 obtain rfl:=Option.some.inj (hg.symm.trans hg')
 obtain rfl:=Option.some.inj (hty.symm.trans ht')
 unfold Lib.TabIs
 rw [hvar,← Lib.cells_of_tab ht he hce hct hd]
def qJX (g3 g4 g5 g6 g7:Nat):qS:=fun g=>if g=g6∨g=g7 then some [.err] else qNX g3 g4 g5 g
theorem qSS (g3 g4 g5 g6 g7:Nat):qXX g6 g7 (qJX g3 g4 g5 g6 g7):=by simp [qXX,qJX]
theorem qSQ {g3 g4 g5 g6 g7:Nat} (h:g5≠g6∧g5≠g7):qJB g5 (qJX g3 g4 g5 g6 g7):=by
 unfold qJB qJX; rw [if_neg (by omega)]; exact zCT g3 g4 g5
theorem qSR {g3 g4 g5 g6 g7:Nat} (h:g4≠g3) (h3:g3≠g5) (h4:g4≠g5) (h5:g3≠g6∧g3≠g7∧g4≠g6∧g4≠g7):qVW g3 g4 (qJX g3 g4 g5 g6 g7):=by
 obtain ⟨a,b⟩:=zCU h h3 h4
 exact ⟨by simp only [qJX]; rw [if_neg (by omega)]; exact a,by simp only [qJX]; rw [if_neg (by omega)]; exact b⟩
theorem uK {P:Program} {W:World} {name nm:String} {g:Nat} {t:TypeId} {d:DataW Unit} (hg:P.globalNamed name=some g) (hty:(P.globals[g]?).map (·.type)=some t) (hi0:((P.underlying t).any fun d=>match d with | .interface _=>true | _=>false)=true) (h:Lib.VarReads P W name (.iface nm d)):∃ u v,jX W g 0=some (.iface u v):=by
 obtain ⟨ms,hi⟩:∃ ms,P.underlying t=some (.interface ms):=by
  cases hu:P.underlying t with
  | none=>rw [hu] at hi0; cases hi0
  | some d =>
   rw [hu] at hi0
   cases d <;> first | exact ⟨_,rfl⟩ | cases hi0
 obtain ⟨g',t',cs,fuel,p,hg',ht',hvar,hd⟩:=h
 obtain rfl:=Option.some.inj (hg.symm.trans hg')
 obtain rfl:=Option.some.inj (hty.symm.trans ht')
 obtain ⟨f1,u,v,hcs,_,_⟩:=iface_of_trod hi hd
 refine ⟨u,v, ?_⟩
 have h0:=World.var?_cell hg hvar 0
 obtain ⟨l⟩:=cs
 simp only at hcs
 subst hcs
 show W.cell? ⟨g,0,none⟩=_
 simpa using h0
theorem qYF {g3 g4 g5 g6 g7:Nat} {W:World} (h:GOK (qNX g3 g4 g5) (jX W) W) (e6:∃ u v,jX W g6 0=some (.iface u v)) (e7:∃ u v,jX W g7 0=some (.iface u v)):GOK (qJX g3 g4 g5 g6 g7) (jX W) W:=by
 have key:∀ g,g=g6∨g=g7→∃ u v,jX W g 0=some (.iface u v):=by
  rintro g (rfl | rfl)
  ·exact e6
  exact e7
 refine ⟨fun g cs hg => ?_,fun g cs hg hi => ?_⟩
 ·simp only [qJX] at hg
  split at hg
  ·rename_i e
   cases hg
   obtain ⟨u,v,hm⟩:=key g e
   refine ⟨fun j d hd => ?_,fun j d w hd hw => ?_⟩
   ·match j with
    | 0=>exact ⟨_,hm,rfl⟩
    | j+1=>simp at hd
   match j with
   | 0 =>
    cases hd
    have:=hw.symm.trans hm
    cases this
    exact .err
   | j+1=>simp at hd
  exact h.1 g cs hg
 simp only [qJX] at hg
 split at hg
 ·cases hg; cases hi
 exact h.2 g cs hg hi
set_option maxRecDepth 100000
set_option maxHeartbeats 4000000
set_option linter.unusedSimpArgs false
theorem AW.keepE {P:Program} {c:Code} {Q:Exit→St→Prop} {st st':St} (ks:List Nat) (h:st.keep ks=st') (k:AW P G c Q st'):AW P G c Q st:=AW.keep ks (h ▸ k)
@[simp] def psC (s:PS):List V:=[.p (.sl 6 (s.left.map Tok.enc)),.ms 3,.p (.int .i64 s.deep),.p (.bool s.bad)]
theorem zEV {l:List Tok} (h:0<l.length):l[0]?=some (l.headD qAG):=by
 cases l with
 | nil=>cases h
 | cons t l=>rfl
@[simp] theorem zLO (ok:Bool) (s:PS):(qK ok s).left=s.left:=rfl
@[simp] theorem zKO (ok:Bool) (s:PS):(qK ok s).nodes=s.nodes:=rfl
@[simp] theorem zLP (ok:Bool) (s:PS):(qK ok s).deep=s.deep:=rfl
@[simp] theorem zNM (ok:Bool) (s:PS):(qK ok s).bad=(s.bad || !ok):=rfl
@[simp] theorem zNJ (x:Nd) (s:PS):(wF x s).2.left=s.left:=rfl
@[simp] theorem zNK (x:Nd) (s:PS):(wF x s).2.deep=s.deep:=rfl
@[simp] theorem zOG (x:Nd) (s:PS):(wF x s).2.bad=s.bad:=rfl
@[simp] theorem zLN (x:Nd) (s:PS):(wF x s).2.nodes=s.nodes++[x]:=rfl
@[simp] theorem zPP (x:Nd) (s:PS):(wF x s).1=(s.nodes.length:Nat):=rfl
theorem xX (s:PS) (ok:Bool):AX Tryz.prog G 47 [.ptr 2 0,.p (.bool ok)] [(2,.vars 42 (psC s)),(3,.row 36 8 (s.nodes.map Nd.enc))] (.tuple []) [2,3] [(2,.vars 42 (psC (qK ok s))),(3,.row 36 8 ((qK ok s).nodes.map Nd.enc))]:=by
 refine AX.introU tok 900 Tryz.func47 (by kernel_rfl) rfl rfl ?_
 simp only [Tryz.f47,qN,List.map_cons,List.map_nil]
 refine rgz [] [[],[],[],[],[1,4,8],[],[],[],[4,12],[],[],[15]] ?_
 iterate 6 refine op1 tok ?_
 iterate 2 refine op2 tok ?_
 iterate 4 refine op1 tok ?_
 refine qA ?_
 exact zFB
theorem qYP (s:PS):AX Tryz.prog G 74 [.ptr 2 0] [(2,.vars 42 (psC s)),(3,.row 36 8 (s.nodes.map Nd.enc))] (.agg (wZ s).cells) [2,3] [(2,.vars 42 (psC s)),(3,.row 36 8 (s.nodes.map Nd.enc))]:=by
 refine AX.introU tok 900 Tryz.func74 (by kernel_rfl) rfl rfl ?_
 simp only [Tryz.f74,qN,List.map_cons,List.map_nil]
 refine rgn [] [[]] ?_
 refine op1 tok ?_
 refine qA (AW.seq (rgn [] [[],[],[],[],[0,2,7],[],[],[],[],[0,2,7,12],[],[0,2,14]] ?_))
 iterate 5 refine op1 tok ?_
 iterate 6 refine op2 tok ?_
 refine op1 tok ?_
 refine qA (cnd ?_ ?_)
 ·intro h14
  try simp at h14
  rw [show wZ s=qAG from by rcases h14 with h | h <;> simp [wZ,h]]
  refine rgn [] [[],[2]] ?_
  iterate 2 refine op1 tok ?_
  refine qA ?_
  exact AW.ret (qV (k:=by simp [qAG]))
 intro h14
 try simp at h14
 rw [show wZ s=s.left.headD qAG from by simp [wZ,h14.1]]
 have hix:=zEV (l:=s.left) (List.length_pos_iff.2 h14.2)
 generalize s.left.headD qAG=t at *
 refine AW.skip (rgn [t.enc] [[],[],[],[2,19],[],[],[2]] ?_)
 iterate 7 refine op1 tok ?_ (hv:=by first | with_reducible exact True.intro | (first | (simp [hix]; done) | (simp [hix]; omega) | (simp; exact List.length_pos_iff.2 h14.2); done) | omega | simp | (simp +contextual; omega))
 refine qA ?_
 exact AW.ret qV
theorem qRE (s:PS) (x:Nd) (hn:s.nodes.length≤1000000):AX Tryz.prog G 43 [.ptr 2 0,.p x.enc] [(2,.vars 42 (psC s)),(3,.row 36 8 (s.nodes.map Nd.enc))] (.p (.int .i64 (wF x s).1)) [2] [(2,.vars 42 (psC (wF x s).2)),(3,.row 36 8 ((wF x s).2.nodes.map Nd.enc))]:=by
 refine AX.introU tok 900 Tryz.func43 (by kernel_rfl) rfl rfl ?_
 simp only [Tryz.f43,qN,List.map_cons,List.map_nil]
 refine rgn [] [[],[0,3]] ?_
 iterate 2 refine op1 tok ?_
 refine qA ?_
 refine AW.seqDrawS tok mixed 11 [[0],[0],[6],[7],[8],[3],[10],[9,11],[5],[13],[14,12]] [x.enc,x.enc] [] (by kernel_rfl) ?_
 iterate 11 refine d1 ?_
 refine DGo.nil (by kernel_rfl) ⟨by kernel_rfl, ?_⟩
 refine qB.nil ?_
 refine AW.keepE [0] (by conv=>lhs; simp) ?_
 refine AW.pinsTo [2] (by simp) rfl ?_
 refine AW.renE 912 3 (by simp) (by conv=>lhs; simp) ?_
 refine rgn [] [[],[],[],[18],[],[],[4]] ?_
 iterate 7 refine op1 tok ?_
 refine qA ?_
 exact AW.ret qV
theorem jU (s:PS) (x:Nd) (hkn:x.keys=[]) (hvn:x.kids=[]) (hn:s.nodes.length≤1000000):AX Tryz.prog G 43 [.ptr 2 0,.agg [.p (.int .i64 x.op),.p (.int .i64 x.n),.p (.str x.text),.p (.bool x.num.neg),.p (.str x.num.digits),.p (.int .i64 x.num.scale),.nilsl,.nilsl]] [(2,.vars 42 (psC s)),(3,.row 36 8 (s.nodes.map Nd.enc))] (.p (.int .i64 (wF x s).1)) [2] [(2,.vars 42 (psC (wF x s).2)),(3,.row 36 8 ((wF x s).2.nodes.map Nd.enc))]:=by
 refine AX.introU tok 900 Tryz.func43 (by kernel_rfl) rfl rfl ?_
 simp only [Tryz.f43,qN,List.map_cons,List.map_nil]
 refine rgn [] [[],[0,3]] ?_
 iterate 2 refine op1 tok ?_
 refine qA ?_
 refine AW.seqDrawS tok mixed 11 [[0],[0],[6],[7],[8],[3],[10],[9,11],[5],[13],[14,12]] [x.enc,x.enc] [] (by kernel_rfl) ?_
 iterate 11 refine d1 ?_ (hv:=by first | with_reducible exact True.intro | ((simp [hkn,hvn]); done) | omega | simp | (simp +contextual; omega))
 refine DGo.nil (by kernel_rfl) ⟨by kernel_rfl, ?_⟩
 refine qB.nil ?_
 refine AW.keepE [0] (by conv=>lhs; simp) ?_
 refine AW.pinsTo [2] (by simp) rfl ?_
 refine AW.renE 912 3 (by simp) (by conv=>lhs; simp) ?_
 refine rgn [] [[],[],[],[18],[],[],[4]] ?_
 iterate 7 refine op1 tok ?_
 refine qA ?_
 exact AW.ret qV
theorem qBH (s:PS) (x:Nd) (hkn:x.keys=[]) (hn:s.nodes.length≤1000000):AX Tryz.prog G 43 [.ptr 2 0,.agg [.p (.int .i64 x.op),.p (.int .i64 x.n),.p (.str x.text),.p (.bool x.num.neg),.p (.str x.num.digits),.p (.int .i64 x.num.scale),.nilsl,.p (.sl 1 (x.kids.map (PD.int .i64)))]] [(2,.vars 42 (psC s)),(3,.row 36 8 (s.nodes.map Nd.enc))] (.p (.int .i64 (wF x s).1)) [2] [(2,.vars 42 (psC (wF x s).2)),(3,.row 36 8 ((wF x s).2.nodes.map Nd.enc))]:=by
 refine AX.introU tok 900 Tryz.func43 (by kernel_rfl) rfl rfl ?_
 simp only [Tryz.f43,qN,List.map_cons,List.map_nil]
 refine rgn [] [[],[0,3]] ?_
 iterate 2 refine op1 tok ?_
 refine qA ?_
 refine AW.seqDrawS tok mixed 11 [[0],[0],[6],[7],[8],[3],[10],[9,11],[5],[13],[14,12]] [x.enc,x.enc] [] (by kernel_rfl) ?_
 iterate 11 refine d1 ?_ (hv:=by first | with_reducible exact True.intro | ((simp [hkn]); done) | omega | simp | (simp +contextual; omega))
 refine DGo.nil (by kernel_rfl) ⟨by kernel_rfl, ?_⟩
 refine qB.nil ?_
 refine AW.keepE [0] (by conv=>lhs; simp) ?_
 refine AW.pinsTo [2] (by simp) rfl ?_
 refine AW.renE 912 3 (by simp) (by conv=>lhs; simp) ?_
 refine rgn [] [[],[],[],[18],[],[],[4]] ?_
 iterate 7 refine op1 tok ?_
 refine qA ?_
 exact AW.ret qV
theorem zAU (s:PS) (x:Nd) (hvn:x.kids=[]) (hn:s.nodes.length≤1000000):AX Tryz.prog G 43 [.ptr 2 0,.agg [.p (.int .i64 x.op),.p (.int .i64 x.n),.p (.str x.text),.p (.bool x.num.neg),.p (.str x.num.digits),.p (.int .i64 x.num.scale),.p (.sl 1 (x.keys.map PD.str)),.nilsl]] [(2,.vars 42 (psC s)),(3,.row 36 8 (s.nodes.map Nd.enc))] (.p (.int .i64 (wF x s).1)) [2] [(2,.vars 42 (psC (wF x s).2)),(3,.row 36 8 ((wF x s).2.nodes.map Nd.enc))]:=by
 refine AX.introU tok 900 Tryz.func43 (by kernel_rfl) rfl rfl ?_
 simp only [Tryz.f43,qN,List.map_cons,List.map_nil]
 refine rgn [] [[],[0,3]] ?_
 iterate 2 refine op1 tok ?_
 refine qA ?_
 refine AW.seqDrawS tok mixed 11 [[0],[0],[6],[7],[8],[3],[10],[9,11],[5],[13],[14,12]] [x.enc,x.enc] [] (by kernel_rfl) ?_
 iterate 11 refine d1 ?_ (hv:=by first | with_reducible exact True.intro | ((simp [hvn]); done) | omega | simp | (simp +contextual; omega))
 refine DGo.nil (by kernel_rfl) ⟨by kernel_rfl, ?_⟩
 refine qB.nil ?_
 refine AW.keepE [0] (by conv=>lhs; simp) ?_
 refine AW.pinsTo [2] (by simp) rfl ?_
 refine AW.renE 912 3 (by simp) (by conv=>lhs; simp) ?_
 refine rgn [] [[],[],[],[18],[],[],[4]] ?_
 iterate 7 refine op1 tok ?_
 refine qA ?_
 exact AW.ret qV
def qET {α:Type} [DecidableEq α] (l:List α) (x:α):Int:=if x∈l then (l.idxOf x:Int) else -1
theorem qZH {α:Type} [DecidableEq α] {l:List α} {k:Nat} {x:α} (hk:k<l.length) (hx:l[k]?=some x) (hno:x ∉ l.take k):qET l x=k:=by
 have hm:x∈l:=List.mem_of_getElem? hx
 unfold qET; rw [if_pos hm]
 have:l.idxOf x=k:=by
  obtain ⟨h1,h2⟩:=List.getElem?_eq_some_iff.1 hx
  have h3:=List.take_append_drop k l
  rw [← h3,List.idxOf_append,if_neg hno,List.drop_eq_getElem_cons h1,h2,List.idxOf_cons_self]
  simp; omega
 rw [this]
theorem qZG {α:Type} [DecidableEq α] (l:List α) (x:α):0≤qET l x↔x∈l:=by
 unfold qET; split <;> simp [*]
theorem zES (l:List (List UInt8)) (s:List UInt8):AFn Tryz.prog G 75 [.sl 1 (l.map PD.str),.str s] (.int .i64 (qET l s)):=by
 refine AFn.introU tok Tryz.func75 (by kernel_rfl) rfl rfl ?_
 simp only [Tryz.f75,qN,List.map_cons,List.map_nil]
 refine rgn [] [[0,1]] ?_
 refine op1 tok ?_
 refine qA (AW.seq (rgn [] [[],[],[0,1,7,8]] ?_))
 iterate 3 refine op1 tok ?_
 refine qA (AW.block ?_)
 refine AW.intFactU (i:=7) rfl (by decide) ?_; intro hlen; simp at hlen
 refine AW.loop (α:=Nat) (fun k=>k≤l.length∧s ∉ l.take k) (fun k=>⟨wL 19 [(0,.p (.sl 1 (l.map PD.str))),(1,.p (.str s)),(7,.p (.int .i64 l.length)),(8,.p (.int .i64 k))],[],[],0⟩) (fun k=>l.length-k) (0) ⟨by omega,by simp⟩ ⟨qH (by simp),rfl,by simp,by simp⟩ ?_
 rintro k ⟨hk,hno⟩
 refine rgn [] [[]] ?_
 refine op1 tok ?_
 refine qA (AW.seq (cnd ?_ ?_))
 ·intro h9
  try simp at h9
  obtain ⟨x,hx⟩:∃ x,l[k]?=some x:=⟨l[k],by simp [h9]⟩
  refine AW.skip (AW.seq (AW.block (rgn [] [[],[0,1,5,7,8]] ?_)))
  iterate 2 refine op1 tok ?_
  refine qA (rgn [.str x] [[],[],[],[],[],[0,1,5,7,8,16]] ?_)
  iterate 6 refine op1 tok ?_ (hv:=by first | with_reducible exact True.intro | (simp [hx]; done) | omega | simp | (simp +contextual; omega))
  refine qA (cnd ?_ ?_)
  ·intro h16
   try simp at h16
   have hR:qET l s=k:=qZH h9 (h16 ▸ hx) hno
   refine rgn [] [[],[4]] ?_
   iterate 2 refine op1 tok ?_
   refine qA ?_
   exact AW.ret (qX (k:=by simp [hR]))
  intro h16
  try simp at h16
  refine AW.skip (rgz [] [[],[0,1,7,8]] ?_)
  iterate 2 refine op1 tok ?_
  refine qA ?_
  exact ⟨k+1,⟨by omega,by rw [List.take_add_one,hx]; simp; exact ⟨hno,h16⟩⟩,by omega,qH (by simp),rfl,by simp,by simp⟩
 intro h9
 try simp at h9
 have hR:qET l s = -1:=by rw [List.take_of_length_le h9] at hno; unfold qET; rw [if_neg hno]
 refine AW.exit ?_
 simp
 refine rgn [] [[]] ?_
 refine op1 tok ?_
 refine qA ?_
 exact AW.ret (qX (k:=by simp [hR]))
theorem qMS (l:List (List UInt8)) (s:List UInt8):AFn Tryz.prog G 42 [.sl 1 (l.map PD.str),.str s] (.bool (decide (s∈l))):=by
 refine AFn.introU tok Tryz.func42 (by kernel_rfl) rfl rfl ?_
 simp only [Tryz.f42,qN,List.map_cons,List.map_nil]
 have h1:=zES (G:=G) l s
 have h2:decide (s∈l)=decide (0≤qET l s):=decide_eq_decide.2 (qZG l s).symm
 rw [h2]
 generalize qET l s=i at *
 refine rgn [] [[0,1]] ?_
 refine op1 tok ?_
 refine qA (rgn [.nilp,.int .i64 i] [[],[],[7],[],[4]] ?_)
 iterate 5 refine oq1 tok h1 ?_
 exact qA (AW.ret qX)
theorem zET (l:List Int) (s:Int):AFn Tryz.prog G 76 [.sl 1 (l.map (PD.int .i64)),.int .i64 s] (.int .i64 (qET l s)):=by
 refine AFn.introU tok Tryz.func76 (by kernel_rfl) rfl rfl ?_
 simp only [Tryz.f76,qN,List.map_cons,List.map_nil]
 refine rgn [] [[0,1]] ?_
 refine op1 tok ?_
 refine qA (AW.seq (rgn [] [[],[],[0,1,7,8]] ?_))
 iterate 3 refine op1 tok ?_
 refine qA (AW.block ?_)
 refine AW.intFactU (i:=7) rfl (by decide) ?_; intro hlen; simp at hlen
 refine AW.loop (α:=Nat) (fun k=>k≤l.length∧s ∉ l.take k) (fun k=>⟨wL 19 [(0,.p (.sl 1 (l.map (PD.int .i64)))),(1,.p (.int .i64 s)),(7,.p (.int .i64 l.length)),(8,.p (.int .i64 k))],[],[],0⟩) (fun k=>l.length-k) (0) ⟨by omega,by simp⟩ ⟨qH (by simp),rfl,by simp,by simp⟩ ?_
 rintro k ⟨hk,hno⟩
 refine rgn [] [[]] ?_
 refine op1 tok ?_
 refine qA (AW.seq (cnd ?_ ?_))
 ·intro h9
  try simp at h9
  obtain ⟨x,hx⟩:∃ x,l[k]?=some x:=⟨l[k],by simp [h9]⟩
  refine AW.skip (AW.seq (AW.block (rgn [] [[],[0,1,5,7,8]] ?_)))
  iterate 2 refine op1 tok ?_
  refine qA (rgn [.int .i64 x] [[],[],[],[],[],[0,1,5,7,8,16]] ?_)
  iterate 6 refine op1 tok ?_ (hv:=by first | with_reducible exact True.intro | (simp [hx]; done) | omega | simp | (simp +contextual; omega))
  refine qA (cnd ?_ ?_)
  ·intro h16
   try simp at h16
   have hR:qET l s=k:=qZH h9 (h16 ▸ hx) hno
   refine rgn [] [[],[4]] ?_
   iterate 2 refine op1 tok ?_
   refine qA ?_
   exact AW.ret (qX (k:=by simp [hR]))
  intro h16
  try simp at h16
  refine AW.skip (rgz [] [[],[0,1,7,8]] ?_)
  iterate 2 refine op1 tok ?_
  refine qA ?_
  exact ⟨k+1,⟨by omega,by rw [List.take_add_one,hx]; simp; exact ⟨hno,h16⟩⟩,by omega,qH (by simp),rfl,by simp,by simp⟩
 intro h9
 try simp at h9
 have hR:qET l s = -1:=by rw [List.take_of_length_le h9] at hno; unfold qET; rw [if_neg hno]
 refine AW.exit ?_
 simp
 refine rgn [] [[]] ?_
 refine op1 tok ?_
 refine qA ?_
 exact AW.ret (qX (k:=by simp [hR]))
theorem zEW (l:List Int) (s:Int):AFn Tryz.prog G 46 [.sl 1 (l.map (PD.int .i64)),.int .i64 s] (.bool (decide (s∈l))):=by
 refine AFn.introU tok Tryz.func46 (by kernel_rfl) rfl rfl ?_
 simp only [Tryz.f46,qN,List.map_cons,List.map_nil]
 have h1:=zET (G:=G) l s
 have h2:decide (s∈l)=decide (0≤qET l s):=decide_eq_decide.2 (qZG l s).symm
 rw [h2]
 generalize qET l s=i at *
 refine rgn [] [[0,1]] ?_
 refine op1 tok ?_
 refine qA (rgn [.nilp,.int .i64 i] [[],[],[7],[],[4]] ?_)
 iterate 5 refine oq1 tok h1 ?_
 exact qA (AW.ret qX)
theorem zDN (t:Tok) (l:List (List UInt8)):AFn Tryz.prog G 41 [t.enc,.ref [.sl 1 (l.map PD.str)]] (.bool (wH 6 l t)):=by
 refine AFn.introU tok Tryz.func41 (by kernel_rfl) rfl rfl ?_
 simp only [Tryz.f41,qN,List.map_cons,List.map_nil]
 have h1:=qMS (G:=G) l t.text
 have h2:wH 6 l t=(decide (t.kind=6) && decide (t.text∈l)):=rfl
 rw [h2]
 generalize decide (t.text∈l)=b at *
 refine rgn [] [[],[1,2]] ?_
 iterate 2 refine op1 tok ?_
 refine qA (rgn [.nilp,.bool b] [[],[],[],[],[2,7,8],[],[],[7,11],[],[3]] ?_)
 iterate 4 refine op1 tok ?_ (hv:=by first | with_reducible exact True.intro | (first | exact h1 | exact fun h=>⟨h,h1⟩ | (simp; exact fun h=>⟨h,h1⟩); done) | omega | simp | (simp +contextual; omega))
 iterate 4 refine op2 tok ?_ (hv:=by first | with_reducible exact True.intro | (first | exact h1 | exact fun h=>⟨h,h1⟩ | (simp; exact fun h=>⟨h,h1⟩); done) | omega | simp | (simp +contextual; omega))
 iterate 2 refine op1 tok ?_ (hv:=by first | with_reducible exact True.intro | (first | exact h1 | exact fun h=>⟨h,h1⟩ | (simp; exact fun h=>⟨h,h1⟩); done) | omega | simp | (simp +contextual; omega))
 exact qA (AW.ret qX)
theorem zCL (t:Tok) (l:List (List UInt8)):AFn Tryz.prog G 44 [t.enc,.ref [.sl 1 (l.map PD.str)]] (.bool (wH 1 l t)):=by
 refine AFn.introU tok Tryz.func44 (by kernel_rfl) rfl rfl ?_
 simp only [Tryz.f44,qN,List.map_cons,List.map_nil]
 have h1:=qMS (G:=G) l t.text
 have h2:wH 1 l t=(decide (t.kind=1) && decide (t.text∈l)):=rfl
 rw [h2]
 generalize decide (t.text∈l)=b at *
 refine rgn [] [[],[1,2]] ?_
 iterate 2 refine op1 tok ?_
 refine qA (rgn [.nilp,.bool b] [[],[],[],[],[2,7,8],[],[],[7,11],[],[3]] ?_)
 iterate 4 refine op1 tok ?_ (hv:=by first | with_reducible exact True.intro | (first | exact h1 | exact fun h=>⟨h,h1⟩ | (simp; exact fun h=>⟨h,h1⟩); done) | omega | simp | (simp +contextual; omega))
 iterate 4 refine op2 tok ?_ (hv:=by first | with_reducible exact True.intro | (first | exact h1 | exact fun h=>⟨h,h1⟩ | (simp; exact fun h=>⟨h,h1⟩); done) | omega | simp | (simp +contextual; omega))
 iterate 2 refine op1 tok ?_ (hv:=by first | with_reducible exact True.intro | (first | exact h1 | exact fun h=>⟨h,h1⟩ | (simp; exact fun h=>⟨h,h1⟩); done) | omega | simp | (simp +contextual; omega))
 exact qA (AW.ret qX)
theorem zEP (t:Tok) (l:List Int):AFn Tryz.prog G 45 [t.enc,.ref [.sl 1 (l.map (PD.int .i64))]] (.bool (decide (t.kind∈l))):=by
 refine AFn.introU tok Tryz.func45 (by kernel_rfl) rfl rfl ?_
 simp only [Tryz.f45,qN,List.map_cons,List.map_nil]
 have h1:=zEW (G:=G) l t.kind
 generalize decide (t.kind∈l)=b at *
 refine rgn [] [[],[1,2]] ?_
 iterate 2 refine op1 tok ?_
 refine qA (rgn [.nilp,.bool b] [[],[],[],[7],[3]] ?_)
 iterate 5 refine oq1 tok h1 ?_
 exact qA (AW.ret qX)
theorem zDU (t:Tok):AFn Tryz.prog G 72 [t.enc] (.bool (decide (t.kind=3))):=by
 refine AFn.introU tok Tryz.func72 (by kernel_rfl) rfl rfl ?_
 simp only [Tryz.f72,qN,List.map_cons,List.map_nil]
 refine rgn [] [[],[1]] ?_
 iterate 2 refine op1 tok ?_
 refine qA (rgn [] [[],[],[],[2]] ?_)
 iterate 4 refine op1 tok ?_
 exact qA (AW.ret qX)
theorem zDE (t:Tok):AFn Tryz.prog G 93 [t.enc] (.bool true):=by
 refine AFn.introU tok Tryz.func93 (by kernel_rfl) rfl rfl ?_
 simp only [Tryz.f93,qN,List.map_cons,List.map_nil]
 refine rgn [] [[],[3]] ?_
 iterate 2 refine op1 tok ?_
 refine qA (rgn [] [[]] ?_)
 refine op1 tok ?_
 exact qA (AW.ret qX)
theorem qTV {s:PS} (h:(wZ s).kind≠0):0<s.left.length:=by
 unfold wZ at h
 split at h
 ·exact absurd rfl h
 cases hl:s.left with
 | nil=>rw [hl] at h; exact absurd rfl h
 | cons t l=>simp
theorem qRH (s:PS) (g:FuncId) (cs:List PD) (f:Tok→Bool) (hf:∀ t:Tok,AFn Tryz.prog G g [t.enc,.ref cs] (.bool (f t))):AX Tryz.prog G 40 [.ptr 2 0,.func (.func g) [] [.cptr cs]] [(2,.vars 42 (psC s)),(3,.row 36 8 (s.nodes.map Nd.enc))] (.tuple [.agg (qP f s).1.1.cells,.p (.bool (qP f s).1.2)]) [2,3] [(2,.vars 42 (psC ((qP f s).2))),(3,.row 36 8 (((qP f s).2).nodes.map Nd.enc))]:=by
 refine AX.introU tok 900 Tryz.func40 (by kernel_rfl) rfl rfl ?_
 simp only [Tryz.f40,qN,List.map_cons,List.map_nil]
 have hN:qP f s=if (wZ s).kind=0∨f (wZ s)=false then ((qAG,false),s) else ((wZ s,true),{ s with left:=s.left.drop 1 }):=rfl
 rw [hN]
 have hp:=qYP (G:=G) s
 have hft:=hf (wZ s)
 have hpos:=qTV (s:=s)
 generalize wZ s=t at *
 generalize f t=b at *
 simp at hft
 refine rgn [] [[],[0,1,4]] ?_
 iterate 2 refine op1 tok ?_
 refine qA (rgn [] [[]] ?_)
 refine op1 tok ?_
 refine qD ?_
 refine qB.stepK [0,1,4,8] (qJ rfl hp (by simp)) (by conv=>lhs; simp) rfl ?_
 refine qB.run [[],[0,1,4,6]] ?_
 iterate 2 refine op1 tok ?_
 refine qA (AW.seq (rgn [.nilp,.bool b] [[],[],[],[],[0,4,6,12,13],[],[],[],[0,4,6,17]] ?_))
 iterate 4 refine op1 tok ?_ (hv:=by first | with_reducible exact True.intro | (first | exact hft | (simp; exact fun h=>⟨h,hft⟩); done) | omega | simp | (simp +contextual; omega))
 iterate 4 refine op2 tok ?_ (hv:=by first | with_reducible exact True.intro | (first | exact hft | (simp; exact fun h=>⟨h,hft⟩); done) | omega | simp | (simp +contextual; omega))
 refine op1 tok ?_ (hv:=by first | with_reducible exact True.intro | (first | exact hft | (simp; exact fun h=>⟨h,hft⟩); done) | omega | simp | (simp +contextual; omega))
 refine qA (cnd ?_ ?_)
 ·intro h17
  try simp at h17
  rw [if_pos (by simpa using h17)]
  refine rgn [] [[],[],[4,5]] ?_
  iterate 3 refine op1 tok ?_
  refine qA ?_
  exact AW.ret (qV (k:=by simp [qAG]))
 intro h17
 try simp at h17
 rw [if_neg (by simpa using h17)]
 have hpos:=hpos (by simpa using h17.1)
 have hdr:List.map Tok.enc (s.left.drop 1)=(List.map Tok.enc s.left).drop 1:=List.map_drop
 have hta:List.take s.left.length (List.map Tok.enc s.left)=List.map Tok.enc s.left:=List.take_of_length_le (by simp)
 refine AW.skip (rgn [] [[],[],[],[],[4,6,19,23],[],[],[],[4,6]] ?_)
 iterate 9 refine op1 tok ?_ (h:=by intro C; conv=>lhs; simp [hta])
 refine qA (rgn [] [[],[],[4,5]] ?_)
 iterate 3 refine op1 tok ?_
 refine qA ?_
 exact AW.ret (qV (k:=by simp [hdr]))
theorem qUF (s:PS) (g:FuncId) (f:Tok→Bool) (hf:∀ t:Tok,AFn Tryz.prog G g [t.enc] (.bool (f t))):AX Tryz.prog G 40 [.ptr 2 0,.p (.fn g)] [(2,.vars 42 (psC s)),(3,.row 36 8 (s.nodes.map Nd.enc))] (.tuple [.agg (qP f s).1.1.cells,.p (.bool (qP f s).1.2)]) [2,3] [(2,.vars 42 (psC ((qP f s).2))),(3,.row 36 8 (((qP f s).2).nodes.map Nd.enc))]:=by
 refine AX.introU tok 900 Tryz.func40 (by kernel_rfl) rfl rfl ?_
 simp only [Tryz.f40,qN,List.map_cons,List.map_nil]
 have hN:qP f s=if (wZ s).kind=0∨f (wZ s)=false then ((qAG,false),s) else ((wZ s,true),{ s with left:=s.left.drop 1 }):=rfl
 rw [hN]
 have hp:=qYP (G:=G) s
 have hft:=hf (wZ s)
 have hpos:=qTV (s:=s)
 generalize wZ s=t at *
 generalize f t=b at *
 simp at hft
 refine rgn [] [[],[0,1,4]] ?_
 iterate 2 refine op1 tok ?_
 refine qA (rgn [] [[]] ?_)
 refine op1 tok ?_
 refine qD ?_
 refine qB.stepK [0,1,4,8] (qJ rfl hp (by simp)) (by conv=>lhs; simp) rfl ?_
 refine qB.run [[],[0,1,4,6]] ?_
 iterate 2 refine op1 tok ?_
 refine qA (AW.seq (rgn [.nilp,.bool b] [[],[],[],[],[0,4,6,12,13],[],[],[],[0,4,6,17]] ?_))
 iterate 4 refine op1 tok ?_ (hv:=by first | with_reducible exact True.intro | (first | exact hft | (simp; exact fun h=>⟨h,hft⟩); done) | omega | simp | (simp +contextual; omega))
 iterate 4 refine op2 tok ?_ (hv:=by first | with_reducible exact True.intro | (first | exact hft | (simp; exact fun h=>⟨h,hft⟩); done) | omega | simp | (simp +contextual; omega))
 refine op1 tok ?_ (hv:=by first | with_reducible exact True.intro | (first | exact hft | (simp; exact fun h=>⟨h,hft⟩); done) | omega | simp | (simp +contextual; omega))
 refine qA (cnd ?_ ?_)
 ·intro h17
  try simp at h17
  rw [if_pos (by simpa using h17)]
  refine rgn [] [[],[],[4,5]] ?_
  iterate 3 refine op1 tok ?_
  refine qA ?_
  exact AW.ret (qV (k:=by simp [qAG]))
 intro h17
 try simp at h17
 rw [if_neg (by simpa using h17)]
 have hpos:=hpos (by simpa using h17.1)
 have hdr:List.map Tok.enc (s.left.drop 1)=(List.map Tok.enc s.left).drop 1:=List.map_drop
 have hta:List.take s.left.length (List.map Tok.enc s.left)=List.map Tok.enc s.left:=List.take_of_length_le (by simp)
 refine AW.skip (rgn [] [[],[],[],[],[4,6,19,23],[],[],[],[4,6]] ?_)
 iterate 9 refine op1 tok ?_ (h:=by intro C; conv=>lhs; simp [hta])
 refine qA (rgn [] [[],[],[4,5]] ?_)
 iterate 3 refine op1 tok ?_
 refine qA ?_
 exact AW.ret (qV (k:=by simp [hdr]))
theorem uH (s:PS) (l:List (List UInt8)):AX Tryz.prog G 17 [.ptr 2 0,.p (.sl 1 (l.map PD.str))] [(2,.vars 42 (psC (s))),(3,.row 36 8 ((s).nodes.map Nd.enc))] (.tuple [.p (.str (qT 6 l s).1.1),.p (.bool (qT 6 l s).1.2)]) [2,3] [(2,.vars 42 (psC ((qT 6 l s).2))),(3,.row 36 8 (((qT 6 l s).2).nodes.map Nd.enc))]:=by
 refine AX.introU tok 900 Tryz.func17 (by kernel_rfl) rfl rfl ?_
 simp only [Tryz.f17,qN,List.map_cons,List.map_nil]
 have hT:qT 6 l s=(((qP (wH 6 l) s).1.1.text,(qP (wH 6 l) s).1.2),(qP (wH 6 l) s).2):=rfl
 rw [hT]
 have hp:=qRH (G:=G) s 41 [.sl 1 (l.map PD.str)] (wH 6 l) (fun t=>zDN t l)
 generalize qP (wH 6 l) s=R at *
 obtain ⟨⟨t,b⟩,s'⟩:=R
 simp only at hp
 refine rgn [] [[],[],[0,3]] ?_
 iterate 3 refine op1 tok ?_
 refine qA (rgn [] [[],[]] ?_)
 iterate 2 refine op1 tok ?_
 refine qD ?_
 refine qB.freezeV 903 (by conv=>lhs; simp) ?_
 refine qB.stepK [11] (qJ rfl hp (by simp)) (by conv=>lhs; simp) rfl ?_
 refine qB.run [[],[],[],[],[],[6,7]] ?_
 iterate 6 refine op1 tok ?_
 refine qA (rgn [] [[],[],[],[4,16],[4,5]] ?_)
 iterate 5 refine op1 tok ?_
 refine qA ?_
 exact AW.ret qV
theorem qQN (s:PS) (l:List (List UInt8)):AX Tryz.prog G 19 [.ptr 2 0,.p (.sl 1 (l.map PD.str))] [(2,.vars 42 (psC (s))),(3,.row 36 8 ((s).nodes.map Nd.enc))] (.tuple [.p (.str (qT 1 l s).1.1),.p (.bool (qT 1 l s).1.2)]) [2,3] [(2,.vars 42 (psC ((qT 1 l s).2))),(3,.row 36 8 (((qT 1 l s).2).nodes.map Nd.enc))]:=by
 refine AX.introU tok 900 Tryz.func19 (by kernel_rfl) rfl rfl ?_
 simp only [Tryz.f19,qN,List.map_cons,List.map_nil]
 have hT:qT 1 l s=(((qP (wH 1 l) s).1.1.text,(qP (wH 1 l) s).1.2),(qP (wH 1 l) s).2):=rfl
 rw [hT]
 have hp:=qRH (G:=G) s 44 [.sl 1 (l.map PD.str)] (wH 1 l) (fun t=>zCL t l)
 generalize qP (wH 1 l) s=R at *
 obtain ⟨⟨t,b⟩,s'⟩:=R
 simp only at hp
 refine rgn [] [[],[],[0,3]] ?_
 iterate 3 refine op1 tok ?_
 refine qA (rgn [] [[],[]] ?_)
 iterate 2 refine op1 tok ?_
 refine qD ?_
 refine qB.freezeV 903 (by conv=>lhs; simp) ?_
 refine qB.stepK [11] (qJ rfl hp (by simp)) (by conv=>lhs; simp) rfl ?_
 refine qB.run [[],[],[],[],[],[6,7]] ?_
 iterate 6 refine op1 tok ?_
 refine qA (rgn [] [[],[],[],[4,16],[4,5]] ?_)
 iterate 5 refine op1 tok ?_
 refine qA ?_
 exact AW.ret qV
theorem qEL (s:PS) (l:List Int):AX Tryz.prog G 20 [.ptr 2 0,.p (.sl 1 (l.map (PD.int .i64)))] [(2,.vars 42 (psC (s))),(3,.row 36 8 ((s).nodes.map Nd.enc))] (.agg (zD l s).1.cells) [2,3] [(2,.vars 42 (psC ((zD l s).2))),(3,.row 36 8 (((zD l s).2).nodes.map Nd.enc))]:=by
 refine AX.introU tok 900 Tryz.func20 (by kernel_rfl) rfl rfl ?_
 simp only [Tryz.f20,qN,List.map_cons,List.map_nil]
 have hT:zD l s=((qP (fun t=>decide (t.kind∈l)) s).1.1,qK (qP (fun t=>decide (t.kind∈l)) s).1.2 (qP (fun t=>decide (t.kind∈l)) s).2):=rfl
 rw [hT]
 have hp:=qRH (G:=G) s 45 [.sl 1 (l.map (PD.int .i64))] (fun t=>decide (t.kind∈l)) (fun t=>zEP t l)
 generalize qP (fun t=>decide (t.kind∈l)) s=R at *
 obtain ⟨⟨t,b⟩,s'⟩:=R
 simp only at hp
 have hm:=xX (G:=G) s' b
 refine rgn [] [[],[0,3,4]] ?_
 iterate 2 refine op1 tok ?_
 refine qA (rgn [] [[],[]] ?_)
 iterate 2 refine op1 tok ?_
 refine qD ?_
 refine qB.freezeV 903 (by conv=>lhs; simp) ?_
 refine qB.stepK [0,4,10] (qJ rfl hp (by simp)) (by conv=>lhs; simp) rfl ?_
 refine qB.run [[],[],[],[],[],[0,4,5,6]] ?_
 iterate 6 refine op1 tok ?_
 refine qA (rgn [] [[],[]] ?_)
 iterate 2 refine op1 tok ?_
 refine qD ?_
 refine qB.stepK [4,5] (qJ rfl hm (by simp)) (by conv=>lhs; simp) rfl ?_
 refine qB.nil ?_
 refine rgn [] [[],[4]] ?_
 iterate 2 refine op1 tok ?_
 refine qA ?_
 exact AW.ret qV
theorem vK (s:PS) (o:Int) (t:List UInt8) (l:List Int) (hn:s.nodes.length≤1000000):AX Tryz.prog G 18 [.ptr 2 0,.p (.int .i64 o),.p (.str t),.p (.sl 1 (l.map (PD.int .i64)))] [(2,.vars 42 (psC (s))),(3,.row 36 8 ((s).nodes.map Nd.enc))] (.p (.int .i64 (opP o t l s).1)) [2] [(2,.vars 42 (psC ((opP o t l s).2))),(3,.row 36 8 (((opP o t l s).2).nodes.map Nd.enc))]:=by
 refine AX.introU tok 900 Tryz.func18 (by kernel_rfl) rfl rfl ?_
 simp only [Tryz.f18,qN,List.map_cons,List.map_nil]
 have hp:=qBH (G:=G) s ⟨o,0,t,⟨false,[],0⟩,[],l⟩ rfl hn
 have hT:opP o t l s=wF ⟨o,0,t,⟨false,[],0⟩,[],l⟩ s:=rfl
 rw [hT]
 simp at hp
 refine rgn [] [[0,1,2,3]] ?_
 refine op1 tok ?_
 refine qA (rgn [] [[],[],[],[9,10,11,12],[]] ?_)
 iterate 5 refine op1 tok ?_
 refine qD ?_
 refine qB.stepK [14] (qJ rfl hp (by simp)) (by conv=>lhs; simp) rfl ?_
 refine qB.run [[8]] ?_
 refine op1 tok ?_
 refine qA ?_
 exact AW.ret qV
theorem qDH (s:PS) (o:Int) (t:List UInt8) (hn:s.nodes.length≤1000000):AX Tryz.prog G 18 [.ptr 2 0,.p (.int .i64 o),.p (.str t),.nilsl] [(2,.vars 42 (psC (s))),(3,.row 36 8 ((s).nodes.map Nd.enc))] (.p (.int .i64 (opP o t [] s).1)) [2] [(2,.vars 42 (psC ((opP o t [] s).2))),(3,.row 36 8 (((opP o t [] s).2).nodes.map Nd.enc))]:=by
 refine AX.introU tok 900 Tryz.func18 (by kernel_rfl) rfl rfl ?_
 simp only [Tryz.f18,qN,List.map_cons,List.map_nil]
 have hp:=jU (G:=G) s ⟨o,0,t,⟨false,[],0⟩,[],[]⟩ rfl rfl hn
 have hT:opP o t [] s=wF ⟨o,0,t,⟨false,[],0⟩,[],[]⟩ s:=rfl
 rw [hT]
 simp at hp
 refine rgn [] [[0,1,2,3]] ?_
 refine op1 tok ?_
 refine qA (rgn [] [[],[],[],[9,10,11,12],[]] ?_)
 iterate 5 refine op1 tok ?_
 refine qD ?_
 refine qB.stepK [14] (qJ rfl hp (by simp)) (by conv=>lhs; simp) rfl ?_
 refine qB.run [[8]] ?_
 refine op1 tok ?_
 refine qA ?_
 exact AW.ret qV
end Go.Proofs.YtbhhphabggcacaaGreatDoor
namespace Go.Proofs.YtbhhphabggcacaaGreatDoor.Sy
open Go
set_option linter.unusedSimpArgs false
section
variable {P:Program} {T:Tab} {G:qS} {Q:Exit→St→Prop} {st st':St}
def zEI (ks:List (List UInt8)) (s:List UInt8):List (List UInt8):=if s∈ks then ks else ks++[s]
def zEH (ks:List (List UInt8)) (vs:List V) (s:List UInt8) (v:V):List V:=if s∈ks then vs.set (ks.idxOf s) v else vs++[v]
theorem zBI {α:Type} [BEq α] [LawfulBEq α] {l:List α} (h:l.Nodup) {j:Nat} {x:α} (hj:l[j]?=some x):l.idxOf x=j:=by
 obtain ⟨hl,hx⟩:=List.getElem?_eq_some_iff.1 hj
 rw [← hx]
 exact h.idxOf_getElem j hl
theorem qSI (hT : TOK P T) {o : Oper} {t : TypeId} {m k y : Operand} {kt et : TypeId} {p q q' : Prop} {id : Nat} {s : List UInt8} {v : V} {ks : List (List UInt8)} {vs : List V} (ho : o.op = .mapUpdate t m k y) (hk : yD T t = some (.map kt et)) (hkt : yD T kt = some .str)
  (h1:st.arg G m=(p,.ms id)) (hp:p) (h2:st.arg G k=(q,.p (.str s))) (hq:q) (h3:st.arg G y=(q',v)) (hq':q') (hb:yB id st.H=some (.mp ks vs)) (hnd:ks.Nodup):zN P G o st .dead { st with H:=yE id (.mp (zEI ks s) (zEH ks vs s v)) st.H }:=by
 intro c M μ tmps w hg r
 have hd:=hT.map hk
 have hdk:=hT.str hkt
 have e1:=qE hg r h1 hp
 have e2:=(qE hg r h2 hq).p_inv
 have e3:=qE hg r h3 hq'
 generalize hu1:Act.eval ⟨tmps,[]⟩ m=u1 at e1
 generalize hu2:Act.eval ⟨tmps,[]⟩ k=u2 at e2
 generalize hu3:Act.eval ⟨tmps,[]⟩ y=u3 at e3
 cases e1 with
 | ms hval hone =>
 cases e2 with
 | @str ba _ hba hlen =>
 have hm:=zX hb
 have hbx:=r.box id _ hm
 cases hbx with
 | @mp _ _ b clock es h0 hv h3 hB h4 h5 h6 h7 =>
 rw [hv] at hval
 subst hval
 have hks:∀ x∈es.toList,MapKept.IsKey .string x.key:=by
  intro x hx
  obtain ⟨i,hi,rfl⟩:=List.mem_iff_getElem.1 hx
  have hi':i<es.size:=by simpa using hi
  obtain ⟨ba',he,_⟩:=h6 i es[i] ks[i] (by simp [hi']) (by simp [show i<ks.length by omega])
  simp only [Array.getElem_toList]
  rw [he]; trivial
 have hik:MapKept.IsKey .string (.string ba):=trivial
 have hbl:b<w.heap.size:=(r.own id b (qG.2 ⟨_,hm⟩) h0).2.1
 rcases MapKept.findNow_spec hik es.toList 0 hks with ⟨g1,g2⟩ | ⟨j,e',g1,g2,g3⟩
 ·have hnk:s ∉ ks:=by
   intro hmem
   obtain ⟨i,hi,rfl⟩:=List.mem_iff_getElem.1 hmem
   have hi':i<es.size:=by omega
   obtain ⟨ba',he,hbs⟩:=h6 i es[i] ks[i] (by simp [hi']) (by simp [hi])
   refine g2 es[i] (by simp) ?_
   rw [he]
   congr 1
   exact zFX (hbs.1.trans hba.symm)
  have e:(execOp (Act.eval ⟨tmps,[]⟩) o).run P w = .ok .skip { w with heap:=w.heap.setIfInBounds b (.map (es.push { key := .string ba,val:=u3,born:=clock }) (clock+1)) }:=by
   simp [execOp,ho,hu1,hu2,hu3,Instr.mapUpdate,run_underlying hd,MapKept.run_getObj_map h3,MapKept.run_checkKey hdk hik,MapKept.run_findKey hdk g1,MapKept.run_setObj_map _ h3,Result.andThen]
  rw [e]
  simp only [zEI,zEH,if_neg hnk]
  refine ⟨M,μ,r.write (qG.2 ⟨_,hm⟩) h0 ⟨rfl,rfl,rfl,by simp,fun k hk=>by simp [Array.getElem?_setIfInBounds_ne (Ne.symm hk)]⟩ (.mp (clock:=clock+1) (es:=es.push { key := .string ba,val:=u3,born:=clock }) h0 hv ?_ (hB.push _ _) (by simp [h4]) (by simp [h5]) ?_ ?_),.dead⟩
  ·simp [Array.getElem?_setIfInBounds,hbl]
  ·intro i e k he hk'
   rw [Array.getElem?_push] at he
   split at he
   ·rename_i hi; cases he
    rw [List.getElem?_append_right (by omega),hi,h4] at hk'
    simp at hk'; subst hk'
    exact ⟨ba,rfl,hba,hlen⟩
   have hi:i<es.size:=(Array.getElem?_eq_some_iff.1 he).1
   rw [List.getElem?_append_left (by omega)] at hk'
   exact h6 i e k he hk'
  intro i e x he hx
  rw [Array.getElem?_push] at he
  split at he
  ·rename_i hi; cases he
   rw [List.getElem?_append_right (by omega),hi,h5] at hx
   simp at hx; subst hx
   exact e3
  have hi:i<es.size:=(Array.getElem?_eq_some_iff.1 he).1
  rw [List.getElem?_append_left (by omega)] at hx
  exact h7 i e x he hx
 have hje:es[j]?=some e':=by simpa using g2
 have hj:j<es.size:=(Array.getElem?_eq_some_iff.1 hje).1
 have hkj:ks[j]?=some s:=by
  obtain ⟨ba',he,hbs⟩:=h6 j e' ks[j] hje (by simp [show j<ks.length by omega])
  rw [g3] at he
  cases he
  rw [List.getElem?_eq_getElem (by omega),← hbs.1,hba]
 have hmk:s∈ks:=List.mem_of_getElem? hkj
 have hidx:=zBI hnd hkj
 have e:(execOp (Act.eval ⟨tmps,[]⟩) o).run P w = .ok .skip { w with heap:=w.heap.setIfInBounds b (.map (es.modify j fun e=>{ e with key := .string ba,val:=u3 }) clock) }:=by
  simp [execOp,ho,hu1,hu2,hu3,Instr.mapUpdate,run_underlying hd,MapKept.run_getObj_map h3,MapKept.run_checkKey hdk hik,MapKept.run_findKey hdk g1,hje,g3,MapKept.run_keyThatStays hik,MapKept.run_setObj_map _ h3,Result.andThen]
 rw [e]
 simp only [zEI,zEH,if_pos hmk,hidx]
 have hmod:∀ (i:Nat) (e:MapEntry),(es.modify j fun e=>{ e with key := .string ba,val:=u3 })[i]?=some e→∃ e0,es[i]?=some e0∧e=if i=j then { e0 with key := .string ba,val:=u3 } else e0:=fun i e he=>by
  rw [Array.getElem?_modify] at he
  split at he
  ·rename_i hi; subst hi
   obtain ⟨e0,h0,rfl⟩:=Option.map_eq_some_iff.1 he
   exact ⟨e0,h0,by rw [if_pos rfl]⟩
  rename_i hi; exact ⟨e,he,by rw [if_neg (fun h=>hi h.symm)]⟩
 have hborn:(es.modify j fun e=>{ e with key := .string ba,val:=u3 }).toList.map (·.born)=es.toList.map (·.born):=by
  apply List.ext_getElem?
  intro i
  simp only [List.getElem?_map,Array.getElem?_toList,Array.getElem?_modify]
  split
  ·simp [Option.map_map,Function.comp_def]
  rfl
 refine ⟨M,μ,r.write (qG.2 ⟨_,hm⟩) h0 ⟨rfl,rfl,rfl,by simp,fun k hk=>by simp [Array.getElem?_setIfInBounds_ne (Ne.symm hk)]⟩ (.mp (clock:=clock) (es:=es.modify j fun e=>{ e with key := .string ba,val:=u3 }) h0 hv ?_ ⟨fun x hx => ?_,by rw [hborn]; exact hB.2⟩ (by simpa using h4) (by simpa using h5) ?_ ?_),.dead⟩
 ·simp [Array.getElem?_setIfInBounds,hbl]
 ·have:x.born∈es.toList.map (·.born):=by rw [← hborn]; exact List.mem_map.2 ⟨x,hx,rfl⟩
  obtain ⟨y,hy,hyb⟩:=List.mem_map.1 this
  have:=hB.1 y hy
  omega
 ·intro i e k he hk'
  obtain ⟨e0,he0,rfl⟩:=hmod i e he
  split
  ·rename_i hi; subst hi
   rw [hkj] at hk'; cases hk'
   exact ⟨ba,rfl,hba,hlen⟩
  exact h6 i e0 k he0 hk'
 intro i e x he hx
 obtain ⟨e0,he0,rfl⟩:=hmod i e he
 rw [List.getElem?_set] at hx
 split at hx
 ·rename_i hi; subst hi
  split at hx
  ·cases hx; rw [if_pos rfl]; exact e3
  cases hx
 rename_i hi
 rw [if_neg (fun h=>hi h.symm)]
 exact h7 i e0 x he0 hx
theorem zCG (hT : TOK P T) {o : Oper} {t el : TypeId} {x y : Operand} (ho : o.op = .slice t x none (some y) none) (ht : yD T t = some (.sl el)) {p q : Prop} {id : Nat} {kd : IntKind} {z : Int} (n : Nat)
  (h1:st.arg G x=(p,.ms id)) (hp:p) (h2:st.arg G y=(q,.p (.int kd z))) (hq:q) {e sz:Nat} {es:List PD} {ti:TI} (hti:T el=some ti) (hb:yB id st.H=some (.row e sz es)) (hn:n≤es.length) (hz:z=(n:Int)) :
  zN P G o st (.ms id) { st.kill id with H:=(id,.row e sz (es.take n))::(st.kill id).H }:=by
 subst hz
 intro c M μ tmps w hg r
 have hd:=hT.sl ht
 obtain ⟨i,de,hi',_,_,hsz,_⟩:=hT.get hti
 have hso:(sizeOf el).run P w = .ok ti.size w:=by simp [sizeOf,typeInfo,hi',hsz]
 have e1:=qE hg r h1 hp
 have e2:=(qE hg r h2 hq).p_inv
 generalize hu1:Act.eval ⟨tmps,[]⟩ x=u1 at e1
 generalize hu2:Act.eval ⟨tmps,[]⟩ y=u2 at e2
 cases e1 with
 | ms hval hone =>
 cases e2 with
 | int _ _ =>
 have hm:=zX hb
 have hk:qM id st.H=true:=qG.2 ⟨_,hm⟩
 have rk:=r.kill id
 have hbx:=r.box id _ hm
 cases hbx with
 | rowN h0 hv =>
  rw [hv] at hval
  subst hval
  obtain rfl:n=0:=by simpa using hn
  have hbd:=xI (P:=P) (isSlice:=true) (len:=0) (cap:=0) (lo:=none) (hi:=some (.int kd 0)) (l:=0) (h:=0) (.inl ⟨rfl,rfl⟩) (.inr ⟨kd,rfl⟩) (by omega) (by omega) (by omega) w
  have er:(execOp (Act.eval ⟨tmps,[]⟩) o).run P w = .ok (.value (.slice none 0 0)) w:=by
   simp at hbd
   simp [execOp,ho,hu1,hu2,Instr.sliceAt,Instr.slice,run_underlying hd,hbd,hso]
  rw [er]
  exact ⟨M,upd μ id ⟨none,.slice none 0 0⟩,rk.adopt (l:=⟨none,.slice none 0 0⟩) (qAC st id) (fun b hb=>by cases hb) (.rowN (by rw [qZ]) (by rw [qZ])),.ms (by rw [qZ]) rfl⟩
 | @row _ _ _ b cap arr h0 hv hh has hlc hcm hone' hz hcc =>
  rw [hv] at hval
  subst hval
  have hbd:=xI (P:=P) (isSlice:=true) (len:=es.length) (cap:=cap) (lo:=none) (hi:=some (.int kd n)) (l:=0) (h:=n) (.inl ⟨rfl,rfl⟩) (.inr ⟨kd,rfl⟩) (by omega) (by omega) (by omega) w
  have er:(execOp (Act.eval ⟨tmps,[]⟩) o).run P w = .ok (.value (.slice (some ⟨b,0,none⟩) n cap)) w:=by
   simp at hbd
   have ha:(if cap=0 then (some (⟨b,0,none⟩:Addr)) else (some (⟨b,0,none⟩:Addr)).map (·.add (0 * ti.size)))=some ⟨b,0,none⟩:=by
    split
    ·rfl
    simp [Addr.add]
   simp [execOp,ho,hu1,hu2,Instr.sliceAt,Instr.slice,run_underlying hd,hbd,hso]
   try simpa using ha
  rw [er]
  have hown:=r.own id b hk h0
  refine ⟨M,upd μ id ⟨some b,.slice (some ⟨b,0,none⟩) n cap⟩,rk.adopt (l:=⟨some b,.slice (some ⟨b,0,none⟩) n cap⟩) (qAC st id) (fun b' hb' => ?_) (.row (cap:=cap) (by rw [qZ]) (by rw [qZ]; simp [Nat.min_eq_left hn]) hh has (by simp; omega) hcm hone' (fun i e' he=>hz i e' ?_) fun i e' j d u he hd hu=>hcc i e' j d u ?_ hd hu),.ms (by rw [qZ]) rfl⟩
  ·cases hb'; exact ⟨hown.1,hown.2.1,hown.2.2,qML r hk h0⟩
  ·rw [List.getElem?_take] at he; split at he
   ·exact he
   cases he
  rw [List.getElem?_take] at he; split at he
  ·exact he
  cases he
theorem qNT {o : Oper} {st : St} {x a b : Operand} {tys : Array TypeId} {f : FuncId} (he : qZV P f Extern.BytealgCount.count)
  (ho:o.op = .call { callee := .value x,args := #[a,b],argTypes:=tys }) {p q r:Prop} {s:List UInt8} {n:Int} (hf:st.arg G x=(p,.p (.fn f))) (hp:p)
  (ha:st.arg G a=(q,.p (.str s))) (hq:q) (hb:st.arg G b=(r,.p (.int .u8 n))) (hr:r):zN P G o st (.p (.int .i64 (s.count n.toNat.toUInt8:Nat))) st:=by
 intro c M μ tmps w hg rel
 have h1:=(qE hg rel hf hp).p_inv
 have h2:=(qE hg rel ha hq).p_inv
 have h3:=(qE hg rel hb hr).p_inv
 generalize hu1:Act.eval ⟨tmps,[]⟩ x=u1 at h1
 generalize hu2:Act.eval ⟨tmps,[]⟩ a=u2 at h2
 generalize hu3:Act.eval ⟨tmps,[]⟩ b=u3 at h3
 cases h1
 cases h3
 cases h2 with
 | @str bb _ hs hm =>
 have e:(execOp (Act.eval ⟨tmps,[]⟩) o).run P w = .ok (.value (.int .i64 (s.count n.toNat.toUInt8:Nat))) w:=by
  have e1:=he #[.string bb,.int .u8 n] w
  rw [Lib.run_countString] at e1
  subst hs
  simp only [execOp,ho,resolve,Deferred.ofValue,hu1,invoke]
  simpa [hu2,hu3,Lib.countByte] using e1
 rw [e]
 have hc:s.count n.toNat.toUInt8≤s.length:=List.count_le_length
 simp [maxLen] at hm
 exact ⟨M,μ,rel,.p (Rd.intOf (by simp [kV]) (by simp only [kW]; omega))⟩
theorem zKY (k:Nat) {t:TypeId} {ms:Array (String × TypeId)} (ht:P.underlying t=some (.interface ms)) (t':TypeId) (v':Value) (w:World):(Op.equalIn (k+1) t (.iface t' v') .nilIface).run P w = .ok false w:=by
 simp [Op.equalIn,run_underlying ht]
theorem zFG (k:Nat) {t:TypeId} {ms:Array (String × TypeId)} (ht:P.underlying t=some (.interface ms)) (w:World):(Op.equalIn (k+1) t .nilIface .nilIface).run P w = .ok true w:=by
 simp [Op.equalIn,run_underlying ht]
def qRL (P:Program) (t:TypeId):Bool:=match P.underlying t with
 | some (.interface _)=>true
 | _=>false
theorem qRK {P:Program} {t:TypeId} (h:qRL P t=true):∃ ms,P.underlying t=some (.interface ms):=by
 unfold qRL at h
 split at h
 ·exact ⟨_,by assumption⟩
 cases h
end
mutual
def PD.flat:PD→Bool
 | .bool _=>true
 | .int _ _=>true
 | .str _=>true
 | .nilp=>true
 | .nilf=>true
 | .noerr=>true
 | .err=>true
 | .fn _=>true
 | .agg cs=>PD.flatL cs
 | .tup cs=>PD.flatL cs
 | .sl _ _=>false
 | .clo _ _=>false
 | .ref _=>false
def PD.flatL:List PD→Bool
 | []=>true
 | d::ds=>PD.flat d && PD.flatL ds
end
theorem qIR:∀ {l:List PD},PD.flatL l=true→∀ {i:Nat} {d:PD},l[i]?=some d→d.flat=true
 | [],_,i,d,h=>by simp at h
 | e::l,h,i,d,hd=>by
  simp only [PD.flatL,Bool.and_eq_true] at h
  cases i with
  | zero=>simp at hd; subst hd; exact h.1
  | succ i=>simp at hd; exact qIR h.2 hd
theorem Rd.flat {M M':zE} {u:Value} {d:PD} (r:Rd M u d):d.flat=true→Rd M' u d:=by
 induction r with
 | bool b=>exact fun _ => .bool b
 | int h1 h2=>exact fun _ => .int h1 h2
 | str h1 h2=>exact fun _ => .str h1 h2
 | @agg arr cs h1 h2 h3 ih =>
  intro h
  simp only [PD.flat] at h
  exact .agg h1 h2 fun i u d hu hd=>ih i u d hu hd (qIR h hd)
 | @tup arr cs h1 h2 ih =>
  intro h
  simp only [PD.flat] at h
  exact .tup h1 fun i u d hu hd=>ih i u d hu hd (qIR h hd)
 | sl=>intro h; simp only [PD.flat] at h; cases h
 | fn f=>exact fun _ => .fn f
 | clo=>intro h; simp only [PD.flat] at h; cases h
 | ref=>intro h; simp only [PD.flat] at h; cases h
 | nilp=>exact fun _ => .nilp
 | nilf=>exact fun _ => .nilf
 | noerr=>exact fun _ => .noerr
 | err=>exact fun _ => .err
section
variable {P:Program} {T:Tab} {G:qS} {Q:Exit→St→Prop} {st st':St}
theorem Rel.freezeAll {c:Ctx} {μ:Mu} {tmps:Array Value} {w:World}:∀ (ids:List Nat) {M:zE} {st:St},Rel c M μ st tmps w→∃ M',Rel c M' μ (freezeAll st ids) tmps w
 | [],M,_,r=>⟨M,r⟩
 | i::l,M,st,r=>by
  obtain ⟨M1,r1⟩:=r.freeze i
  exact Rel.freezeAll l r1
theorem qWC (ids : List Nat) {o : Oper} {x : Operand} {args : Array Operand} {tys : Array TypeId} {f : FuncId} {asl : List PD} {r : PD} {p : Prop} (ho : o.op = .call { callee := .value x, args := args, argTypes := tys })
  (hf:(freezeAll st ids).arg G x=(p,.p (.fn f))) (hp:p) (hc:AFn P G f asl r) (hq:qEU (args.toList.map fun y=>((freezeAll st ids).arg G y).1)) (hfit:V.fitsL [] (args.toList.map fun y=>((freezeAll st ids).arg G y).2) asl) (hfl:r.flat=true):zN P G o st (.p r) st:=by
 intro c M μ tmps w hg rel0
 obtain ⟨M1,rel⟩:=rel0.freezeAll ids
 have h1:=(qE hg rel hf hp).p_inv
 generalize hu:Act.eval ⟨tmps,[]⟩ x=u at h1
 cases h1
 have hsize:args.size=asl.length:=by
  have:=V.fitsL_len hfit
  simpa using this
 have e:(execOp (Act.eval ⟨tmps,[]⟩) o).run P w = .ok (.enter f (args.map (Act.eval ⟨tmps,[]⟩))) w:=by
  simp [execOp,ho,resolve,Deferred.ofValue,hu,invoke,jT hc.1]
 rw [e]
 have hrd:∀ (i:Nat) u d,(args.map (Act.eval ⟨tmps,[]⟩))[i]?=some u→asl[i]?=some d→Rd M1 u d:=by
  intro i u d hu hd
  rw [Array.getElem?_map] at hu
  obtain ⟨y,hy,rfl⟩:=Option.map_eq_some_iff.1 hu
  have hyl:args.toList[i]?=some y:=by simpa using hy
  have h2:(args.toList.map fun y=>((freezeAll st ids).arg G y).2)[i]?=some ((freezeAll st ids).arg G y).2:=by rw [List.getElem?_map,hyl]; rfl
  have hv:=qE (x:=y) hg rel rfl (uB hq _ (List.mem_map.2 ⟨y,List.mem_of_getElem? hyl,rfl⟩))
  exact xP hv (V.fitsL_get hfit h2 hd)
 refine (hc.2 M1 w _ (hg.go rel) rel.mem (by simp [hsize]) hrd).mono ?_
 rintro e w' ⟨v,M',rfl,hv,hmem,hM,hold,hbel⟩
 exact ⟨v,rfl,M,μ,rel0.same (Grows.of_below hbel),.p (hv.flat hfl)⟩
end
section
variable {P:Program} {T:Tab} {G:qS}
theorem AX.ren {f:FuncId} {xs:List V} {H:List (Nat × Box)} {r:V} {ps:List Nat} {H':List (Nat × Box)} (i j:Nat) (h:AX P G f xs H r ps H') (hf:(⟨[r],ps,H',0⟩:St).fresh j=true):AX P G f xs H (r.ren i j) (ps.filter (· != i)) (qOB i j H'):=by
 refine ⟨h.1,fun M μ w vs hg rel=>(h.2 M μ w vs hg rel).mono ?_⟩
 rintro e w' ⟨v,M',μ',rfl,r'⟩
 have:=r'.ren (i:=i) hf
 exact ⟨v,M',_,rfl,by simpa only [St.ren,V.renL] using this⟩
end
section
variable {P:Program} {T:Tab} {G:qS} {Q:Exit→St→Prop} {l:List Oper} {m:Nat} {tss:List (List Nat)} {sms:List Sm}
inductive DRun (P:Program) (G:qS) (st0:St):List Oper→List (List Nat)→St→List Sm→St→Prop
 | nil {tss:List (List Nat)} {st:St}:(st.H.map (·.1)).Nodup→DRun P G st0 [] tss st [] st
 | one {o : Oper} {rest : List Oper} {ts : List Nat} {tss : List (List Nat)} {st st2 : St} {s : Sm} {zs : List Sm} : o.guard = none → (st.H.map (·.1)).Nodup → Facts st0 s → (∀ p ∈ s.H, p ∈ st.H) →
   (∀ c M μ st' tmps w R K,xR G c→Rel c M μ st' tmps w→jE st'.tmps (kJ st.tmps ts)→(∀ id bx,(id,bx)∈s.H→(id,bx)∈st'.H)→(∀ n∈s.new,({ st' with H:=zU (s.H.map (·.1)) st'.H }:St).fresh n=true) →
    (∀ u w' M' μ' H2,Rel c M' μ' { st' with H:=H2 } tmps w'→RV M' μ' u s.x→(∀ p,p∈H2↔p∈s.H'∨(p∈st'.H∧p.1 ∉ s.H.map (·.1)))→K (Act.put ⟨tmps,[]⟩ o.dst u) w')→o.wp P ⟨tmps,[]⟩ w K R) →
   DRun P G st0 rest tss (st.after o.dst s) zs st2→DRun P G st0 (o::rest) (ts::tss) st (s::zs) st2
theorem DRun.len {st0:St} {rest:List Oper} {ts:List (List Nat)} {st st2:St} {zs:List Sm} (h:DRun P G st0 rest ts st zs st2):zs.length=rest.length:=by
 induction h with
 | nil=>rfl
 | one _ _ _ _ _ _ ih=>simp [ih]
theorem DRun.told (hchk : wN l m tss = true) (hconf : vW l m (sms.map Sm.sum) = true) {st0 : St} {rest : List Oper} {ts : List (List Nat)} {st st2 : St} {zs : List Sm} (h : DRun P G st0 rest ts st zs st2) : ∀ k : Nat,
  rest=(l.take m).drop k→ts=tss.drop k→zs=sms.drop k→k≤m→sms.length=m→st.pins=st0.pins→st.base=st0.base→DoneD l m sms st0 (fun j=>decide (j<k)) st.tmps st.H →
  (∀ i,k≤i→i<m→Told P G l m sms st0 i)∧st2.pins=st0.pins∧st2.base=st0.base∧DoneD l m sms st0 (fun j=>decide (j<m)) st2.tmps st2.H∧(st2.H.map (·.1)).Nodup:=by
 induction h with
 | @nil ts st hnd =>
  intro k hr _ hz hk hxl hp hb D
  have hkm:k=m:=by
   have h3:(List.drop k (List.take m l)).length=0:=by rw [← hr]; rfl
   have:=qBV hchk
   simp at h3
   omega
  subst hkm
  exact ⟨fun i h1 h2=>by omega,hp,hb,D,hnd⟩
 | @one o rest t1 tss1 st st2 s zs hgd hnd F hsub hgo _ ih =>
  intro k hr hts hz hk hxl hp hb D
  have hkm:k<m:=by
   have h3:(List.drop k (List.take m l)).length=rest.length+1:=by rw [← hr]; rfl
   simp at h3
   omega
  obtain ⟨o',ho',htk,hsep⟩:=vD hchk hkm
  have hoo:o=o':=by
   have h3:(List.drop k (List.take m l))[0]?=some o:=by rw [← hr]; rfl
   rw [List.getElem?_drop,List.getElem?_take,Nat.add_zero,if_pos hkm,ho'] at h3
   cases h3; rfl
  subst hoo
  have hrest:rest=(l.take m).drop (k+1):=by
   have:=congrArg (List.drop 1) hr
   simpa [List.drop_drop,Nat.add_comm] using this
  have ht1:t1=o.looksAt l.toArray:=by
   have h3:(List.drop k tss)[0]?=some t1:=by rw [← hts]; rfl
   rw [List.getElem?_drop,Nat.add_zero,htk] at h3
   cases h3; rfl
  have hts1:tss1=tss.drop (k+1):=by
   have:=congrArg (List.drop 1) hts
   simpa [List.drop_drop,Nat.add_comm] using this
  have hdk:kA l k=o.dst:=by simp [kA,ho']
  have hxk:sms[k]?=some s:=by
   have h3:(List.drop k sms)[0]?=some s:=by rw [← hz]; rfl
   rw [List.getElem?_drop,Nat.add_zero] at h3; exact h3
  have hz':zs=sms.drop (k+1):=by
   have:=congrArg (List.drop 1) hz
   simpa [List.drop_drop,Nat.add_comm] using this
  have D':DoneD l m sms st0 (fun j=>decide (j<k+1)) (st.after o.dst s).tmps (st.after o.dst s).H:=by
   have:=D.go hchk hconf (DC.below hchk k) (L':=fun j=>decide (j<k+1)) hkm hdk hxk (by simp) F (fun j=>by
    by_cases h1:j<k
    ·simp [h1,show j<k+1 by omega]
    by_cases h2:j=k
    ·simp [h2]
    simp [h1,h2,show ¬ j<k+1 by omega]) hsub hnd (H2:=s.H'++zU (s.H.map (·.1)) st.H) (fun p=>by rw [List.mem_append,jD])
   have e1:(st.after o.dst s).tmps=qOC st.tmps o.dst s.x:=by cases hq:o.dst <;> rfl
   rw [e1]; exact this
  have e2:(st.after o.dst s).pins=st.pins:=by cases hq:o.dst <;> rfl
  have e3:(st.after o.dst s).base=st.base:=by cases hq:o.dst <;> rfl
  obtain ⟨h1,h2,h3⟩:=ih (k+1) hrest hts1 hz' hkm hxl (e2.trans hp) (e3.trans hb) D'
  refine ⟨fun i hi1 hi2 => ?_,h2,h3⟩
  rcases Nat.eq_or_lt_of_le hi1 with e | e
  ·subst e
   subst ht1
   exact ⟨o,s,st.tmps,st.H,ho',hxk,D,F,hsub,qJQ ho' hgd hgo⟩
  exact h1 i e hi2
theorem AW.runDraw1 (hmix : P.follows .mixedOrders = true) (m : Nat) (tss : List (List Nat)) {id : Nat} {st st1 : St} {sms : List Sm} (hchk : wN l m tss = true)
  (h1:DRun P G st (l.take m) tss st sms st1) (hconf:vW l m (sms.map Sm.sum)=true) (hlate:zH P G l.toArray Q (l.drop m) st1) :
  AW P G (.region id l.toArray true) Q st:=by
 intro c M μ tmps w hg r
 refine wp_region_any hmix ?_
 have hml:=qBV hchk
 have hxl:sms.length=m:=by
  rw [h1.len]; simp; omega
 obtain ⟨hgo,hp2,_,D2,hnd2⟩:=h1.told hchk hconf 0 (by simp) (by simp) (by simp) (Nat.zero_le _) hxl rfl rfl (DoneD.put0 st)
 have hsize:l.toArray.size=l.length:=by simp
 refine qND hchk hconf st (fun i hi=>hgo i (Nat.zero_le _) hi) st1 hp2 D2 hnd2 hlate hg _ _ _ M μ st.tmps st.H tmps _ rfl ?_ (by simp) (fun j _ hj=>by simp [Array.getD]) (fun j o _ h=>by simp [Array.getD] at h) ?_ (r.same ⟨rfl,rfl,rfl,Nat.le_refl _,fun _ _=>rfl⟩)
 ·rw [hsize]
  exact Nat.le_trans (List.length_filter_le _ _) (by simp)
 have:(fun j=>(Array.replicate l.toArray.size false).getD j false)=fun j=>decide (j<0):=by
  funext j; simp [Array.getD]
 rw [this]; exact DoneD.put0 st
def jW (P:Program) (G:qS) (st0:St) (l:List Oper) (tss:List (List Nat)) (st:St) (acc:qDY) (K:qDY→St→Prop):Prop:=∃ sms st1,DRun P G st0 l tss st sms st1∧K (acc++sms.map Sm.sum) st1
variable {K:qDY→St→Prop} {st st' st0:St} {rest:List Oper} {ts:List Nat} {orc orc':List PD} {acc:qDY} {o:Oper} {sm:zJJ} {v:Know→Prop}
theorem jW.nil (hn:ndB st.H=true) (k:K acc st):jW P G st0 [] tss st acc K:=⟨_,_,.nil (kQ hn),by simpa using k⟩
theorem jW.one (hT : TOK P T) (h : ∀ C, qJT C T G st0 ts o st orc = some (v C, st', sm, orc')) (hv : v (kn P G)) (hgd : o.guard = none) (hn : ndB st.H = true) (k : jW P G st0 rest tss st' (acc ++ [sm]) K) :
  jW P G st0 (o::rest) (ts::tss) st acc K:=by
 have h1:=h (kn P G)
 unfold qJT at h1
 split at h1
 ·rename_i v1 s orc1 h2
  simp only [Option.some.injEq,Prod.mk.injEq] at h1
  obtain ⟨h3,rfl,rfl,rfl⟩:=h1
  obtain ⟨sms,st1,e,hk⟩:=k
  have S:=qCJ hT (kQ hn) h2 (h3 ▸ hv)
  exact ⟨s::sms,st1,.one hgd (kQ hn) ⟨S.q,S.good,S.ps,S.new⟩ (fun p hp=>qEA st _ p (S.H p hp)) S.goes e,by simpa using hk⟩
 cases h1
theorem r1 (hT : TOK P T) (k : jW P G st0 rest tss st' (acc ++ [sm]) K) (h : ∀ C, qJT C T G st0 ts o st orc = some (v C, st', sm, orc') := by intro C; conv => lhs; simp) (hv : v (kn P G) := by first | with_reducible exact True.intro | omega | simp | (simp +contextual; omega)) (hgd : o.guard = none := by rfl) (hn : ndB st.H = true := by kernel_rfl) :
  jW P G st0 (o::rest) (ts::tss) st acc K:=jW.one hT h hv hgd hn k
theorem jW.call {x : Operand} {args : Array Operand} {tys : Array TypeId} {f : FuncId} {xs : List V} {H : List (Nat × Box)} {r : V} {ps : List Nat} {H' : List (Nat × Box)} (new : List Nat) (hc : AX P G f xs H r ps H') (ho : o.op = .call { callee := .value x, args := args, argTypes := tys }) (hgd : o.guard = none)
  (hcx:CX G ⟨kJ st.tmps ts,H.map (·.1),H,st.base⟩ x args.toList f xs H r ps H') (hrest:(St.rest ⟨kJ st.tmps ts,H.map (·.1),H,st.base⟩ H ps).H=[]) (hpins:∀ i∈ps,i∈(St.rest ⟨kJ st.tmps ts,H.map (·.1),H,st.base⟩ H ps).pins)
  (hsub:∀ p∈H,p∈st.H) (hnew:∀ n∈new,st0.fresh n=true) (hky:∀ i,qM i H'=true→i∈H.map (·.1)∨i∈new) (hgood:∀ i∈V.ids r++vH H',i∈ps∨i∈new) (hn:ndB st.H=true) (hst:st.after o.dst ⟨r,H,H',ps,new,false⟩=st')
  (k:jW P G st0 rest tss st' (acc++[(Sm.mk r H H' ps new false).sum]) K):jW P G st0 (o::rest) (ts::tss) st acc K:=by
 subst hst
 obtain ⟨sms,st1,e,hk⟩:=k
 have hsn:(H.map (·.1)).Nodup:=hcx.2.2.2.2.1
 have y:=qJ ho hc hcx
 refine ⟨⟨r,H,H',ps,new,false⟩::sms,st1,.one hgd (kQ hn) ⟨fun h=>absurd h (by simp),hgood,hky,hnew⟩ hsub (fun c M μ st' tmps w R K hG rel hle hbox hnw k => ?_) e,by simpa using hk⟩
 exact qDQ (s:=⟨r,H,H',ps,new,false⟩) (small:=⟨kJ st.tmps ts,H.map (·.1),H,st.base⟩) (s':=({ St.rest (⟨kJ st.tmps ts,H.map (·.1),H,st.base⟩:St) H ps with H:=H'++(St.rest (⟨kJ st.tmps ts,H.map (·.1),H,st.base⟩:St) H ps).H }:St)) rfl hsn (by show H'=H'++_; rw [hrest,List.append_nil]) (fun i hi=>hpins i hi) hky hgood y c M μ st' tmps w R K hG rel hle hbox hnw k
theorem AW.drawR (hmix : P.follows .mixedOrders = true) (m : Nat) (tss : List (List Nat)) (orc2 : List PD) {id : Nat} {l : List Oper} (hchk : wN l m tss = true)
  (h:jW P G st (l.take m) tss st [] fun sums st1=>vW l m sums=true∧qB P G l.toArray Q (l.drop m) st1 orc2):AW P G (.region id l.toArray true) Q st:=by
 obtain ⟨sms,st1,e,hc,hl⟩:=h
 exact AW.runDraw1 hmix m tss hchk e (by simpa using hc) hl
theorem AW.seqDrawR (hmix : P.follows .mixedOrders = true) (m : Nat) (tss : List (List Nat)) (orc2 : List PD) {id : Nat} {l : List Oper} {b : Code} (hchk : wN l m tss = true)
  (h:jW P G st (l.take m) tss st [] fun sums st1=>vW l m sums=true∧qB P G l.toArray (andThen (AW P G b Q) Q) (l.drop m) st1 orc2):AW P G (.seq (.region id l.toArray true) b) Q st :=
 AW.seq (AW.drawR hmix m tss orc2 hchk h)
end
set_option linter.unusedVariables false
section
variable {P:Program} {T:Tab} {G:qS} {l:List Oper} {tss:List (List Nat)} {K:qDY→St→Prop} {st st' st0:St} {rest:List Oper} {ts:List Nat} {acc:qDY} {o:Oper}
end
section
variable {P:Program} {T:Tab} {G:qS} {st:St}
end
section
variable {P:Program} {T:Tab} {G:qS} {st:St}
end
section
variable {P:Program} {T:Tab} {G:qS} {Q:Exit→St→Prop} {st:St}
theorem RowOf.drop {M:zE} {sz:Nat} {es:List PD} {news:List Value} (h:RowOf M sz es news) (n:Nat):RowOf M sz (es.drop n) (news.drop (n * sz)) where
 len:=by rw [List.length_drop,List.length_drop,h.len,Nat.sub_mul]
 one:=fun u hu=>h.one u (List.mem_of_mem_drop hu)
 elem:=fun i e he=>h.elem (n+i) e (by rwa [List.getElem?_drop] at he)
 get:=fun i e j d u he hd hu=>by
  rw [List.getElem?_drop] at he hu
  exact h.get (n+i) e j d u he hd (by rw [← hu]; congr 1; rw [Nat.add_mul]; omega)
end
section
variable {P:Program} {T:Tab} {G:qS} {l:List Oper} {tss:List (List Nat)} {K:qDY→St→Prop} {st st' st0:St} {rest:List Oper} {ts:List Nat} {acc:qDY} {o:Oper}
theorem jW.y (Hs H' : List (Nat × Box)) (x : V) (q : Bool) (hgd : o.guard = none) (y : zN P G o ⟨kJ st.tmps ts, Hs.map (·.1), Hs, st.base⟩ x ⟨kJ st.tmps ts, Hs.map (·.1), H', st.base⟩) (hq : q = true → H' = Hs) (hsub : ∀ p ∈ Hs, p ∈ st.H)
  (hids:∀ i∈V.ids x++vH H',i∈Hs.map (·.1)) (hn:ndB st.H=true) (hns:ndB Hs=true) (hst:st.after o.dst ⟨x,Hs,H',Hs.map (·.1),[],q⟩=st') (k:jW P G st0 rest tss st' (acc++[(Sm.mk x Hs H' (Hs.map (·.1)) [] q).sum]) K):jW P G st0 (o::rest) (ts::tss) st acc K:=by
 subst hst
 obtain ⟨sms,st1,e,hk⟩:=k
 have hgood:∀ i∈V.ids x++vH H',i∈Hs.map (·.1)∨i∈([]:List Nat):=fun i hi => .inl (hids i hi)
 have hky:∀ i,qM i H'=true→i∈Hs.map (·.1)∨i∈([]:List Nat):=fun i hi => .inl (hids i (List.mem_append.2 (.inr (qBL hi))))
 refine ⟨⟨x,Hs,H',Hs.map (·.1),[],q⟩::sms,st1,.one hgd (kQ hn) ⟨hq,hgood,hky,by simp⟩ hsub (fun c M μ st' tmps w R K hG rel hle hbox hnw k => ?_) e,by simpa using hk⟩
 exact qDQ (s:=⟨x,Hs,H',Hs.map (·.1),[],q⟩) (small:=⟨kJ st.tmps ts,Hs.map (·.1),Hs,st.base⟩) (s':=⟨kJ st.tmps ts,Hs.map (·.1),H',st.base⟩) rfl (kQ hns) rfl (fun i hi=>hi) hky hgood y c M μ st' tmps w R K hG rel hle hbox hnw k
end
section
variable {P:Program} {T:Tab} {G:qS} {Q:Exit→St→Prop} {st:St}
end
section
variable {P:Program} {T:Tab} {G:qS} {l:List Oper} {tss:List (List Nat)} {K:qDY→St→Prop} {st st' st0:St} {rest:List Oper} {ts:List Nat} {acc:qDY} {o:Oper}
end
section
variable {P:Program} {T:Tab} {G:qS} {Q:Exit→St→Prop}
def zJZ (s s':St):Prop:=∀ c M μ tmps w,Rel c M μ s tmps w→Rel c M μ s' tmps w
theorem zJZ.of {s s':St} (h:St.Le s s'):zJZ s s':=fun _ _ _ _ _ r=>r.weaken h
variable {st:St}
end
set_option maxHeartbeats 4000000
section
variable {P:Program} {T:Tab} {G:qS} {Q:Exit→St→Prop}
theorem qQK (hT:TOK P T) {st:St} {o:Oper} {orc orc':List PD} {v:Prop} {x:V} (h:qLU T G st o.op orc=some (v,x,orc')) (hv:v):zN P G o st x st:=by
 intro c M μ tmps w hg r
 obtain ⟨u,e,hu⟩:=qJG hT hg r h hv
 rw [e]
 exact ⟨M,μ,r,hu⟩
def dd (b:Bool) (v:V):V:=if b=true then v else .dead
@[simp] theorem zOH (v:V):dd true v=v:=rfl
@[simp] theorem zOA (v:V):dd false v = .dead:=rfl
end
section
variable {P:Program} {T:Tab} {G:qS} {st:St}
theorem qXY {o:Oper} {t ty:TypeId} {x:Operand} {p:Prop} (b:Bool) (ho:o.op = .binOp .eql t x (.const .nilIface) ty) (ht:qRL P t=true) (ha:st.arg G x=(p,.p (if b=true then .noerr else .err))) (hp:p):zN P G o st (.p (.bool b)) st:=by
 obtain ⟨ms,ht⟩:=qRK ht
 intro c M μ tmps w hg r
 have h1:=(qE hg r ha hp).p_inv
 generalize hu:Act.eval ⟨tmps,[]⟩ x=u at h1
 have e1:(execOp (Act.eval ⟨tmps,[]⟩) o).run P w = .ok (.value (.bool b)) w:=by
  cases b with
  | false =>
   simp only [Bool.false_eq_true,if_false] at h1
   cases h1 with
   | @err t' v' =>
   have he:(Op.equal t (.iface t' v') .nilIface).run P w = .ok false w:=zKY 9999 ht t' v' w
   have hg':(eqGuard .eql t x (.const .nilIface) (.iface t' v') .nilIface).run P w = .ok () w:=by simp only [eqGuard]; rfl
   have hb2:(binOp .eql t (.iface t' v') .nilIface).run P w = .ok (.bool false) w:=by
    show (do pure (.bool (← Op.equal t (.iface t' v') .nilIface)):Sem Value).run P w=_
    simp only [Sem.run_bind,he,Result.andThen]; rfl
   simp [execOp,ho,hu,hg',hb2,show Act.eval ⟨tmps,[]⟩ (.const .nilIface) = .nilIface from rfl]
  | true =>
   simp only [if_true] at h1
   cases h1
   have he:(Op.equal t .nilIface .nilIface).run P w = .ok true w:=zFG 9999 ht w
   have hg':(eqGuard .eql t x (.const .nilIface) .nilIface .nilIface).run P w = .ok () w:=by simp only [eqGuard]; simp
   have hb2:(binOp .eql t .nilIface .nilIface).run P w = .ok (.bool true) w:=by
    show (do pure (.bool (← Op.equal t .nilIface .nilIface)):Sem Value).run P w=_
    simp only [Sem.run_bind,he,Result.andThen]; rfl
   simp [execOp,ho,hu,hg',hb2,show Act.eval ⟨tmps,[]⟩ (.const .nilIface) = .nilIface from rfl]
 rw [e1]
 exact ⟨M,μ,r,.p (.bool b)⟩
end
section
variable {P:Program} {G:qS} {st st' st0:St} {rest:List Oper} {ts:List Nat} {tss:List (List Nat)} {acc:qDY} {o:Oper} {K:qDY→St→Prop}
theorem jW.q (ids : List Nat) (x : V) (hgd : o.guard = none) (y : zN P G o ⟨kJ st.tmps ts, ids, [], st.base⟩ x ⟨kJ st.tmps ts, ids, [], st.base⟩) (hids : ∀ i ∈ V.ids x, i ∈ ids) (hn : ndB st.H = true)
  (hst:st.after o.dst ⟨x,[],[],ids,[],true⟩=st') (k:jW P G st0 rest tss st' (acc++[(Sm.mk x [] [] ids [] true).sum]) K):jW P G st0 (o::rest) (ts::tss) st acc K:=by
 subst hst
 obtain ⟨sms,st1,e,hk⟩:=k
 have hgood:∀ i∈V.ids x++vH ([]:List (Nat × Box)),i∈ids∨i∈([]:List Nat):=fun i hi => .inl (hids i (by simpa [vH] using hi))
 refine ⟨⟨x,[],[],ids,[],true⟩::sms,st1,.one hgd (kQ hn) ⟨fun _=>rfl,hgood,fun i hi=>by simp [qM] at hi,by simp⟩ (by simp) (fun c M μ st' tmps w R K hG rel hle hbox hnw k => ?_) e,by simpa using hk⟩
 exact qDQ (s:=⟨x,[],[],ids,[],true⟩) (small:=⟨kJ st.tmps ts,ids,[],st.base⟩) (s':=⟨kJ st.tmps ts,ids,[],st.base⟩) rfl (by simp) rfl (fun i hi=>hi) (fun i hi=>by simp [qM] at hi) hgood y c M μ st' tmps w R K hG rel hle hbox hnw k
end
end Go.Proofs.YtbhhphabggcacaaGreatDoor.Sy
namespace Go.Proofs.YtbhhphabggcacaaGreatDoor
open Sy Go
set_option maxRecDepth 100000
set_option maxHeartbeats 4000000
set_option linter.unusedSimpArgs false
set_option linter.unusedVariables false
variable {G:qS}
def okT (t:Tok):Prop:=t.num.digits.length≤100000∧0≤(kX t.num.digits).1∧(kX t.num.digits).1≤9223372036854775807
def okS (s:PS):Prop:=∀ t∈s.left,okT t
theorem qYS:okT qAG:=⟨by decide,by decide +kernel,by decide +kernel⟩
theorem Le.ok {c d:Nat} {s s':PS} (h:Le c d s s') (hs:okS s):okS s':=fun t ht=>hs t (h.suf.subset ht)
theorem qUE {f:Tok→Bool} {s:PS} (hs:okS s):okT (qP f s).1.1:=by
 cases h:(qP f s).1.2 with
 | false=>rw [qRG h]; exact qYS
 | true =>
  have:=(uI h).2.2.2.2.2.1
  exact hs _ (by rw [this]; exact List.mem_cons_self)
def okA (s:List UInt8):Bool:=match Lib.atoiAll s with | .ok _=>true | _=>false
theorem zJH {s:List UInt8}:(okA s=true→(kX s).2 = .noerr)∧(okA s=false→(kX s).2 = .err):=by
 unfold okA kX
 cases Lib.atoiAll s <;> simp
theorem qKP (hE:PE G) (s:PS) (hs:okS s):AX Tryz.prog G 73 [.ptr 2 0] [(2,.vars 42 (psC (s))),(3,.row 36 8 ((s).nodes.map Nd.enc))] (.p (.int .i64 (wY s).1)) [2,3] [(2,.vars 42 (psC ((wY s).2))),(3,.row 36 8 (((wY s).2).nodes.map Nd.enc))]:=by
 refine AX.introU tok 900 Tryz.func73 (by kernel_rfl) rfl rfl ?_
 simp only [Tryz.f73,qN,List.map_cons,List.map_nil]
 have hT:wY s=((kX (zD [4] s).1.num.digits).1,qK (okD (zD [4] s).1.num) (zD [4] s).2):=rfl
 rw [hT]
 have hk:=qEL (G:=G) s [4]
 have hkt:okT (zD [4] s).1:=qUE hs
 generalize zD [4] s=R at *
 obtain ⟨t,s'⟩:=R
 simp only at hk hkt
 have hat:=zJN (G:=G) hE t.num.digits (by have:=hkt.1; omega)
 have hA:=zJH (s:=t.num.digits)
 have hD:okD t.num=(okA t.num.digits && decide (t.num.scale=0) && decide (t.num.digits.length≤3)):=rfl
 have hlen:decide (t.num.digits.length≤3)=decide ((t.num.digits.length:Int)≤3):=decide_eq_decide.2 (by omega)
 rw [hlen] at hD
 generalize kX t.num.digits=A at *
 obtain ⟨n,e⟩:=A
 simp only at hA hat ⊢
 rw [hD]
 have hm:=fun b=>xX (G:=G) s' b
 refine rgn [] [[0]] ?_
 refine op1 tok ?_
 refine qA (rgn [.int .i64 4] [[],[]] ?_)
 iterate 2 refine op1 tok ?_
 refine qD ?_
 refine qB.freeze 907 (by conv=>lhs; simp) ?_
 refine qB.stepK [0,8] (qJ rfl hk (by simp)) (by conv=>lhs; simp) rfl ?_
 refine qB.run [[],[],[0,3]] ?_
 iterate 3 refine op1 tok ?_
 refine qA ?_
 by_cases hs2:okA t.num.digits=true
 ·
  rw [hA.1 hs2] at hat
  rw [hs2]
  refine rgn [.nilp,.tup [.int .i64 n,.noerr]] [[],[],[],[],[],[0,3,14,15],[],[0,3,4,5]] ?_
  iterate 8 refine oq1 tok hat ?_
  refine qA (rgn [] [[],[]] ?_)
  iterate 2 refine op1 tok ?_
  refine qD ?_
  refine qB.stepK [3,4,16,18] (qXY true rfl (by kernel_rfl) (by (conv=>lhs; simp); rfl) trivial) (by conv=>lhs; simp) rfl ?_
  refine qB.run [[],[],[],[],[3,4,16,23],[],[],[],[4,16,24,27],[],[]] ?_
  iterate 11 first | refine op1 tok ?_ | refine op2 tok ?_
  refine qD ?_
  refine qB.stepK [4] (qJ rfl (hm (decide (t.num.scale=0) && decide ((t.num.digits.length:Int)≤3))) (by simp)) (by conv=>lhs; simp) rfl ?_
  refine qB.nil ?_
  refine rgn [] [[],[2]] ?_
  iterate 2 refine op1 tok ?_
  refine qA ?_
  exact AW.ret qV
 ·
  have hs2:okA t.num.digits=false:=by simpa using hs2
  rw [hA.2 hs2] at hat
  rw [hs2]
  refine rgn [.nilp,.tup [.int .i64 n,.err]] [[],[],[],[],[],[0,3,14,15],[],[0,3,4,5]] ?_
  iterate 8 refine oq1 tok hat ?_
  refine qA (rgn [] [[],[]] ?_)
  iterate 2 refine op1 tok ?_
  refine qD ?_
  refine qB.stepK [3,4,16,18] (qXY false rfl (by kernel_rfl) (by (conv=>lhs; simp); rfl) trivial) (by conv=>lhs; simp) rfl ?_
  refine qB.run [[],[],[],[],[3,4,16,23],[],[],[],[4,16,24,27],[],[]] ?_
  iterate 11 first | refine op1 tok ?_ | refine op2 tok ?_
  refine qD ?_
  refine qB.stepK [4] (qJ rfl (hm false) (by simp)) (by conv=>lhs; simp) rfl ?_
  refine qB.nil ?_
  refine rgn [] [[],[2]] ?_
  iterate 2 refine op1 tok ?_
  refine qA ?_
  exact AW.ret qV
theorem qJK (s:PS) (d:Dc) (hn:s.nodes.length≤1000000):AX Tryz.prog G 95 [.ptr 2 0,.p (.agg [.bool d.neg,.str d.digits,.int .i64 d.scale])] [(2,.vars 42 (psC (s))),(3,.row 36 8 ((s).nodes.map Nd.enc))] (.p (.int .i64 (wF ⟨2,4,[],d,[],[]⟩ s).1)) [2] [(2,.vars 42 (psC ((wF ⟨2,4,[],d,[],[]⟩ s).2))),(3,.row 36 8 (((wF ⟨2,4,[],d,[],[]⟩ s).2).nodes.map Nd.enc))]:=by
 refine AX.introU tok 900 Tryz.func95 (by kernel_rfl) rfl rfl ?_
 simp only [Tryz.f95,qN,List.map_cons,List.map_nil]
 have hp:=jU (G:=G) s ⟨2,4,[],d,[],[]⟩ rfl rfl hn
 simp at hp
 refine rgn [] [[],[0,3]] ?_
 iterate 2 refine op1 tok ?_
 refine qA (rgn [] [[],[],[]] ?_)
 iterate 3 refine op1 tok ?_
 refine qD ?_
 refine qB.stepK [8] (qJ rfl hp (by simp)) (by conv=>lhs; simp) rfl ?_
 refine qB.run [[4]] ?_
 refine op1 tok ?_
 refine qA ?_
 exact AW.ret qV
theorem xC (s:PS) (w:List UInt8):AX Tryz.prog G 21 [.ptr 2 0,.p (.sl 1 [.str w])] [(2,.vars 42 (psC (s))),(3,.row 36 8 ((s).nodes.map Nd.enc))] (.tuple []) [2,3] [(2,.vars 42 (psC (zA 6 w s))),(3,.row 36 8 ((zA 6 w s).nodes.map Nd.enc))]:=by
 refine AX.introU tok 900 Tryz.func21 (by kernel_rfl) rfl rfl ?_
 simp only [Tryz.f21,qN,List.map_cons,List.map_nil]
 have h1:=uH (G:=G) s [w]
 have hN:zA 6 w s=qK (qT 6 [w] s).1.2 (qT 6 [w] s).2:=rfl
 rw [hN]
 generalize qT 6 [w] s=R at *
 obtain ⟨⟨t,b⟩,s'⟩:=R
 simp only [List.map_cons,List.map_nil] at h1 ⊢
 have h2:=xX (G:=G) s' b
 refine rgn [] [[],[],[0,8,9,10]] ?_
 iterate 3 refine op1 tok ?_
 refine qA (AW.block ?_)
 refine AW.loop (α:=Nat) (fun k=>k≤1) (fun k=>⟨wL 25 [(0,.ptr 2 0),(8,.p (.sl 1 [.str w])),(9,.p (.int .i64 1)),(10,.p (.int .i64 k))],[2,3],[(2,.vars 42 (psC (if k=0 then s else qK b s'))),(3,.row 36 8 ((if k=0 then s else qK b s').nodes.map Nd.enc))],900⟩) (fun k=>1-k) (0) (by omega) ⟨qH (by simp),rfl,by simp,by simp⟩ ?_
 rintro k hk
 refine rgn [] [[]] ?_
 refine op1 tok ?_
 refine qA (AW.seq (cnd ?_ ?_))
 ·intro h11
  try simp at h11
  obtain rfl:k=0:=by omega
  refine AW.skip (AW.seq (AW.block (rgn [.str w] [[],[],[0,5,8,9,10]] ?_)))
  iterate 3 refine op1 tok ?_
  refine qA (rgn [.str w] [[],[],[]] ?_)
  iterate 3 refine op1 tok ?_
  refine qD ?_
  refine qB.freeze 917 (by conv=>lhs; simp) ?_
  refine qB.stepK [0,8,9,10,18] (qJ rfl h1 (by simp)) (by conv=>lhs; simp) rfl ?_
  refine qB.run [[],[],[],[0,8,9,10,20],[0,7,8,9,10]] ?_
  iterate 5 refine op1 tok ?_
  refine qA (rgz [] [[],[]] ?_)
  iterate 2 refine op1 tok ?_
  refine qD ?_
  refine qB.stepK [0,8,9,10] (qJ rfl h2 (by simp)) (by conv=>lhs; simp) rfl ?_
  refine qB.nil ?_
  refine rgz [] [[],[0,8,9,10]] ?_
  iterate 2 refine op1 tok ?_
  refine qA ?_
  exact ⟨1,by omega,by omega,qH (by simp),rfl,by simp,by simp⟩
 intro h11
 try simp at h11
 obtain rfl:k=1:=by omega
 refine AW.exit ?_
 simp
 exact zFB
def zR (c:UInt8):List UInt8→List (List UInt8)
 | []=>[[]]
 | b::r=>if b=c then []::zR c r else match zR c r with
  | []=>[[b]]
  | h::t=>(b::h)::t
theorem zAF (c:UInt8):∀ s,zR c s≠[]
 | []=>by simp [zR]
 | b::r=>by
  simp only [zR]
  split
  ·simp
  split <;> simp
theorem uU (c:UInt8):∀ s,(zR c s).length=s.count c+1
 | []=>by simp [zR]
 | b::r=>by
  have ih:=uU c r
  simp only [zR]
  split
  ·rename_i h; subst h; simp [ih]
  rename_i h
  rw [List.count_cons_of_ne h,← ih]
  split
  ·rename_i h2; exact absurd h2 (zAF c r)
  rename_i h2; rw [h2]; simp
theorem uP {c:UInt8}:∀ {s},c ∉ s→zR c s=[s]
 | [],_=>rfl
 | b::r,h=>by
  simp only [List.mem_cons,not_or] at h
  simp only [zR,uP h.2]
  rw [if_neg (fun e=>h.1 e.symm)]
theorem xO {c:UInt8}:∀ {a r:List UInt8},c ∉ a→zR c (a++c::r)=a::zR c r
 | [],r,_=>by simp [zR]
 | b::a,r,h=>by
  simp only [List.mem_cons,not_or] at h
  simp only [List.cons_append,zR]
  rw [if_neg (fun e=>h.1 e.symm),xO h.2]
theorem qPV {c:UInt8}:∀ {a r:List UInt8},c ∉ a→Lib.indexByte (a++c::r) c=a.length
 | [],r,_=>by simp [Lib.indexByte]
 | b::a,r,h=>by
  simp only [List.mem_cons,not_or] at h
  have ih:=qPV (r:=r) h.2
  simp only [List.cons_append,Lib.indexByte]
  rw [if_neg (by intro e; exact h.1 (eq_of_beq e).symm),ih,List.length_cons,if_neg (by intro e; have:=eq_of_beq e; omega)]
  omega
theorem zBA {c:UInt8} {s:List UInt8} (h:c∈s):∃ a r,s=a++c::r∧c ∉ a:=by
 induction s with
 | nil=>cases h
 | cons b s ih =>
  by_cases e:b=c
  ·subst e; exact ⟨[],s,rfl,by simp⟩
  obtain ⟨a,r,rfl,hn⟩:=ih (by rcases List.mem_cons.1 h with h | h; exact absurd h.symm e; exact h)
  exact ⟨b::a,r,rfl,by simp only [List.mem_cons,not_or]; exact ⟨fun h=>e h.symm,hn⟩⟩
theorem zFM {c:UInt8} {a r:List UInt8} (h:c ∉ a):(a++c::r).count c=r.count c+1:=by
 rw [List.count_append,List.count_cons_self,List.count_eq_zero.2 h]; omega
def qY (s p:List UInt8):Bool:=decide (p.length≤s.length) && decide (s.take p.length=p)
@[simp] theorem zGI (s p:List UInt8):AFn Tryz.prog G 61 [.str s,.str p] (.bool (qY s p)):=by
 refine AFn.intro tok Tryz.func61 (by kernel_rfl) rfl ?_
 simp only [Tryz.f61,St.start]
 refine AW.seqRun tok [] (by intro C; conv=>lhs; simp) trivial ?_
 refine AW.seqRun tok [] (by intro C; conv=>lhs; simp) (by simp +contextual) ?_
 exact AW.ret ⟨.inr rfl,_,_,by (conv=>lhs; simp),trivial,by simp [qY]⟩
@[simp] theorem qHI (s p:List UInt8):AFn Tryz.prog G 32 [.str s,.str p] (.bool (qY s p)):=by
 refine AFn.intro tok Tryz.func32 (by kernel_rfl) rfl ?_
 simp only [Tryz.f32,St.start]
 refine AW.seqRun tok [] (by intro C; conv=>lhs; simp) trivial ?_
 refine AW.seqRun tok [.tup [.str s,.str p],.bool (qY s p)] (by intro C; conv=>lhs; simp) (by simp) ?_
 exact AW.ret ⟨.inr rfl,_,_,by (conv=>lhs; simp),trivial,by simp⟩
def vC (s p:List UInt8):List UInt8:=if qY s p then s.drop p.length else s
@[simp] theorem zGJ (s p:List UInt8):AFn Tryz.prog G 88 [.str s,.str p] (.tup [.str (vC s p),.bool (qY s p)]):=by
 refine AFn.intro tok Tryz.func88 (by kernel_rfl) rfl ?_
 simp only [Tryz.f88,St.start]
 refine AW.seqRun tok [] (by intro C; conv=>lhs; simp) trivial ?_
 refine AW.seq ?_
 refine AW.seqRun tok [.tup [.str s,.str p],.bool (qY s p)] (by intro C; conv=>lhs; simp) (by simp) ?_
 refine AW.cond (c := .tmp 9) (by conv=>lhs; simp) trivial ?_ ?_
 ·intro h1
  simp at h1
  refine AW.seqRun tok [] (by intro C; conv=>lhs; simp) trivial ?_
  exact AW.ret ⟨.inr rfl,_,_,by (conv=>lhs; simp),trivial,by simp [vC,h1]⟩
 intro h1
 simp at h1
 refine AW.skip ?_
 refine AW.seqRun tok [] (by intro C; conv=>lhs; simp) (by simp [qY] at h1 ⊢; omega) ?_
 exact AW.ret ⟨.inr rfl,_,_,by (conv=>lhs; simp),trivial,by simp [vC,h1]⟩
@[simp] theorem qCR (s p:List UInt8):AFn Tryz.prog G 66 [.str s,.str p] (.tup [.str (vC s p),.bool (qY s p)]):=by
 refine AFn.intro tok Tryz.func66 (by kernel_rfl) rfl ?_
 simp only [Tryz.f66,St.start]
 refine AW.seqRun tok [] (by intro C; conv=>lhs; simp) trivial ?_
 refine AW.seqRun tok [.tup [.str s,.str p],.tup [.str (vC s p),.bool (qY s p)]] (by intro C; conv=>lhs; simp) (by simp) ?_
 exact AW.ret ⟨.inr rfl,_,_,by (conv=>lhs; simp),trivial,by simp⟩
theorem zNU:qZV Tryz.prog 84 Extern.BytealgIndexByte.indexByte:=fun args w=>run_callFunc_extern Tryz.func84 (by kernel_rfl) (by kernel_rfl) (by kernel_rfl) (by kernel_rfl) args w
@[simp] theorem qNY (s:List UInt8) (n:Int):AFn Tryz.prog G 60 [.str s,.int .u8 n] (.int .i64 (Lib.indexByte s n.toNat.toUInt8)):=by
 refine AFn.intro tok Tryz.func60 (by kernel_rfl) rfl ?_
 simp only [Tryz.f60,St.start]
 refine AW.seqRun tok [] (by intro C; conv=>lhs; simp) trivial ?_
 refine AW.seqRunX tok 2 [] [] rfl rfl (by intro C; conv=>lhs; simp) trivial (qSK (s:=s) (n:=n) (p:=True) (q:=True) (r:=True) zNU rfl (by simp) trivial (by simp) trivial (by simp) trivial) (by intro C; conv=>lhs; simp) trivial ?_
 exact AW.ret ⟨.inr rfl,_,_,by (conv=>lhs; simp),trivial,by simp⟩
@[simp] theorem uN (s:List UInt8) (n:Int):AFn Tryz.prog G 31 [.str s,.int .u8 n] (.int .i64 (Lib.indexByte s n.toNat.toUInt8)):=by
 refine AFn.intro tok Tryz.func31 (by kernel_rfl) rfl ?_
 simp only [Tryz.f31,St.start]
 refine AW.seqRun tok [] (by intro C; conv=>lhs; simp) trivial ?_
 refine AW.seqRun tok [.tup [.str s,.int .u8 n],.int .i64 (Lib.indexByte s n.toNat.toUInt8)] (by intro C; conv=>lhs; simp) (by simp) ?_
 exact AW.ret ⟨.inr rfl,_,_,by (conv=>lhs; simp),trivial,by simp⟩
def asF (cs:List UInt8) (i:Nat):Bool:=cs.any fun b=>b.toNat == i
theorem zFY (cs:List UInt8) (c:UInt8) (n:Nat):xD n (fun k=>decide (k=c.toNat) || asF cs k)=xD n (asF (cs++[c])):=qWM fun i _=>by
 by_cases h:i=c.toNat
 ·simp [asF,h]
 simp [asF,h,Ne.symm h]
def asS (cs:List UInt8) (a:Nat):St:=⟨[.p (.str cs),.dead,.ptr 2 0,.dead,.p (.int .i64 a)]++List.replicate 16 .dead,[],[(2,.vars 98 (qR (xD 256 (asF (cs.take a)))))],0⟩
theorem qCU (cs:List UInt8) (hcs:∀ b∈cs,b.toNat<128):AFn Tryz.prog G 57 [.str cs] (.tup [.agg (xD 256 (asF cs)),.bool true]):=by
 refine AFn.intro tok Tryz.func57 (by kernel_rfl) rfl ?_
 simp only [Tryz.f57,St.start]
 refine AW.strFact (i:=0) rfl ?_
 intro hlen
 refine AW.seqRun tok [] (by intro C; conv=>lhs; simp) (by simp) ?_
 refine AW.seq ?_
 refine AW.seqRun tok [] (by intro C; conv=>lhs; simp) trivial ?_
 refine AW.block ?_
 refine AW.loop (α:=Nat) (fun a=>a≤cs.length) (fun a=>asS cs a) (fun a=>cs.length-a) 0 (by omega) ⟨by simp [asS],rfl,by simp [asS,zDS]; rfl,by simp [asS]⟩ ?_
 intro a hI
 simp only [asS]
 refine AW.seq ?_
 refine AW.seqRun tok [] (by intro C; conv=>lhs; simp) trivial ?_
 refine AW.cond (c := .tmp 9) (by conv=>lhs; simp) trivial ?_ ?_
 ·intro h1
  simp at h1
  obtain ⟨c,hc⟩:∃ c,cs[a]?=some c:=⟨cs[a],by simp [h1]⟩
  have hclt:=hcs c (List.mem_of_getElem? hc)
  have hst:asF (cs.take (a+1))=asF (cs.take a++[c]):=by rw [List.take_add_one,hc]; rfl
  refine AW.skip (AW.seq (AW.block ?_))
  refine AW.seqRun tok [.int .u8 c.toNat] (by intro C; conv=>lhs; simp) (by simp [hc]) ?_
  refine AW.seq ?_
  refine AW.seqRun tok [] (by intro C; conv=>lhs; simp) trivial ?_
  refine AW.cond (c := .tmp 16) (by conv=>lhs; simp) trivial ?_ ?_
  ·intro h2
   simp at h2
   omega
  intro h2
  simp at h2
  refine AW.skip ?_
  refine AW.run tok [] (by intro C; conv=>lhs; simp) (by omega) ?_
  refine AW.run tok [] (by intro C; conv=>lhs; simp) (by omega) ?_
  exact ⟨a+1,by omega,by omega,by simp [asS],rfl,by simp [asS,hst]; exact congrArg qR (zFY _ _ _).symm,by simp [asS]⟩
 intro h1
 simp at h1
 have hall:cs.take a=cs:=List.take_of_length_le h1
 rw [hall]
 refine AW.exit ?_
 simp
 refine AW.seqRun tok [] (by intro C; conv=>lhs; simp) (by simp) ?_
 exact AW.ret ⟨.inr rfl,_,_,by (conv=>lhs; simp),by simp,by simp⟩
theorem qJU (F:Nat→Bool) (n:Int) (h0:0≤n) (h1:n<256):AX Tryz.prog G 82 [.ptr 5 0,.p (.int .u8 n)] [(5,.vars 98 (qR (xD 256 F)))] (.p (.bool (F n.toNat))) [5] [(5,.vars 98 (qR (xD 256 F)))]:=by
 refine AX.intro tok 2000 Tryz.func82 (by kernel_rfl) rfl ?_
 simp only [Tryz.f82,St.startX]
 refine AW.seqRun tok [] (by intro C; conv=>lhs; simp) trivial ?_
 refine AW.seqRun tok [.bool (F n.toNat)] (by intro C; conv=>lhs; simp) (by simp [qTR (show n.toNat<256 by omega)]; omega) ?_
 exact AW.ret ⟨.inr rfl,_,_,by (conv=>lhs; simp),trivial,by simp,by simp,by simp,by simp⟩
def uT (F:Nat→Bool) (s:List UInt8):List UInt8:=s.dropWhile fun b=>F b.toNat
def qEW (F:Nat→Bool) (s:List UInt8):List UInt8:=(s.reverse.dropWhile fun b=>F b.toNat).reverse
def tlS (r:List UInt8) (F:Nat→Bool):St:=⟨[.p (.str r),.ptr 5 0]++List.replicate 14 .dead,[5],[(5,.vars 98 (qR (xD 256 F)))],1000⟩
theorem qBD (F:Nat→Bool) (s:List UInt8):AX Tryz.prog G 58 [.p (.str s),.ptr 5 0] [(5,.vars 98 (qR (xD 256 F)))] (.p (.str (uT F s))) [5] [(5,.vars 98 (qR (xD 256 F)))]:=by
 refine AX.intro tok 1000 Tryz.func58 (by kernel_rfl) rfl ?_
 simp only [Tryz.f58,St.startX]
 refine AW.seqRun tok [] (by intro C; conv=>lhs; simp) trivial ?_
 refine AW.seq (AW.block ?_)
 refine AW.loop (α:=List UInt8) (fun r=>uT F r=uT F s) (fun r=>tlS r F) (fun r=>r.length) s rfl ⟨by simp [tlS],rfl,by simp [tlS],by simp [tlS]⟩ ?_
 intro r hI
 simp only [tlS]
 refine AW.seq ?_
 refine AW.seqRun tok [] (by intro C; conv=>lhs; simp) trivial ?_
 refine AW.cond (c := .tmp 7) (by conv=>lhs; simp) trivial ?_ ?_
 ·intro h1
  simp at h1
  obtain ⟨b,r,rfl⟩:∃ b r',r=b::r':=by
   cases r with
   | nil=>simp at h1
   | cons b r=>exact ⟨b,r,rfl⟩
  have hb:b.toNat<256:=b.toNat_lt
  refine AW.skip (AW.block (AW.seq ?_))
  refine AW.seqRunX tok 3 [.int .u8 b.toNat] [] rfl rfl (by intro C; conv=>lhs; simp) (by simp) (qJ rfl (qJU F b.toNat (by omega) (by omega)) (by simp)) (by intro C; conv=>lhs; simp) trivial ?_
  refine AW.cond (c := .tmp 12) (by conv=>lhs; simp) trivial ?_ ?_
  ·intro h2
   simp at h2
   refine AW.exit ?_
   simp
   refine AW.seqRun tok [] (by intro C; conv=>lhs; simp) trivial ?_
   exact AW.ret ⟨.inr rfl,_,_,by (conv=>lhs; simp),trivial,by rw [← hI]; simp [uT,h2],by simp,by simp,by simp⟩
  intro h2
  simp at h2
  refine AW.skip ?_
  refine AW.run tok [] (by intro C; conv=>lhs; simp) (by omega) ?_
  exact ⟨r,by rw [← hI]; simp [uT,h2],by simp,by simp [tlS],rfl,by simp [tlS],by simp [tlS]⟩
 intro h1
 simp at h1
 subst h1
 refine AW.exit ?_
 simp
 refine AW.seqRun tok [] (by intro C; conv=>lhs; simp) trivial ?_
 exact AW.ret ⟨.inr rfl,_,_,by (conv=>lhs; simp),trivial,by rw [← hI]; simp [uT],by simp,by simp,by simp⟩
theorem qGG (F:Nat→Bool) (s:List UInt8):AX Tryz.prog G 110 [.p (.str s),.ptr 5 0] [(5,.vars 98 (qR (xD 256 F)))] (.p (.str (qEW F s))) [5] [(5,.vars 98 (qR (xD 256 F)))]:=by
 refine AX.intro tok 1000 Tryz.func110 (by kernel_rfl) rfl ?_
 simp only [Tryz.f110,St.startX]
 refine AW.strFact (i:=0) rfl ?_
 intro hlen
 refine AW.seqRun tok [] (by intro C; conv=>lhs; simp) trivial ?_
 refine AW.seq (AW.block ?_)
 refine AW.loop (α:=List UInt8) (fun r=>qEW F r=qEW F s∧r.length≤s.length) (fun r=>⟨[.p (.str r),.ptr 5 0]++List.replicate 20 .dead,[5],[(5,.vars 98 (qR (xD 256 F)))],1000⟩) (fun r=>r.length) s ⟨rfl,Nat.le_refl _⟩ ⟨by simp,rfl,by simp,by simp⟩ ?_
 rintro r ⟨hI,hrl⟩
 refine AW.seq ?_
 refine AW.seqRun tok [] (by intro C; conv=>lhs; simp) trivial ?_
 refine AW.cond (c := .tmp 7) (by conv=>lhs; simp) trivial ?_ ?_
 ·intro h1
  simp at h1
  obtain ⟨r,b,rfl⟩:∃ r' b,r=r'++[b]:=⟨r.dropLast,r.getLast (by rintro rfl; simp at h1),(List.dropLast_concat_getLast _).symm⟩
  have hb:b.toNat<256:=b.toNat_lt
  simp at hrl
  refine AW.skip (AW.block (AW.seq ?_))
  refine AW.seqRunX tok 6 [.int .u8 b.toNat] [] rfl rfl (by intro C; conv=>lhs; simp) (by omega) (qJ rfl (qJU F b.toNat (by omega) (by omega)) (by simp)) (by intro C; conv=>lhs; simp) trivial ?_
  refine AW.cond (c := .tmp 15) (by conv=>lhs; simp) trivial ?_ ?_
  ·intro h2
   simp at h2
   refine AW.exit ?_
   simp
   refine AW.seqRun tok [] (by intro C; conv=>lhs; simp) trivial ?_
   exact AW.ret ⟨.inr rfl,_,_,by (conv=>lhs; simp),trivial,by rw [← hI]; simp [qEW,h2],by simp,by simp,by simp⟩
  intro h2
  simp at h2
  refine AW.skip ?_
  refine AW.run tok [] (by intro C; conv=>lhs; simp) (by omega) ?_
  exact ⟨r,⟨by rw [← hI]; simp [qEW,h2],by omega⟩,by simp,by simp,rfl,by simp,by simp⟩
 intro h1
 simp at h1
 subst h1
 refine AW.exit ?_
 simp
 refine AW.seqRun tok [] (by intro C; conv=>lhs; simp) trivial ?_
 exact AW.ret ⟨.inr rfl,_,_,by (conv=>lhs; simp),trivial,by rw [← hI]; simp [qEW],by simp,by simp,by simp⟩
def qKU (s cs:List UInt8):List UInt8:=uT (asF cs) (qEW (asF cs) s)
theorem zJI (s cs:List UInt8) (h2:2≤cs.length) (hcs:∀ b∈cs,b.toNat<128):AFn Tryz.prog G 87 [.str s,.str cs] (.str (qKU s cs)):=by
 refine AFn.intro tok Tryz.func87 (by kernel_rfl) rfl ?_
 simp only [Tryz.f87,St.start]
 have hne:cs≠[]:=by rintro rfl; simp at h2
 refine AW.seqRun tok [] (by intro C; conv=>lhs; simp) trivial ?_
 refine AW.seq ?_
 refine AW.seqRun tok [] (by intro C; conv=>lhs; simp) (by simp +contextual) ?_
 refine AW.cond (c := .tmp 12) (by conv=>lhs; simp) trivial ?_ ?_
 ·intro h3
  simp [hne] at h3
  subst h3
  refine AW.seqRun tok [] (by intro C; conv=>lhs; simp) trivial ?_
  exact AW.ret ⟨.inr rfl,_,_,by (conv=>lhs; simp),trivial,by simp [qKU,uT,qEW]⟩
 intro h3
 simp [hne] at h3
 refine AW.skip (AW.seq ?_)
 refine AW.seqRun tok [.int .u8 0] (by intro C; conv=>lhs; simp) (by simp +contextual; omega) ?_
 refine AW.cond (c := .tmp 21) (by conv=>lhs; simp) trivial ?_ ?_
 ·intro h4
  simp at h4
  omega
 intro h4
 refine AW.skip (AW.seq ?_)
 refine AW.seqRun tok [.tup [.str cs],.tup [.agg (xD 256 (asF cs)),.bool true]] (by intro C; conv=>lhs; simp) (by simp [qCU cs hcs]) ?_
 refine AW.seqRun tok [] (by intro C; conv=>lhs; simp) trivial ?_
 refine AW.cond (c := .tmp 34) (by conv=>lhs; simp) trivial ?_ ?_
 ·intro _
  refine AW.seq (AW.region (zH.pref tok 1 [] (by intro C; conv=>lhs; simp) trivial ?_))
  simp only [List.drop_succ_cons,List.drop_zero]
  refine zH.step rfl (qJ rfl (qGG (asF cs) s) (by simp)) ?_
  refine zH.step rfl (qJ rfl (qBD (asF cs) (qEW (asF cs) s)) (by simp)) ?_
  refine zH.all tok [] (by intro C; conv=>lhs; simp) trivial ?_
  exact AW.ret ⟨.inr rfl,_,_,by (conv=>lhs; simp),trivial,by simp [qKU]⟩
 intro h; simp at h
theorem qBN {s:List UInt8} {k:Nat} (h:k<s.length):s[k]?=some (s.getD k 0):=by simp [List.getD_eq_getElem?_getD,h]
theorem qJY (s:List UInt8) (c:UInt8):AFn Tryz.prog G 56 [.str s,.int .u8 c.toNat] (.str (s.dropWhile (fun b=>b == c))):=by
 refine AFn.introU tok Tryz.func56 (by kernel_rfl) rfl rfl ?_
 simp only [Tryz.f56,qN,List.map_cons,List.map_nil]
 refine rgn [] [[0,1]] ?_
 refine op1 tok ?_
 refine qA (AW.seq (AW.block ?_))
 refine AW.loop (α:=List UInt8) (fun r=>r.dropWhile (fun b=>b == c)=s.dropWhile (fun b=>b == c)) (fun r=>⟨wL 17 [(0,.p (.str r)),(1,.p (.int .u8 c.toNat))],[],[],0⟩) (fun r=>r.length) (s) rfl ⟨qH (by simp),rfl,by simp,by simp⟩ ?_
 rintro r hr
 have hix:0<r.length→r[0]?=some (r.getD 0 0):=fun h=>qBN h
 refine AW.seq (rgn [.int .u8 (r.getD 0 0).toNat] [[],[],[],[],[],[0,1,8,10],[],[],[0,1,13]] ?_)
 iterate 4 refine op1 tok ?_ (hv:=by first | with_reducible exact True.intro | (first | exact fun h=>⟨h,_,hix (by omega),rfl⟩ | simp; done) | omega | simp | (simp +contextual; omega))
 iterate 4 refine op2 tok ?_ (hv:=by first | with_reducible exact True.intro | (first | exact fun h=>⟨h,_,hix (by omega),rfl⟩ | simp; done) | omega | simp | (simp +contextual; omega))
 refine op1 tok ?_ (hv:=by first | with_reducible exact True.intro | (first | exact fun h=>⟨h,_,hix (by omega),rfl⟩ | simp; done) | omega | simp | (simp +contextual; omega))
 refine qA (cnd ?_ ?_)
 ·intro h13
  try simp at h13
  obtain ⟨b,r,rfl⟩:∃ b r',r=b::r':=by
   cases r with
   | nil=>simp at h13
   | cons b r=>exact ⟨b,r,rfl⟩
  have hb:b=c:=UInt8.toNat_inj.1 (by have:=h13.2; simp at this; omega)
  subst hb
  have hr2:List.dropWhile (fun b'=>b' == b) r=List.dropWhile (fun b'=>b' == b) s:=by rw [← hr]; simp
  refine AW.skip (AW.block (rgz [] [[],[],[0,1]] ?_))
  iterate 3 refine op1 tok ?_
  refine qA ?_
  exact ⟨r,hr2,by simp,qH (by simp),rfl,by simp,by simp⟩
 intro h13
 try simp at h13
 have hr3:s.dropWhile (fun b=>b == c)=r:=by
  rw [← hr]
  cases r with
  | nil=>rfl
  | cons b r =>
   have hb:b≠c:=by rintro rfl; simp at h13
   simp [hb]
 rw [hr3]
 refine AW.exit ?_
 simp
 refine rgn [] [[],[4]] ?_
 iterate 2 refine op1 tok ?_
 exact qA (AW.ret qX)
theorem qTC (s:List UInt8) (c:UInt8):(decide (1≤(s.length:Int)) && decide (List.drop (s.length-1) s=[c]))=decide (s.getLast?=some c):=by
 by_cases h:s=[]
 ·subst h; simp
 obtain ⟨a,b,rfl⟩:∃ a b,s=a++[b]:=⟨s.dropLast,s.getLast h,(List.dropLast_concat_getLast h).symm⟩
 rw [Bool.eq_iff_iff]
 simp
 intro _; omega
theorem qNZ (s:List UInt8) (c:UInt8):AFn Tryz.prog G 115 [.str s,.str [c]] (.bool (decide (s.getLast?=some c))):=by
 refine AFn.introU tok Tryz.func115 (by kernel_rfl) rfl rfl ?_
 simp only [Tryz.f115,qN,List.map_cons,List.map_nil]
 refine AW.strFactU (i:=0) rfl (by decide) ?_
 intro hlen
 have hsuf:(decide (1≤(s.length:Int)) && decide (List.drop (s.length-1) s=[c]))=decide (s.getLast?=some c):=qTC s c
 refine rgn [] [[0,1]] ?_
 refine op1 tok ?_
 refine qA (rgn [] [[],[],[],[],[0,1,9],[],[],[],[],[],[1,10,11,13,15],[],[1,10,17],[],[],[20],[4]] ?_)
 iterate 6 refine op1 tok ?_
 iterate 9 refine op2 tok ?_
 iterate 2 refine op1 tok ?_
 refine qA ?_
 exact AW.ret (qX (k:=by simp [hsuf]))
theorem qSH (s:List UInt8) (c:UInt8):AFn Tryz.prog G 92 [.str s,.str [c]] (.bool (decide (s.getLast?=some c))):=by
 refine AFn.introU tok Tryz.func92 (by kernel_rfl) rfl rfl ?_
 simp only [Tryz.f92,qN,List.map_cons,List.map_nil]
 refine rgn [] [[0,1]] ?_
 refine op1 tok ?_
 refine qA (rgn [.nilp,.bool (decide (s.getLast?=some c))] [[],[],[7],[4]] ?_)
 iterate 4 refine op1 tok ?_ (hv:=by first | with_reducible exact True.intro | (exact qNZ s c; done) | omega | simp | (simp +contextual; omega))
 exact qA (AW.ret qX)
theorem qSF (s:List UInt8) (c:UInt8) (hc:c.toNat<128):AFn Tryz.prog G 30 [.str s,.str [c]] (.str (s.dropWhile (fun b=>b == c))):=by
 refine AFn.introU tok Tryz.func30 (by kernel_rfl) rfl rfl ?_
 simp only [Tryz.f30,qN,List.map_cons,List.map_nil]
 refine rgn [] [[0,1]] ?_
 refine op1 tok ?_
 refine qA (AW.seq (rgn [] [[],[],[],[],[],[0,1,12]] ?_))
 iterate 3 refine op1 tok ?_
 iterate 2 refine op2 tok ?_
 refine op1 tok ?_
 refine qA (cnd ?_ ?_)
 ·intro h12
  try simp at h12
  subst h12
  refine rgn [] [[],[4]] ?_
  iterate 2 refine op1 tok ?_
  exact qA (AW.ret qX)
 intro h12
 try simp at h12
 refine AW.skip (AW.seq (rgn [.int .u8 c.toNat] [[],[],[],[],[],[0,1,17,19],[],[0,1,21]] ?_))
 iterate 4 refine op1 tok ?_ (hv:=by first | with_reducible exact True.intro | (simp; done) | omega | simp | (simp +contextual; omega))
 iterate 3 refine op2 tok ?_ (hv:=by first | with_reducible exact True.intro | (simp; done) | omega | simp | (simp +contextual; omega))
 refine op1 tok ?_ (hv:=by first | with_reducible exact True.intro | (simp; done) | omega | simp | (simp +contextual; omega))
 refine qA (cnd ?_ ?_)
 ·intro h21
  try simp at h21
  refine rgn [.int .u8 c.toNat,.nilp,.str (s.dropWhile (fun b=>b == c))] [[],[],[],[25],[4]] ?_
  iterate 5 refine op1 tok ?_ (hv:=by first | with_reducible exact True.intro | (first | exact qJY s c | simp; done) | omega | simp | (simp +contextual; omega))
  exact qA (AW.ret qX)
 intro h21
 try simp at h21
 omega
theorem qVU (s cs:List UInt8) (h2:2≤cs.length) (hcs:∀ b∈cs,b.toNat<128):AFn Tryz.prog G 30 [.str s,.str cs] (.str (uT (asF cs) s)):=by
 refine AFn.introU tok Tryz.func30 (by kernel_rfl) rfl rfl ?_
 simp only [Tryz.f30,qN,List.map_cons,List.map_nil]
 have hne:cs≠[]:=by rintro rfl; simp at h2
 have hmk:=qCU (G:=G) cs hcs
 refine rgn [] [[0,1]] ?_
 refine op1 tok ?_
 refine qA (AW.seq (rgn [] [[],[],[],[],[],[0,1,12]] ?_))
 iterate 3 refine op1 tok ?_
 iterate 2 refine op2 tok ?_
 refine op1 tok ?_
 refine qA (cnd ?_ ?_)
 ·intro h12
  try simp at h12
  simp [hne] at h12
  subst h12
  refine rgn [] [[],[4]] ?_
  iterate 2 refine op1 tok ?_
  refine qA ?_
  exact AW.ret (qX (k:=by simp [uT]))
 intro h12
 try simp at h12
 refine AW.skip (AW.seq (rgn [.int .u8 0] [[],[],[],[],[],[0,1,17,19],[],[0,1,21]] ?_))
 iterate 4 refine op1 tok ?_
 iterate 3 refine op2 tok ?_
 refine op1 tok ?_
 refine qA (cnd ?_ ?_)
 ·intro h21
  try simp at h21
  omega
 intro h21
 try simp at h21
 refine AW.skip (AW.seq (rgn [.nilp,.tup [.agg (xD 256 (asF cs)),.bool true]] [[],[],[],[],[],[],[0,1,5,30],[0,1,5,6]] ?_))
 iterate 8 refine oq1 tok hmk ?_
 refine qA (rgn [] [[0,1,5,31]] ?_)
 refine op1 tok ?_
 refine qA (cnd ?_ ?_)
 ·intro h31
  try simp at h31
  refine rgn [] [[]] ?_
  refine op1 tok ?_
  refine qD ?_
  refine qB.stepK [33] (qJ rfl (qBD (asF cs) s) (by simp)) (by conv=>lhs; simp) rfl ?_
  refine qB.run [[4]] ?_
  refine op1 tok ?_
  exact qA (AW.ret qX)
 intro h31
 try simp at h31
def kN:List UInt8:=[97,98,99,100,101,102,103,104,105,106,107,108,109,110,111,112,113,114,115,116,117,118,119,120,121,122]
def xV:List UInt8:=[97,98,99,100,101,102,103,104,105,106,107,108,109,110,111,112,113,114,115,116,117,118,119,120,121,122,48,49,50,51,52,53,54,55,56,57,95]
theorem qAZ {p:UInt8→Bool}:∀ {l:List UInt8},l.dropWhile p=[]↔∀ b∈l,p b=true
 | []=>by simp
 | a::l=>by
  have ih:=qAZ (p:=p) (l:=l)
  cases h:p a with
  | true=>simp [List.dropWhile_cons,h,ih]
  | false=>simp [List.dropWhile_cons,h]
theorem qDR {p:UInt8→Bool}:∀ {l r:List UInt8} {c:UInt8},l.dropWhile p=c::r→p c=false
 | [],_,_,h=>by simp at h
 | a::l,r,c,h=>by
  cases hp:p a with
  | true=>simp [List.dropWhile_cons,hp] at h; exact qDR h
  | false=>simp [List.dropWhile_cons,hp] at h; rw [← h.1]; exact hp
theorem qZX (s cs:List UInt8):qKU s cs=[]↔∀ b∈s,asF cs b.toNat=true:=by
 unfold qKU uT
 rw [qAZ]
 unfold qEW
 constructor
 ·intro h b hb
  have h2:(s.reverse.dropWhile fun b=>asF cs b.toNat)=[]:=by
   cases hd:(s.reverse.dropWhile fun b=>asF cs b.toNat) with
   | nil=>rfl
   | cons c r =>
    have h3:=h c (by rw [hd]; simp)
    have h4:=qDR hd
    rw [h3] at h4; cases h4
  rw [qAZ] at h2
  exact h2 b (by simpa using hb)
 intro h b hb
 simp only [List.mem_reverse] at hb
 exact h b (by simpa using List.Sublist.mem hb (List.dropWhile_sublist _))
theorem qFA (l:List UInt8) (c:UInt8):0≤Lib.indexByte l c↔c∈l:=by
 induction l with
 | nil=>simp [Lib.indexByte]
 | cons b l ih =>
  have hge:=Lib.indexByte_ge l c
  unfold Lib.indexByte
  by_cases h:b=c
  ·subst h; simp
  simp only [beq_iff_eq,h,if_false,List.mem_cons,Ne.symm h,false_or,← ih]
  by_cases h2:Lib.indexByte l c = -1
  ·simp [h2]
  simp only [h2,if_false]; omega
def wJ (s:List UInt8):Bool:=(s.all fun b=>asF xV b.toNat) && (decide (s.length≤24) && match s with
 | b::_=>decide (b∈kN)
 | []=>false)
theorem qXW (s:List UInt8):AFn Tryz.prog G 65 [.str s] (.bool (wJ s)):=by
 refine AFn.intro tok Tryz.func65 (by kernel_rfl) rfl ?_
 simp only [Tryz.f65,St.start]
 have hT:=zJI (G:=G) s xV (by decide) (by decide)
 refine AW.seqRun tok [] (by intro C; conv=>lhs; simp) trivial ?_
 refine AW.seqRun tok [.tup [.str s,.str xV],.str (qKU s xV)] (by intro C; conv=>lhs; simp) (by simpa [xV] using hT) ?_
 have e1:decide (qKU s xV=[])=s.all fun b=>asF xV b.toNat:=by
  rw [Bool.eq_iff_iff]; simp [qZX]
 rcases s with _ | ⟨b,s⟩
 ·refine AW.seqRun tok [.int .u8 0,.tup [.str kN,.int .u8 0],.int .i64 0] (by intro C; conv=>lhs; simp) (by simp) ?_
  exact AW.ret ⟨.inr rfl,_,_,by (conv=>lhs; simp),trivial,by simp [wJ]⟩
 refine AW.seqRun tok [.int .u8 b.toNat,.tup [.str kN,.int .u8 b.toNat],.int .i64 (Lib.indexByte kN b)] (by intro C; conv=>lhs; simp) (by
  have:=uN (G:=G) kN b.toNat
  simp [kN] at this ⊢
  exact fun h1 h2=>⟨⟨h1,h2⟩,this⟩) ?_
 exact AW.ret ⟨.inr rfl,_,_,by (conv=>lhs; simp),trivial,by simp [wJ,← e1,qFA,Bool.and_assoc]; congr 2; exact decide_eq_decide.2 (by omega)⟩
theorem zFC:qZV Tryz.prog 128 Extern.BytealgCount.count:=fun args w=>run_callFunc_extern Tryz.func128 (by kernel_rfl) (by kernel_rfl) (by kernel_rfl) (by kernel_rfl) args w
theorem zGF (s:List UInt8) (c:UInt8):AFn Tryz.prog G 102 [.str s,.str [c]] (.int .i64 (s.count c:Nat)):=by
 refine AFn.introU tok Tryz.func102 (by kernel_rfl) rfl rfl ?_
 simp only [Tryz.f102,qN,List.map_cons,List.map_nil]
 refine rgn [] [[0,1]] ?_
 refine op1 tok ?_
 refine qA (AW.seq (rgn [] [[],[],[0,1,9]] ?_))
 iterate 3 refine op1 tok ?_
 refine qA (cnd ?_ ?_)
 ·intro h9
  try simp at h9
 intro h9
 try simp at h9
 refine AW.skip (AW.seq (rgn [] [[],[],[0,1,15]] ?_))
 iterate 3 refine op1 tok ?_
 refine qA (cnd ?_ ?_)
 ·intro h15
  try simp at h15
  refine rgn [.int .u8 c.toNat] [[],[],[]] ?_
  iterate 3 refine op1 tok ?_
  refine qD ?_
  refine qB.stepK [19] (qNT (s:=s) (n:=c.toNat) (p:=True) (q:=True) (r:=True) zFC rfl (by simp) trivial (by simp) trivial (by simp) trivial) (by conv=>lhs; simp) rfl ?_
  refine qB.run [[4]] ?_
  refine op1 tok ?_
  exact qA (AW.ret qX)
 intro h15
 try simp at h15
theorem zAI (s:List UInt8) (c:UInt8):AFn Tryz.prog G 129 [.str s,.str [c]] (.int .i64 (Lib.indexByte s c)):=by
 refine AFn.introU tok Tryz.func129 (by kernel_rfl) rfl rfl ?_
 simp only [Tryz.f129,qN,List.map_cons,List.map_nil]
 refine rgn [] [[0,1]] ?_
 refine op1 tok ?_
 refine qA (rgn [] [[],[],[0,1,5]] ?_)
 iterate 3 refine op1 tok ?_
 refine qA (AW.seq (AW.block (rgn [] [[],[],[],[],[],[0,1,5,19,22],[],[0,1,5,16]] ?_)))
 iterate 3 refine op1 tok ?_
 iterate 3 refine op2 tok ?_
 iterate 2 refine op1 tok ?_
 refine qA (cnd ?_ ?_)
 ·intro h16
  try simp at h16
  subst h16
  refine rgn [] [[]] ?_
  refine op1 tok ?_
  refine qA ?_
  exact AW.ret (qX (k:=by simp [Lib.indexByte]))
 intro h16
 try simp at h16
 refine rgn [] [[],[],[0,1,5,24]] ?_
 iterate 3 refine op1 tok ?_
 refine qA (cnd ?_ ?_)
 ·intro h24
  try simp at h24
  refine rgn [.int .u8 c.toNat,.nilp,.int .i64 (Lib.indexByte s c)] [[],[],[],[30],[4]] ?_
  iterate 5 refine op1 tok ?_ (hv:=by first | with_reducible exact True.intro | (first | (have:=qNY (G:=G) s c.toNat; simpa using this) | simp; done) | omega | simp | (simp +contextual; omega))
  exact qA (AW.ret qX)
 intro h24
 try simp at h24
theorem zGE (s:List UInt8) (c:UInt8):AFn Tryz.prog G 103 [.str s,.str [c]] (.int .i64 (Lib.indexByte s c)):=by
 refine AFn.introU tok Tryz.func103 (by kernel_rfl) rfl rfl ?_
 simp only [Tryz.f103,qN,List.map_cons,List.map_nil]
 refine rgn [] [[0,1]] ?_
 refine op1 tok ?_
 refine qA (rgn [.nilp,.int .i64 (Lib.indexByte s c)] [[],[],[7],[4]] ?_)
 iterate 4 refine op1 tok ?_ (hv:=by first | with_reducible exact True.intro | (exact zAI s c; done) | omega | simp | (simp +contextual; omega))
 exact qA (AW.ret qX)
theorem qKG {α β:Type} (f:α→β) (l:List α) (x y:β) (r:List β):(l.map f++x::r).set l.length y=l.map f++y::r:=by
 rw [List.set_append_right _ _ (by simp)]; simp
theorem qKL {α β:Type} (f:α→β) (l:List α) (x:β) (r:List β):(l.map f++x::r)[l.length]?=some x:=by
 rw [List.getElem?_append_right (by simp)]; simp
theorem qVA (s:List UInt8) (c:UInt8) (hs:s.length≤1000000000):AX Tryz.prog G 80 [.p (.str s),.p (.str [c]),.p (.int .i64 0),.p (.int .i64 (-1))] [] (.ms 91) [] [(91,.row 9 1 ((zR c s).map PD.str))]:=by
 refine AX.introU tok 60 Tryz.func80 (by kernel_rfl) rfl rfl ?_
 simp only [Tryz.f80,qN,List.map_cons,List.map_nil]
 have hC:=zGF (G:=G) s c
 have hcl:s.count c≤s.length:=List.count_le_length
 have hsl:=uU c s
 generalize hN:s.count c=N at *
 have hlt:¬ s.length<N:=by omega
 refine rgn [] [[0,1,2,3]] ?_
 refine op1 tok ?_
 refine qA (AW.seq (rgn [] [[],[0,1,2,3,13]] ?_))
 iterate 2 refine op1 tok ?_
 refine qA (cnd ?_ ?_)
 ·intro h13
  try simp at h13
 intro h13
 try simp at h13
 refine AW.skip (AW.seq (rgn [] [[],[0,1,2,3,15]] ?_))
 iterate 2 refine op1 tok ?_
 refine qA (cnd ?_ ?_)
 ·intro h15
  try simp at h15
 intro h15
 try simp at h15
 refine AW.skip (AW.seq (rgn [] [[],[0,1,2,3,20]] ?_))
 iterate 2 refine op1 tok ?_
 refine qA (cnd ?_ ?_)
 ·intro h20
  try simp at h20
  refine rgz [.nilp,.int .i64 N] [[],[],[],[],[0,1,2,3]] ?_
  iterate 5 refine oq1 tok hC ?_
  refine qA (rgn [] [[],[],[],[],[0,1,2,29],[0,1,2,3]] ?_)
  iterate 6 refine op1 tok ?_
  refine qA (rgn [.str []] [[],[],[0,1,2,3,9]] ?_)
  iterate 3 refine op1 tok ?_
  refine qA (rgn [] [[],[],[0,1,2,3,9]] ?_)
  iterate 3 refine op1 tok ?_
  refine qA (rgn [] [[]] ?_)
  refine op1 tok ?_
  refine qA (AW.seq (AW.block ?_))
  refine AW.loop (α:=List (List UInt8) × List UInt8) (fun a=>zR c s=a.1++zR c a.2∧a.1.length+a.2.count c=N∧a.2.length≤s.length) (fun a=>⟨wL 66 [(0,.p (.str a.2)),(1,.p (.str [c])),(2,.p (.int .i64 0)),(3,.p (.int .i64 N)),(9,.ms 91),(10,.p (.int .i64 a.1.length))],[],[(91,.row 9 1 (a.1.map PD.str ++ .str []::List.replicate (N-a.1.length) (.str [])))],60⟩) (fun a=>N-a.1.length) (([],s)) ⟨by simp,by simpa using hN,by simp⟩ ⟨qH (by simp [hlt]),rfl,by simp [hlt,List.replicate_succ],by simp [hlt]⟩ ?_
  rintro ⟨done,r⟩ ⟨hsp,hcn,hrl⟩
  simp only at hsp hcn hrl
  have hI:=zGE (G:=G) r c
  refine AW.seq (rgn [] [[],[],[0,1,2,3,9,10,36]] ?_)
  iterate 3 refine op1 tok ?_
  refine qA (cnd ?_ ?_)
  ·intro h36
   try simp at h36
   have hm:c∈r:=by
    apply Classical.byContradiction; intro h
    have:=List.count_eq_zero.2 h; omega
   obtain ⟨a,q,rfl,hn⟩:=zBA hm
   rw [xO hn] at hsp
   rw [zFM hn] at hcn
   simp only [List.length_append,List.length_cons] at hrl
   rw [qPV hn] at hI
   have hrep:List.replicate (N-done.length) (PD.str [])=PD.str []::List.replicate (N-(done.length+1)) (PD.str []):=by
    rw [show N-done.length=(N-(done.length+1))+1 by omega,List.replicate_succ]
   have hdq:List.drop (a.length+1) (List.take ((a.length:Int)+((q.length:Int)+1)).toNat (a++c::q))=q:=by
    rw [List.take_of_length_le (by simp; omega)]; simp
   refine AW.skip (AW.block (rgn [.nilp,.int .i64 a.length] [[],[],[],[0,1,2,3,9,10,11]] ?_))
   iterate 4 refine oq1 tok hI ?_
   refine qA (AW.seq (rgn [] [[],[0,1,2,3,9,10,11,41]] ?_))
   iterate 2 refine op1 tok ?_
   refine qA (cnd ?_ ?_)
   ·intro h41
    try simp at h41
    omega
   intro h41
   try simp at h41
   refine AW.skip (rgn [.str [],.str a] [[],[],[],[],[],[],[0,1,2,3,9,10,11,42,43,48],[],[0,1,2,3,9,10,11]] ?_)
   iterate 9 refine op1 tok ?_ (hv:=by first | with_reducible exact True.intro | (first | (simp [qKL]; done) | (simp [qKL]; omega); done) | omega | simp | (simp +contextual; omega))
   refine qA (rgn [] [[],[],[],[],[1,2,3,9,10,50,54],[],[0,1,2,3,9,10]] ?_)
   iterate 7 refine op1 tok ?_
   refine qA (rgz [] [[],[],[0,1,2,3,9,10]] ?_)
   iterate 3 refine op1 tok ?_
   refine qA ?_
   exact ⟨(done++[a],q),⟨by simp [hsp],by simp; omega,by simp only []; omega⟩,by simp; omega,qH (by simp [qKG,hrep,hdq]),rfl,by simp [qKG,hrep,hdq],by simp [qKG,hrep,hdq]⟩
  intro h36
  try simp at h36
  have hm:c ∉ r:=by
   intro h
   have:=List.count_pos_iff.2 h; omega
  rw [uP hm] at hsp
  have hdl:done.length=N:=by have:=List.count_eq_zero.2 hm; omega
  subst hdl
  have hfin:List.take (done.length+1) (List.map PD.str done++[PD.str r])=List.map PD.str (zR c s):=by
   rw [hsp,List.take_of_length_le (by simp)]; simp
  refine AW.exit ?_
  simp
  refine rgn [.str [],.str r] [[],[],[],[],[9,10]] ?_
  iterate 5 refine op1 tok ?_ (hv:=by first | with_reducible exact True.intro | (first | (simp [qKL]; done) | (simp [qKL]; omega); done) | omega | simp | (simp +contextual; omega))
  refine qA (rgn [] [[],[],[]] ?_)
  iterate 3 refine op1 tok ?_
  refine qD ?_
  refine qB.stepK [65] (zCG tok rfl rfl (done.length+1) (by conv=>lhs; simp) trivial (by conv=>lhs; simp) trivial rfl (by conv=>lhs; simp [qKG]) (by simp) (by omega)) (by conv=>lhs; simp [hfin]) rfl ?_
  refine qB.run [[8]] ?_
  refine op1 tok ?_
  refine qA ?_
  exact AW.ret qV
 intro h20
 try simp at h20
theorem qVB (s:List UInt8) (c:UInt8) (hs:s.length≤1000000000):AR Tryz.prog G 80 [.str s,.str [c],.int .i64 0,.int .i64 (-1)] 9 1 ((zR c s).map PD.str):=AR.of_AX (k:=91) (by simpa using qVA s c hs)
theorem zGD (s:List UInt8) (c:UInt8) (hs:s.length≤1000000000):AX Tryz.prog G 54 [.p (.str s),.p (.str [c])] [] (.ms 67) [] [(67,.row 9 1 ((zR c s).map PD.str))]:=by
 refine AX.introU tok 60 Tryz.func54 (by kernel_rfl) rfl rfl ?_
 simp only [Tryz.f54,qN,List.map_cons,List.map_nil]
 have hG:=qVB (G:=G) s c hs
 refine rgn [] [[0,1]] ?_
 refine op1 tok ?_
 refine qA (rgn [.nilf,.sl 1 ((zR c s).map PD.str),.clo 9 []] [[],[],[7],[4]] ?_)
 iterate 4 refine op1 tok ?_ (hv:=by first | with_reducible exact True.intro | (first | exact hG | (simp; exact hG); done) | omega | simp | (simp +contextual; omega))
 refine qA ?_
 exact AW.ret qV
theorem qNP (s:List UInt8) (c:UInt8) (hs:s.length≤1000000000):AR Tryz.prog G 54 [.str s,.str [c]] 9 1 ((zR c s).map PD.str):=AR.of_AX (k:=67) (by simpa using zGD s c hs)
theorem qSX {α:Type} {l:List α} (hn:l.Nodup) {k:Nat} {w:α} (h:l[k]?=some w):w ∉ l.take k:=by
 intro hm
 obtain ⟨i,hi⟩:=List.mem_iff_getElem?.1 hm
 rw [List.getElem?_take] at hi
 split at hi
 ·rename_i hik
  obtain ⟨h1,h2⟩:=List.getElem?_eq_some_iff.1 h
  obtain ⟨h3,h4⟩:=List.getElem?_eq_some_iff.1 hi
  exact List.pairwise_iff_getElem.1 hn i k h3 h1 hik (h4.trans h2.symm)
 cases hi
theorem qPM {l:List (List UInt8)} (hn:l.Nodup) {k:Nat} {w:List UInt8} (h:l[k]?=some w):zEI (l.take k) w=l.take (k+1):=by
 unfold zEI; rw [if_neg (qSX hn h),List.take_add_one,h]; rfl
theorem qPL {l:List (List UInt8)} (hn:l.Nodup) {k:Nat} {w:List UInt8} (h:l[k]?=some w) (vs:List V) (v:V):zEH (l.take k) vs w v=vs++[v]:=by
 unfold zEH; rw [if_neg (qSX hn h)]
def jI:List (List UInt8):=kY++jS
def qCZ (k:Nat):List V:=(List.range k).map fun i:Nat=>V.p (.int .i64 (if i<19 then 1 else 2))
theorem qUD {α:Type} (id:Nat) (f:α→PD):∀ l:List α,V.noRefL id (l.map fun i=>V.p (f i))=true
 | []=>rfl
 | x::l=>by simp only [List.map_cons,V.noRefL,V.noRef,qUD id f l,Bool.and_self]
theorem noC (id k:Nat):V.noRefL id (qCZ k)=true:=qUD id _ _
theorem qQM:jI.Nodup:=by decide +kernel
theorem qOP (k:Nat):qCZ (k+1)=qCZ k++[.p (.int .i64 (if k<19 then 1 else 2))]:=by unfold qCZ; rw [List.range_succ,List.map_append]; rfl
theorem zFQ  : AX Tryz.prog G 150 [] [] (.ms 66) [] [(66,.mp jI (qCZ 25))]:=by
 refine AX.introU tok 60 Tryz.func150 (by kernel_rfl) rfl rfl ?_
 simp only [Tryz.f150,qN,List.map_cons,List.map_nil]
 have h1:=qNP (G:=G) [108,101,110,103,116,104,32,107,101,121,115,32,110,111,116,32,116,121,112,101,32,115,111,114,116,32,117,110,105,113,117,101,32,114,101,118,101,114,115,101,32,97,100,100,32,109,105,110,32,109,97,120,32,102,108,111,111,114,32,99,101,105,108,32,114,111,117,110,100,32,116,111,106,115,111,110,32,116,111,115,116,114,105,110,103,32,116,111,110,117,109,98,101,114,32,97,110,121,32,97,108,108,32,101,110,116,114,105,101,115] 32 (by decide)
 rw [show zR 32 [108,101,110,103,116,104,32,107,101,121,115,32,110,111,116,32,116,121,112,101,32,115,111,114,116,32,117,110,105,113,117,101,32,114,101,118,101,114,115,101,32,97,100,100,32,109,105,110,32,109,97,120,32,102,108,111,111,114,32,99,101,105,108,32,114,111,117,110,100,32,116,111,106,115,111,110,32,116,111,115,116,114,105,110,103,32,116,111,110,117,109,98,101,114,32,97,110,121,32,97,108,108,32,101,110,116,114,105,101,115]=kY by decide +kernel] at h1
 have h2:=qNP (G:=G) [104,97,115,32,116,101,115,116,32,115,116,97,114,116,115,32,101,110,100,115,32,106,111,105,110,32,115,112,108,105,116] 32 (by decide)
 rw [show zR 32 [104,97,115,32,116,101,115,116,32,115,116,97,114,116,115,32,101,110,100,115,32,106,111,105,110,32,115,112,108,105,116]=jS by decide +kernel] at h2
 have hl1:kY.length=19:=rfl
 have hl2:jS.length=6:=rfl
 have hg1:∀ k w,kY[k]?=some w→jI[k]?=some w:=fun k w h=>by
  unfold jI; rw [List.getElem?_append_left (List.getElem?_eq_some_iff.1 h).1,h]
 have hg2:∀ k w,jS[k]?=some w→jI[19+k]?=some w:=fun k w h=>by
  unfold jI; rw [List.getElem?_append_right (by omega),hl1,show 19+k-19=k by omega,h]
 have hnd:=qQM
 have hnt:∀ k,(jI.take k).Nodup:=fun k=>(List.take_sublist k jI).nodup hnd
 have hall:jI.take 25=jI:=rfl
 generalize kY=L1 at *
 generalize jS=L2 at *
 generalize jI=L at *
 refine rgn [] [[26]] ?_
 refine op1 tok ?_
 refine qA (rgn [] [[],[1]] ?_)
 iterate 2 refine op1 tok ?_
 refine qA (AW.seq (rgn [.nilf,.sl 1 (L1.map PD.str),.clo 9 []] [[],[],[]] ?_))
 iterate 3 refine op1 tok ?_ (hv:=by first | with_reducible exact True.intro | (first | exact h1 | (simp; exact h1); done) | omega | simp | (simp +contextual; omega))
 refine qA (AW.block ?_)
 refine AW.loop (α:=Nat) (fun k=>k≤19) (fun k=>⟨wL 26 [(1,.ms 66),(7,.ms 67),(8,.p (.int .i64 19)),(9,.p (.int .i64 k))],[],[(66,.mp (L.take k) (qCZ k)),(67,.row 9 1 (L1.map PD.str))],60⟩) (fun k=>19-k) (0) (by omega) ⟨qH (by simp [hl1]),rfl,by simp [qCZ],by simp⟩ ?_
 rintro k hk
 refine rgn [] [[]] ?_
 refine op1 tok ?_
 refine qA (AW.seq (cnd ?_ ?_))
 ·intro h10
  try simp at h10
  obtain ⟨w,hw⟩:∃ w,L1[k]?=some w:=⟨L1[k]'(by omega),by simp [show k<L1.length by omega]⟩
  have hnd2:=hnt k
  have hK:=qPM hnd (hg1 k w hw)
  have hV:=qPL hnd (hg1 k w hw) (qCZ k) (.p (.int .i64 1))
  have hS:qCZ k++[.p (.int .i64 1)]=qCZ (k+1):=by rw [qOP,if_pos (by omega)]
  rw [hS] at hV
  refine AW.skip (AW.seq (AW.block (rgn [.str w] [[],[],[1,3,7,8,9]] ?_)))
  iterate 3 refine op1 tok ?_ (hv:=by first | with_reducible exact True.intro | ((simp [hw]); done) | omega | simp | (simp +contextual; omega))
  refine qA (rgz [] [[],[]] ?_)
  iterate 2 refine op1 tok ?_
  refine qD ?_
  refine qB.stepK [1,7,8,9] (qSI tok rfl rfl rfl (by conv=>lhs; simp) trivial (by conv=>lhs; simp) trivial (by conv=>lhs; simp) trivial (by conv=>lhs; simp) hnd2) (by conv=>lhs; simp) rfl ?_
  refine qB.nil ?_
  refine rgz [] [[],[1,7,8,9]] ?_
  iterate 2 refine op1 tok ?_
  refine qA ?_
  exact ⟨k+1,by omega,by omega,qH (by simp [hK,hV]),rfl,by simp [hK,hV],by simp [hK,hV]⟩
 intro h10
 try simp at h10
 obtain rfl:k=19:=by omega
 refine AW.exit ?_
 simp
 refine AW.seq (rgn [.nilf,.sl 1 (L2.map PD.str),.clo 9 []] [[],[],[]] ?_)
 iterate 3 refine op1 tok ?_ (hv:=by first | with_reducible exact True.intro | (first | exact h2 | (simp; exact ⟨h2,noC _ _⟩); done) | omega | simp | (simp +contextual; omega))
 refine qA (AW.block ?_)
 refine AW.loop (α:=Nat) (fun k=>k≤6) (fun k=>⟨wL 26 [(1,.ms 66),(16,.ms 76),(17,.p (.int .i64 6)),(18,.p (.int .i64 k))],[],[(66,.mp (L.take (19+k)) (qCZ (19+k))),(76,.row 9 1 (L2.map PD.str))],60⟩) (fun k=>6-k) (0) (by omega) ⟨qH (by simp [hl2]),rfl,by simp,by simp⟩ ?_
 rintro k hk
 refine rgn [] [[]] ?_
 refine op1 tok ?_
 refine qA (AW.seq (cnd ?_ ?_))
 ·intro h19
  try simp at h19
  obtain ⟨w,hw⟩:∃ w,L2[k]?=some w:=⟨L2[k]'(by omega),by simp [show k<L2.length by omega]⟩
  have hnd2:=hnt (19+k)
  have hK:=qPM hnd (hg2 k w hw)
  have hV:=qPL hnd (hg2 k w hw) (qCZ (19+k)) (.p (.int .i64 2))
  have hS:qCZ (19+k)++[.p (.int .i64 2)]=qCZ (19+k+1):=by rw [qOP,if_neg (by omega)]
  rw [hS] at hV
  refine AW.skip (AW.seq (AW.block (rgn [.str w] [[],[],[1,5,16,17,18]] ?_)))
  iterate 3 refine op1 tok ?_ (hv:=by first | with_reducible exact True.intro | ((simp [hw]); done) | omega | simp | (simp +contextual; omega))
  refine qA (rgz [] [[],[]] ?_)
  iterate 2 refine op1 tok ?_
  refine qD ?_
  refine qB.stepK [1,16,17,18] (qSI tok rfl rfl rfl (by conv=>lhs; simp) trivial (by conv=>lhs; simp) trivial (by conv=>lhs; simp) trivial (by conv=>lhs; simp) hnd2) (by conv=>lhs; simp) rfl ?_
  refine qB.nil ?_
  refine rgz [] [[],[1,16,17,18]] ?_
  iterate 2 refine op1 tok ?_
  refine qA ?_
  exact ⟨k+1,by omega,by omega,qH (by simp [hK,hV,Nat.add_assoc]),rfl,by simp [hK,hV,Nat.add_assoc],by simp [hK,hV,Nat.add_assoc]⟩
 intro h19
 try simp at h19
 obtain rfl:k=6:=by omega
 simp only [show 19+6=25 from rfl,hall]
 refine AW.exit ?_
 simp
 refine rgn [] [[],[0]] ?_
 iterate 2 refine op1 tok ?_
 refine qA ?_
 exact AW.ret qV
theorem zBT (w:List UInt8):(∀ i:Nat,jI[i]?=some w→(qCZ 25)[i]?=some (V.p (PD.int .i64 (kS w))))∧(w ∉ jI→kS w=0):=by
 have hl1:kY.length=19:=rfl
 have hl:jI.length=25:=rfl
 constructor
 ·intro i hi
  have hlt:=(List.getElem?_eq_some_iff.1 hi).1
  have hm:=List.mem_of_getElem? hi
  have hv:(qCZ 25)[i]?=some (V.p (PD.int .i64 (if i<19 then 1 else 2))):=by unfold qCZ; rw [List.getElem?_map,List.getElem?_range (by omega)]; rfl
  rw [hv]
  unfold kS
  by_cases h:i<19
  ·have:w∈kY:=by
    unfold jI at hi; rw [List.getElem?_append_left (by omega)] at hi
    exact List.mem_of_getElem? hi
   rw [if_pos h,if_pos this]
  have h2:w∈jS:=by
   unfold jI at hi; rw [List.getElem?_append_right (by omega)] at hi
   exact List.mem_of_getElem? hi
  have h1:w ∉ kY:=by
   intro h1
   have hd:∀ x∈kY,x ∉ jS:=by decide +kernel
   exact hd w h1 h2
  rw [if_neg h,if_neg h1,if_pos h2]
 intro hn
 unfold jI at hn
 rw [List.mem_append,not_or] at hn
 unfold kS; rw [if_neg hn.1,if_neg hn.2]
theorem zGG (w:List UInt8):AFn Tryz.prog G 140 [.str w] (.int .i64 (kS w)):=by
 refine AFn.introU tok Tryz.func140 (by kernel_rfl) rfl rfl ?_
 simp only [Tryz.f140,qN,List.map_cons,List.map_nil]
 obtain ⟨h1,h2⟩:=zBT w
 have hc:=zFQ (G:=G)
 generalize kS w=c at *
 generalize qCZ 25=vs at *
 generalize jI=L at *
 refine rgn [] [[0]] ?_
 refine op1 tok ?_
 refine qA ?_
 refine AW.seqRegionO [.int .i64 c] ?_
 refine qB.stepK [0,3] (qJ rfl hc (by simp)) (by conv=>lhs; simp) rfl ?_
 refine qB.run [[],[],[2]] ?_
 iterate 3 refine op1 tok ?_ (hv:=by first | with_reducible exact True.intro | (first | (exact ⟨h1,fun h=>(h2 h).symm⟩) | (simp; exact ⟨h1,fun h=>(h2 h).symm⟩); done) | omega | simp | (simp +contextual; omega))
 exact qA (AW.ret qX)
structure InS (c d:Nat) (s:PS):Prop where
 ok:okS s
 lo:0≤s.deep
 hi:s.deep+2 * s.left.length+c≤5000
 nd:s.nodes.length+4 * s.left.length+d≤5000
theorem InS.n {c d:Nat} {s:PS} (h:InS c d s):s.nodes.length≤1000000:=by have:=h.nd; omega
theorem InS.le {c d c1 d1:Nat} (c2 d2:Nat) {s s':PS} (h:InS c d s) (g:Le c1 d1 s s') (hc:c1+c2≤c) (hd:d1+d2≤d):InS c2 d2 s' :=
 ⟨g.ok h.ok,Int.le_trans h.lo g.d0,by have:=h.hi; have:=g.d1; omega,by have:=h.nd; have:=g.n0; omega⟩
theorem InS.le0 {c d:Nat} {s s':PS} (h:InS c d s) (g:Le 0 0 s s'):InS c d s':=h.le c d g (by omega) (by omega)
theorem InS.weak {c d:Nat} (c2 d2:Nat) {s:PS} (h:InS c d s) (hc:c2≤c) (hd:d2≤d):InS c2 d2 s:=h.le c2 d2 (Le.refl s) (by omega) (by omega)
theorem InS.eat {c d:Nat} {s s':PS} (h:InS c d s) (g:Le 0 0 s s') (e:s'.left.length+1=s.left.length∧s'.deep=s.deep∧s'.nodes=s.nodes):InS (c+2) (d+4) s' :=
 ⟨g.ok h.ok,Int.le_trans h.lo g.d0,by have:=h.hi; omega,by have:=h.nd; have:=e.2.2; rw [this]; omega⟩
theorem InS.up {c d:Nat} {s:PS} (h:InS (c+1) d s):InS c d (upP 1 s):=⟨h.ok,by have:=h.lo; simp [upP]; omega,by have:=h.hi; simp [upP]; omega,h.nd⟩
@[simp] theorem zOD (b:Int) (s:PS):(upP b s).left=s.left:=rfl
@[simp] theorem zMA (b:Int) (s:PS):(upP b s).nodes=s.nodes:=rfl
@[simp] theorem zOE (b:Int) (s:PS):(upP b s).deep=s.deep+b:=rfl
@[simp] theorem zOK (b:Int) (s:PS):(upP b s).bad=(s.bad || !decide (s.deep+b≤60)):=rfl
@[simp] theorem zLR (b:Int) (s:PS):(yN b s).left=s.left:=rfl
@[simp] theorem zLA (b:Int) (s:PS):(yN b s).nodes=s.nodes:=rfl
@[simp] theorem zLS (b:Int) (s:PS):(yN b s).deep=s.deep-b:=rfl
@[simp] theorem zNZ (b:Int) (s:PS):(yN b s).bad=s.bad:=rfl
theorem zCM {s:PS} (hs:okS s):0≤(wY s).1∧(wY s).1≤9223372036854775807:=by
 have:okT (zD [4] s).1:=qUE hs
 exact this.2
structure SynAll (G:qS) (n:Nat):Prop where
 pipe:∀ s,InS 0 0 s→20 * s.left.length+11≤n→AX Tryz.prog G 12 [.ptr 2 0] [(2,.vars 42 (psC (s))),(3,.row 36 8 ((s).nodes.map Nd.enc))] (.p (.int .i64 (zF n s).1)) [2] [(2,.vars 42 (psC ((zF n s).2))),(3,.row 36 8 (((zF n s).2).nodes.map Nd.enc))]
 deeper:∀ b s,(b=0∧InS 0 0 s)∨(b=1∧InS 1 0 s)→20 * s.left.length+12≤n→AX Tryz.prog G 22 [.ptr 2 0,.p (.int .i64 b)] [(2,.vars 42 (psC (s))),(3,.row 36 8 ((s).nodes.map Nd.enc))] (.p (.int .i64 (qW n b s).1)) [2] [(2,.vars 42 (psC ((qW n b s).2))),(3,.row 36 8 (((qW n b s).2).nodes.map Nd.enc))]
 closed:∀ w s,InS 1 0 s→20 * s.left.length+13≤n→AX Tryz.prog G 123 [.ptr 2 0,.p (.str w)] [(2,.vars 42 (psC (s))),(3,.row 36 8 ((s).nodes.map Nd.enc))] (.p (.int .i64 (qQ n w s).1)) [2] [(2,.vars 42 (psC ((qQ n w s).2))),(3,.row 36 8 (((qQ n w s).2).nodes.map Nd.enc))]
 inside:∀ s,InS 1 0 s→20 * s.left.length+14≤n→AX Tryz.prog G 117 [.ptr 2 0] [(2,.vars 42 (psC (s))),(3,.row 36 8 ((s).nodes.map Nd.enc))] (.p (.int .i64 (zB n s).1)) [2] [(2,.vars 42 (psC ((zB n s).2))),(3,.row 36 8 (((zB n s).2).nodes.map Nd.enc))]
 bound:∀ i s,i≤6→InS 0 0 s→20 * s.left.length+10-i≤n→AX Tryz.prog G 16 [.ptr 2 0,.p (.int .i64 i)] [(2,.vars 42 (psC (s))),(3,.row 36 8 ((s).nodes.map Nd.enc))] (.p (.int .i64 (qL n i s).1)) [2] [(2,.vars 42 (psC ((qL n i s).2))),(3,.row 36 8 (((qL n i s).2).nodes.map Nd.enc))]
 post:∀ s,InS 0 0 s→20 * s.left.length+3≤n→AX Tryz.prog G 39 [.ptr 2 0] [(2,.vars 42 (psC (s))),(3,.row 36 8 ((s).nodes.map Nd.enc))] (.p (.int .i64 (wQ n s).1)) [2] [(2,.vars 42 (psC ((wQ n s).2))),(3,.row 36 8 (((wQ n s).2).nodes.map Nd.enc))]
 term:∀ s,InS 0 0 s→20 * s.left.length+2≤n→AX Tryz.prog G 71 [.ptr 2 0] [(2,.vars 42 (psC (s))),(3,.row 36 8 ((s).nodes.map Nd.enc))] (.p (.int .i64 (zM n s).1)) [2] [(2,.vars 42 (psC ((zM n s).2))),(3,.row 36 8 (((zM n s).2).nodes.map Nd.enc))]
 named:∀ w s,InS 2 4 s→20 * s.left.length+17≤n→AX Tryz.prog G 94 [.ptr 2 0,.p (.str w)] [(2,.vars 42 (psC (s))),(3,.row 36 8 ((s).nodes.map Nd.enc))] (.p (.int .i64 (zS n w s).1)) [2] [(2,.vars 42 (psC ((zS n w s).2))),(3,.row 36 8 (((zS n w s).2).nodes.map Nd.enc))]
 choice:∀ s,InS 1 1 s→20 * s.left.length+14≤n→AX Tryz.prog G 116 [.ptr 2 0] [(2,.vars 42 (psC (s))),(3,.row 36 8 ((s).nodes.map Nd.enc))] (.p (.int .i64 (wB n s).1)) [2] [(2,.vars 42 (psC ((wB n s).2))),(3,.row 36 8 (((wB n s).2).nodes.map Nd.enc))]
 reduce:∀ s,InS 2 1 s→20 * s.left.length+15≤n→AX Tryz.prog G 118 [.ptr 2 0] [(2,.vars 42 (psC (s))),(3,.row 36 8 ((s).nodes.map Nd.enc))] (.p (.int .i64 (zY n s).1)) [2] [(2,.vars 42 (psC ((zY n s).2))),(3,.row 36 8 (((zY n s).2).nodes.map Nd.enc))]
 limit:∀ s,InS 1 1 s→20 * s.left.length+15≤n→AX Tryz.prog G 119 [.ptr 2 0] [(2,.vars 42 (psC (s))),(3,.row 36 8 ((s).nodes.map Nd.enc))] (.p (.int .i64 (wV n s).1)) [2] [(2,.vars 42 (psC ((wV n s).2))),(3,.row 36 8 (((wV n s).2).nodes.map Nd.enc))]
 maps:∀ s,InS 1 4 s→20 * s.left.length+16≤n→AX Tryz.prog G 120 [.ptr 2 0] [(2,.vars 42 (psC (s))),(3,.row 36 8 ((s).nodes.map Nd.enc))] (.p (.int .i64 (kC n s).1)) [2] [(2,.vars 42 (psC ((kC n s).2))),(3,.row 36 8 (((kC n s).2).nodes.map Nd.enc))]
 selects:∀ s,InS 1 3 s→20 * s.left.length+16≤n→AX Tryz.prog G 121 [.ptr 2 0] [(2,.vars 42 (psC (s))),(3,.row 36 8 ((s).nodes.map Nd.enc))] (.p (.int .i64 (zO n s).1)) [2] [(2,.vars 42 (psC ((zO n s).2))),(3,.row 36 8 (((zO n s).2).nodes.map Nd.enc))]
 signed:∀ w s,InS 0 0 s→20 * s.left.length+1≤n→(w≠[]→InS 1 1 s∧20 * s.left.length+17≤n)→AX Tryz.prog G 96 [.ptr 2 0,.p (.str w)] [(2,.vars 42 (psC (s))),(3,.row 36 8 ((s).nodes.map Nd.enc))] (.p (.int .i64 (zJ n w s).1)) [2] [(2,.vars 42 (psC ((zJ n w s).2))),(3,.row 36 8 (((zJ n w s).2).nodes.map Nd.enc))]
 object:∀ s,InS 1 1 s→20 * s.left.length+3≤n→AX Tryz.prog G 124 [.ptr 2 0] [(2,.vars 42 (psC (s))),(3,.row 36 8 ((s).nodes.map Nd.enc))] (.p (.int .i64 (zZ n s).1)) [2] [(2,.vars 42 (psC ((zZ n s).2))),(3,.row 36 8 (((zZ n s).2).nodes.map Nd.enc))]
theorem qGB (s:PS) (w:List UInt8):AX Tryz.prog G 139 [.ptr 2 0,.p (.sl 1 [.str w])] [(2,.vars 42 (psC (s))),(3,.row 36 8 ((s).nodes.map Nd.enc))] (.tuple []) [2,3] [(2,.vars 42 (psC (zA 1 w s))),(3,.row 36 8 ((zA 1 w s).nodes.map Nd.enc))]:=by
 refine AX.introU tok 900 Tryz.func139 (by kernel_rfl) rfl rfl ?_
 simp only [Tryz.f139,qN,List.map_cons,List.map_nil]
 have h1:=qQN (G:=G) s [w]
 have hN:zA 1 w s=qK (qT 1 [w] s).1.2 (qT 1 [w] s).2:=rfl
 rw [hN]
 generalize qT 1 [w] s=R at *
 obtain ⟨⟨t,b⟩,s'⟩:=R
 simp only [List.map_cons,List.map_nil] at h1 ⊢
 have h2:=xX (G:=G) s' b
 refine rgn [] [[],[],[0,8,9,10]] ?_
 iterate 3 refine op1 tok ?_
 refine qA (AW.block ?_)
 refine AW.loop (α:=Nat) (fun k=>k≤1) (fun k=>⟨wL 25 [(0,.ptr 2 0),(8,.p (.sl 1 [.str w])),(9,.p (.int .i64 1)),(10,.p (.int .i64 k))],[2,3],[(2,.vars 42 (psC (if k=0 then s else qK b s'))),(3,.row 36 8 ((if k=0 then s else qK b s').nodes.map Nd.enc))],900⟩) (fun k=>1-k) (0) (by omega) ⟨qH (by simp),rfl,by simp,by simp⟩ ?_
 rintro k hk
 refine rgn [] [[]] ?_
 refine op1 tok ?_
 refine qA (AW.seq (cnd ?_ ?_))
 ·intro h11
  try simp at h11
  obtain rfl:k=0:=by omega
  refine AW.skip (AW.seq (AW.block (rgn [.str w] [[],[],[0,5,8,9,10]] ?_)))
  iterate 3 refine op1 tok ?_
  refine qA (rgn [.str w] [[],[],[]] ?_)
  iterate 3 refine op1 tok ?_
  refine qD ?_
  refine qB.freeze 917 (by conv=>lhs; simp) ?_
  refine qB.stepK [0,8,9,10,18] (qJ rfl h1 (by simp)) (by conv=>lhs; simp) rfl ?_
  refine qB.run [[],[],[],[0,8,9,10,20],[0,7,8,9,10]] ?_
  iterate 5 refine op1 tok ?_
  refine qA (rgz [] [[],[]] ?_)
  iterate 2 refine op1 tok ?_
  refine qD ?_
  refine qB.stepK [0,8,9,10] (qJ rfl h2 (by simp)) (by conv=>lhs; simp) rfl ?_
  refine qB.nil ?_
  refine rgz [] [[],[0,8,9,10]] ?_
  iterate 2 refine op1 tok ?_
  refine qA ?_
  exact ⟨1,by omega,by omega,qH (by simp),rfl,by simp,by simp⟩
 intro h11
 try simp at h11
 obtain rfl:k=1:=by omega
 refine AW.exit ?_
 simp
 exact zFB
theorem zAO (n:Nat) (s:PS) (ih:∀ m,m≤n→SynAll G m) (hi:InS 0 0 s) (hf:20 * s.left.length+11≤n+1):AX Tryz.prog G 12 [.ptr 2 0] [(2,.vars 42 (psC (s))),(3,.row 36 8 ((s).nodes.map Nd.enc))] (.p (.int .i64 (zF (n+1) s).1)) [2] [(2,.vars 42 (psC ((zF (n+1) s).2))),(3,.row 36 8 (((zF (n+1) s).2).nodes.map Nd.enc))]:=by
 refine AX.introU tok 900 Tryz.func12 (by kernel_rfl) rfl rfl ?_
 simp only [Tryz.f12,qN,List.map_cons,List.map_nil]
 simp only [zF]
 have c1:=(ih n (by omega)).bound 0 s (by omega) hi (by omega)
 have l1:=(zK n).bound 0 s
 have i1:=hi.le0 l1
 generalize qL n 0 s=R at *
 obtain ⟨a1,s1⟩:=R
 simp only at c1 l1 i1 ⊢
 have e1:=l1.len
 have c2:=uH (G:=G) s1 [[124]]
 have l2:=zP 6 [[124]] s1
 have o2:=xH (k:=6) (l:=[[124]]) (s:=s1)
 have i2:=i1.le0 l2
 generalize qT 6 [[124]] s1=R at *
 obtain ⟨⟨w2,b2⟩,s2⟩:=R
 simp only [List.map_cons,List.map_nil] at c2 l2 o2 i2 ⊢
 have e2:=l2.len
 refine rgn [] [[0]] ?_
 refine op1 tok ?_
 refine qA (rgn [] [[]] ?_)
 refine op1 tok ?_
 refine qD ?_
 refine qB.stepK [0,10] (qJ rfl c1 (by simp)) (by conv=>lhs; simp) rfl ?_
 refine qB.run [[0,3]] ?_
 refine op1 tok ?_
 refine qA (AW.seq (rgn [.str [124]] [[],[]] ?_))
 iterate 2 refine op1 tok ?_
 refine qD ?_
 refine qB.freeze 913 (by conv=>lhs; simp) ?_
 refine qB.stepK [0,3,14] (qJ rfl c2 (by simp)) (by conv=>lhs; simp) rfl ?_
 refine qB.run [[],[],[],[0,3,16],[0,3,5]] ?_
 iterate 5 refine op1 tok ?_
 refine qA (rgn [] [[0,3,17]] ?_)
 refine op1 tok ?_
 refine qA (cnd ?_ ?_)
 ·intro h17
  try simp at h17
  rw [if_pos h17]
  obtain ⟨q1,q2,q3, -⟩:=o2 h17
  have j2:=(i1.eat l2 ⟨q1,q2,q3⟩)
  have c4:=(ih n (by omega)).pipe s2 (j2.weak 0 0 (by omega) (by omega)) (by omega)
  have l4:=(zK n).pipe s2
  have i4:=j2.le0 l4
  generalize zF n s2=R at *
  obtain ⟨a4,s4⟩:=R
  simp only at c4 l4 i4 ⊢
  have c5:=vK (G:=G) s4 7 [] [a1,a4] i4.n
  simp only [List.map_cons,List.map_nil] at c5
  refine rgn [.int .i64 a1,.int .i64 a4] [[],[],[]] ?_
  iterate 3 refine op1 tok ?_
  refine qD ?_
  refine qB.stepK [18,19,21] (qJ rfl c4 (by simp)) (by conv=>lhs; simp) rfl ?_
  refine qB.run [[]] ?_
  refine op1 tok ?_
  refine qD ?_
  refine qB.freeze 922 (by conv=>lhs; simp) ?_
  refine qB.stepK [23] (qJ rfl c5 (by simp)) (by conv=>lhs; simp) rfl ?_
  refine qB.run [[2]] ?_
  refine op1 tok ?_
  refine qA ?_
  exact AW.ret qV
 intro h17
 try simp at h17
 rw [if_neg (by simp [h17])]
 have c6:=qQN (G:=G) s2 [[97,115]]
 have l6:=zP 1 [[97,115]] s2
 have o6:=xH (k:=1) (l:=[[97,115]]) (s:=s2)
 have i6:=i2.le0 l6
 generalize qT 1 [[97,115]] s2=R at *
 obtain ⟨⟨w6,b6⟩,s6⟩:=R
 simp only [List.map_cons,List.map_nil] at c6 l6 o6 i6 ⊢
 have e6:=l6.len
 refine AW.skip (AW.seq (rgn [.str [97,115]] [[],[]] ?_))
 iterate 2 refine op1 tok ?_
 refine qD ?_
 refine qB.freeze 926 (by conv=>lhs; simp) ?_
 refine qB.stepK [0,3,27] (qJ rfl c6 (by simp)) (by conv=>lhs; simp) rfl ?_
 refine qB.run [[],[],[],[0,3,29],[0,3,7]] ?_
 iterate 5 refine op1 tok ?_
 refine qA (rgn [] [[0,3,30]] ?_)
 refine op1 tok ?_
 refine qA (cnd ?_ ?_)
 ·intro h30
  try simp at h30
  rw [if_pos h30]
  obtain ⟨q1,q2,q3, -⟩:=o6 h30
  have j6:=i2.eat l6 ⟨q1,q2,q3⟩
  have c7:=qEL (G:=G) s6 [2]
  have l7:=kK [2] s6
  have i7:=j6.le0 l7
  generalize zD [2] s6=R at *
  obtain ⟨t7,s7⟩:=R
  simp only [List.map_cons,List.map_nil] at c7 l7 i7 ⊢
  have e7:=l7.len
  have c8:=xC (G:=G) s7 [124]
  have l8:=qU 6 [124] s7
  have i8:=i7.le0 l8
  generalize zA 6 [124] s7=s8 at *
  have e8:=l8.len
  have c9:=(ih n (by omega)).deeper 0 s8 (.inl ⟨rfl,i8.weak 0 0 (by omega) (by omega)⟩) (by omega)
  have l9:=(zK n).deeper 0 s8 (by omega)
  have i9:=i8.le 2 4 l9 (by simp) (by simp)
  generalize qW n 0 s8=R at *
  obtain ⟨a9,s9⟩:=R
  simp only at c9 l9 i9 ⊢
  have c10:=vK (G:=G) s9 16 t7.text [a1,a9] i9.n
  simp only [List.map_cons,List.map_nil] at c10
  refine rgn [.int .i64 2] [[],[]] ?_
  iterate 2 refine op1 tok ?_
  refine qD ?_
  refine qB.freeze 932 (by conv=>lhs; simp) ?_
  refine qB.stepK [0,3,33] (qJ rfl c7 (by simp)) (by conv=>lhs; simp) rfl ?_
  refine qB.run [[],[0,3,8]] ?_
  iterate 2 refine op1 tok ?_
  refine qA (rgn [.str [124]] [[],[]] ?_)
  iterate 2 refine op1 tok ?_
  refine qD ?_
  refine qB.freeze 936 (by conv=>lhs; simp) ?_
  refine qB.stepK [0,3,8] (qJ rfl c8 (by simp)) (by conv=>lhs; simp) rfl ?_
  refine qB.nil ?_
  refine rgn [.int .i64 a1,.int .i64 a9] [[],[],[],[]] ?_
  iterate 4 refine op1 tok ?_
  refine qD ?_
  refine qB.stepK [38,39,40,42] (qJ rfl c9 (by simp)) (by conv=>lhs; simp) rfl ?_
  refine qB.run [[]] ?_
  refine op1 tok ?_
  refine qD ?_
  refine qB.freeze 943 (by conv=>lhs; simp) ?_
  refine qB.stepK [44] (qJ rfl c10 (by simp)) (by conv=>lhs; simp) rfl ?_
  refine qB.run [[2]] ?_
  refine op1 tok ?_
  refine qA ?_
  exact AW.ret qV
 intro h30
 try simp at h30
 rw [if_neg (by simp [h30])]
 refine AW.skip (rgn [] [[],[2]] ?_)
 iterate 2 refine op1 tok ?_
 refine qA ?_
 exact AW.ret qV
theorem qVN (n:Nat) (w:List UInt8) (s:PS) (ih:∀ m,m≤n→SynAll G m) (hi:InS 1 0 s) (hf:20 * s.left.length+13≤n+1):AX Tryz.prog G 123 [.ptr 2 0,.p (.str w)] [(2,.vars 42 (psC (s))),(3,.row 36 8 ((s).nodes.map Nd.enc))] (.p (.int .i64 (qQ (n+1) w s).1)) [2] [(2,.vars 42 (psC ((qQ (n+1) w s).2))),(3,.row 36 8 (((qQ (n+1) w s).2).nodes.map Nd.enc))]:=by
 refine AX.introU tok 900 Tryz.func123 (by kernel_rfl) rfl rfl ?_
 simp only [Tryz.f123,qN,List.map_cons,List.map_nil]
 simp only [qQ]
 have c1:=(ih n (by omega)).deeper 1 s (.inr ⟨rfl,hi⟩) (by omega)
 have l1:=(zK n).deeper 1 s (by omega)
 have i1:=hi.le 0 0 l1 (by simp) (by simp)
 generalize qW n 1 s=R at *
 obtain ⟨a1,s1⟩:=R
 simp only at c1 l1 i1 ⊢
 have c2:=xC (G:=G) s1 w
 have l2:=qU 6 w s1
 have i2:=i1.le0 l2
 generalize zA 6 w s1=s2 at *
 refine rgn [] [[0,1]] ?_
 refine op1 tok ?_
 refine qA (rgn [] [[]] ?_)
 refine op1 tok ?_
 refine qD ?_
 refine qB.stepK [0,1,7] (qJ rfl c1 (by simp)) (by conv=>lhs; simp) rfl ?_
 refine qB.run [[0,1,5]] ?_
 refine op1 tok ?_
 refine qA (rgn [.str w] [[],[],[]] ?_)
 iterate 3 refine op1 tok ?_
 refine qD ?_
 refine qB.freeze 910 (by conv=>lhs; simp) ?_
 refine qB.stepK [5] (qJ rfl c2 (by simp)) (by conv=>lhs; simp) rfl ?_
 refine qB.nil ?_
 refine rgn [] [[],[4]] ?_
 iterate 2 refine op1 tok ?_
 refine qA ?_
 exact AW.ret qV
theorem qUU (n:Nat) (s:PS) (ih:∀ m,m≤n→SynAll G m) (hi:InS 1 0 s) (hf:20 * s.left.length+14≤n+1):AX Tryz.prog G 117 [.ptr 2 0] [(2,.vars 42 (psC (s))),(3,.row 36 8 ((s).nodes.map Nd.enc))] (.p (.int .i64 (zB (n+1) s).1)) [2] [(2,.vars 42 (psC ((zB (n+1) s).2))),(3,.row 36 8 (((zB (n+1) s).2).nodes.map Nd.enc))]:=by
 refine AX.introU tok 900 Tryz.func117 (by kernel_rfl) rfl rfl ?_
 simp only [Tryz.f117,qN,List.map_cons,List.map_nil]
 simp only [zB]
 have c1:=xC (G:=G) s [40]
 have l1:=qU 6 [40] s
 have i1:=hi.le0 l1
 generalize zA 6 [40] s=s1 at *
 have e1:=l1.len
 have c2:=(ih n (by omega)).closed [41] s1 i1 (by omega)
 refine rgn [] [[0]] ?_
 refine op1 tok ?_
 refine qA (rgn [.str [40]] [[],[]] ?_)
 iterate 2 refine op1 tok ?_
 refine qD ?_
 refine qB.freeze 904 (by conv=>lhs; simp) ?_
 refine qB.stepK [0] (qJ rfl c1 (by simp)) (by conv=>lhs; simp) rfl ?_
 refine qB.nil ?_
 refine rgn [] [[]] ?_
 refine op1 tok ?_
 refine qD ?_
 refine qB.stepK [7] (qJ rfl c2 (by simp)) (by conv=>lhs; simp) rfl ?_
 refine qB.run [[2]] ?_
 refine op1 tok ?_
 refine qA ?_
 exact AW.ret qV
theorem qVK (n:Nat) (b:Int) (s:PS) (ih:∀ m,m≤n→SynAll G m) (hi:(b=0∧InS 0 0 s)∨(b=1∧InS 1 0 s)) (hf:20 * s.left.length+12≤n+1):AX Tryz.prog G 22 [.ptr 2 0,.p (.int .i64 b)] [(2,.vars 42 (psC (s))),(3,.row 36 8 ((s).nodes.map Nd.enc))] (.p (.int .i64 (qW (n+1) b s).1)) [2] [(2,.vars 42 (psC ((qW (n+1) b s).2))),(3,.row 36 8 (((qW (n+1) b s).2).nodes.map Nd.enc))]:=by
 refine AX.introU tok 900 Tryz.func22 (by kernel_rfl) rfl rfl ?_
 simp only [Tryz.f22,qN,List.map_cons,List.map_nil]
 have hu:InS 0 0 (upP b s):=by
  rcases hi with ⟨rfl,h⟩ | ⟨rfl,h⟩
  ·exact ⟨h.ok,by have:=h.lo; simp; omega,by have:=h.hi; simp; omega,h.nd⟩
  exact h.up
 have hb:0≤b∧b≤1:=by rcases hi with ⟨rfl,_⟩ | ⟨rfl,_⟩ <;> omega
 have hlo:0≤s.deep∧s.deep≤5000:=by rcases hi with ⟨_,h⟩ | ⟨_,h⟩ <;> (have:=h.lo; have:=h.hi; omega)
 have hm:=xX (G:=G) { s with deep:=s.deep+b } (decide (s.deep+b≤60))
 have hU:upP b s=qK (decide (s.deep+b≤60)) { s with deep:=s.deep+b }:=rfl
 simp only [qW]
 rw [← hU] at hm
 have hul:(upP b s).left=s.left:=rfl
 have hud:(upP b s).deep=s.deep+b:=rfl
 generalize upP b s=u at *
 refine rgn [] [[0,1]] ?_
 refine op1 tok ?_
 refine qA (rgn [] [[],[],[],[],[],[0,1,6,11],[],[],[0,1]] ?_)
 iterate 9 refine op1 tok ?_
 refine qA (rgn [] [[],[],[],[],[],[0,1,14,19]] ?_)
 iterate 6 refine op1 tok ?_
 refine qD ?_
 refine qB.stepK [0,1] (qJ rfl hm (by simp)) (by conv=>lhs; simp) rfl ?_
 refine qB.nil ?_
 refine AW.seq (rgn [] [[],[],[],[0,1,24]] ?_)
 iterate 4 refine op1 tok ?_
 refine qA (cnd ?_ ?_)
 ·intro h24
  try simp at h24
  rw [if_pos h24]
  refine rgn [] [[]] ?_
  refine op1 tok ?_
  refine qA ?_
  exact AW.ret qV
 intro h24
 try simp at h24
 rw [if_neg (by simp [h24])]
 have c3:=(ih n (by omega)).pipe u hu (by rw [hul]; omega)
 have l3:=(zK n).pipe u
 have i3:=hu.le0 l3
 generalize zF n u=R at *
 obtain ⟨a3,s3⟩:=R
 simp only at c3 l3 i3 ⊢
 have hlo3:=l3.d0
 have hhi3:=i3.hi
 refine AW.skip (rgn [] [[]] ?_)
 refine op1 tok ?_
 refine qD ?_
 refine qB.stepK [0,1,26] (qJ rfl c3 (by simp)) (by conv=>lhs; simp) rfl ?_
 refine qB.run [[0,1,5]] ?_
 refine op1 tok ?_
 refine qA (rgn [] [[],[],[],[],[5,27,30,31],[],[],[5,32,34],[5]] ?_)
 iterate 9 refine op1 tok ?_
 refine qA (rgn [] [[],[4]] ?_)
 iterate 2 refine op1 tok ?_
 refine qA ?_
 exact AW.ret qV
end Go.Proofs.YtbhhphabggcacaaGreatDoor
