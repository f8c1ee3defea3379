import Derived.Test.YtbhhphabggcacaaGreatDoorM4
import Derived.Test.YtbhhphabggcacaaGreatDoorM3
import Derived.Test.YtbhhphabggcacaaGreatDoorM1
import Derived.Lib.ValidU
import Derived.Lib.LaidU8T
import Derived.Shelf.LaysC
import Derived.Shelf.Strconv.AtoiAll
import Derived.Test.YtbhhphabggcacaaGreatDoorProg
import Derived.Lib.MapLaws
import Derived.Lib.ValidLaws
import Derived.Lib.Bytealg
import Derived.Laws.RangeString
import Derived.Lib.RuneCount
import Derived.Lib.Repeat
import Derived.Shelf.Unicode.DecodeAny
import Derived.Shelf.Strings.Repeat
import Derived.Shelf.Strings.Builder1
import Derived.Shelf.Strings.OnBuilder
import Derived.Shelf.Small.Strs
import Derived.Lib.Join
import Derived.Lib.ItoaLen
import Derived.Shelf.LaysM
import Derived.Shelf.Strconv.Itoa3
import Derived.Lib.AppendIntMem
import Derived.Lib.LaidU8
import Derived.LaidLaws
namespace Go.Proofs.YtbhhphabggcacaaGreatDoor
open Sy Go
set_option maxRecDepth 100000
set_option linter.unusedSimpArgs false
set_option linter.unusedVariables false
structure Dc where
 neg:Bool
 digits:List UInt8
 scale:Int
 deriving DecidableEq
@[simp] def Dc.enc (d:Dc):PD := .agg [.bool d.neg,.str d.digits,.int .i64 d.scale]
inductive Val where
 | mk (kind mask:Int) (num:Dc) (text:List UInt8) (keys:List (List UInt8)) (kids:List Val) (code:Int)
def Val.kind:Val→Int
 | .mk k _ _ _ _ _ _=>k
def Val.mask:Val→Int
 | .mk _ m _ _ _ _ _=>m
def Val.num:Val→Dc
 | .mk _ _ n _ _ _ _=>n
def Val.text:Val→List UInt8
 | .mk _ _ _ t _ _ _=>t
def Val.keys:Val→List (List UInt8)
 | .mk _ _ _ _ ks _ _=>ks
def Val.kids:Val→List Val
 | .mk _ _ _ _ _ vs _=>vs
def Val.code:Val→Int
 | .mk _ _ _ _ _ _ c=>c
@[simp] theorem Val.kind_mk (k m:Int) (n:Dc) (t:List UInt8) (ks:List (List UInt8)) (vs:List Val) (c:Int):(Val.mk k m n t ks vs c).kind=k:=rfl
@[simp] theorem Val.mask_mk (k m:Int) (n:Dc) (t:List UInt8) (ks:List (List UInt8)) (vs:List Val) (c:Int):(Val.mk k m n t ks vs c).mask=m:=rfl
@[simp] theorem Val.num_mk (k m:Int) (n:Dc) (t:List UInt8) (ks:List (List UInt8)) (vs:List Val) (c:Int):(Val.mk k m n t ks vs c).num=n:=rfl
@[simp] theorem Val.text_mk (k m:Int) (n:Dc) (t:List UInt8) (ks:List (List UInt8)) (vs:List Val) (c:Int):(Val.mk k m n t ks vs c).text=t:=rfl
@[simp] theorem Val.keys_mk (k m:Int) (n:Dc) (t:List UInt8) (ks:List (List UInt8)) (vs:List Val) (c:Int):(Val.mk k m n t ks vs c).keys=ks:=rfl
@[simp] theorem Val.kids_mk (k m:Int) (n:Dc) (t:List UInt8) (ks:List (List UInt8)) (vs:List Val) (c:Int):(Val.mk k m n t ks vs c).kids=vs:=rfl
@[simp] theorem Val.code_mk (k m:Int) (n:Dc) (t:List UInt8) (ks:List (List UInt8)) (vs:List Val) (c:Int):(Val.mk k m n t ks vs c).code=c:=rfl
mutual
def Val.enc:Val→PD
 | .mk k m n t ks vs c => .agg [.int .i64 k,.int .u64 m,.bool n.neg,.str n.digits,.int .i64 n.scale,.str t,.sl 1 (ks.map PD.str),.sl 9 (Val.encL vs),.int .i64 c]
def Val.encL:List Val→List PD
 | []=>[]
 | v::vs=>Val.enc v::Val.encL vs
end
mutual
def Val.sz:Val→Nat
 | .mk _ _ _ _ _ vs _=>1+Val.szL vs
def Val.szL:List Val→Nat
 | []=>0
 | v::vs=>Val.sz v+Val.szL vs
end
theorem Val.ext {a b:Val} (h1:a.kind=b.kind) (h2:a.mask=b.mask) (h3:a.num=b.num) (h4:a.text=b.text) (h5:a.keys=b.keys) (h6:a.kids=b.kids) (h7:a.code=b.code):a=b:=by
 cases a; cases b; simp_all [Val.kind,Val.mask,Val.num,Val.text,Val.keys,Val.kids,Val.code]
theorem Dc.ext' {a b:Dc} (h1:a.neg=b.neg) (h2:a.digits=b.digits) (h3:a.scale=b.scale):a=b:=by cases a; cases b; simp_all
namespace Sy
variable {P:Program} {G:qM}
theorem AFn.of_calls {f : FuncId} {args : List PD} {r : PD} (hc : xM P f) (h : ∀ (M : qS) (w : World) (vs : Array Value), GOK G M w → (∀ b o v, M b o = some v → w.cell? ⟨b, o, none⟩ = some v) → vs.size = args.length →
  (∀ (i:Nat) u d,vs[i]?=some u→args[i]?=some d→Rd M u d)→Calls P f vs w fun e w'=>∃ v,e = .returned v∧Rd M v r∧RowKit.Below w.heap.size w w'):AFn P G f args r:=by
 refine ⟨hc,fun M w vs hg hmem hsz hrd=>(h M w vs hg hmem hsz hrd).mono ?_⟩
 rintro e w' ⟨v,rfl,hv,hb⟩
 refine ⟨v,M,rfl,hv,fun b o u hu => ?_,fun _ _ _ h=>h,fun _ _ _=>rfl,hb⟩
 have h1:=hmem b o u hu
 exact (World.cell?_of_block (w:=w) (hb.block b (xF h1))).trans h1
theorem kN {f : FuncId} {fn : Func} {c : Code} (hf : P.funcs[f]? = some fn) (hn : (fn.name == "runtime.NumGoroutine") = false) (hb : fn.body = some c) : xM P f := ⟨fn, c, hf, hn, hb⟩
theorem qQL {M:qS} {vs:Array Value} {s:List UInt8} (hsz:vs.size=1) (h:∀ (i:Nat) u d,vs[i]?=some u→[PD.str s][i]?=some d→Rd M u d):∃ b:ByteArray,vs = #[.string b]∧b.data.toList=s∧b.size≤maxLen:=by
 obtain ⟨l⟩:=vs
 match l,hsz with
 | [u],_ =>
  have:=h 0 u (.str s) rfl rfl
  cases this with
  | @str b _ hs hm=>exact ⟨b,rfl,hs,by rw [yK hs]; exact hm⟩
def qDN:List PD:=(List.range 256).map fun c => .int .u8 (Lib.firstT c)
def qOW:List PD:=(List.range 32).map fun i => .int .u8 (if i % 2=0 then Lib.accLo (i / 2) else Lib.accHi (i / 2))
def qNF (g3 g4:Nat) (G:qM):Prop:=G g3=some qDN∧G g4=some qOW
theorem qVU {g3 g4:Nat} {M:qS} {w:World} (hG:qNF g3 g4 G) (hg:GOK G M w) (hmem:∀ b o v,M b o=some v→w.cell? ⟨b,o,none⟩=some v):Lib.Utf8Tabs g3 g4 w:=by
 have key:∀ (g:Nat) (cs:List PD) (j:Nat) (n:Int),G g=some cs→cs[j]?=some (.int .u8 n)→w.cell? ⟨g,j,none⟩=some (.int .u8 n):=by
  intro g cs j n h1 h2
  obtain ⟨h3,h4⟩:=hg.1 g cs h1
  obtain ⟨u,hu,_⟩:=h3 j _ h2
  have:=h4 j _ u h2 hu
  cases this
  exact hmem _ _ _ hu
 refine ⟨fun c hc=>key _ _ _ _ hG.1 (by simp [qDN,hc]),fun i hi=>⟨key _ _ _ _ hG.2 ?_,key _ _ _ _ hG.2 ?_⟩⟩
 ·simp [qOW,show 2 * i<32 by omega]
 simp only [qOW,List.getElem?_map,List.getElem?_range (show 2 * i+1<32 by omega),Option.map_some]
 rw [if_neg (by omega),show (2 * i+1) / 2=i by omega]
def u8G (g3 g4:Nat):qM:=fun g=>if g=g3 then some qDN else if g=g4 then some qOW else none
theorem qVV {g3 g4:Nat} (h:g4≠g3):qNF g3 g4 (u8G g3 g4):=⟨by simp [u8G],by simp [u8G,h]⟩
theorem qYE {g3 g4:Nat} {W:World} (h:Lib.Utf8Tabs g3 g4 W) (hne:g4≠g3):GOK (u8G g3 g4) (kE W) W:=by
 have one : ∀ (g j : Nat) (cs : List PD), (∀ (j : Nat) d, cs[j]? = some d → ∃ n : Int, d = .int .u8 n ∧ 0 ≤ n ∧ n ≤ 255 ∧ W.cell? ⟨g, j, none⟩ = some (.int .u8 n)) →
   (∀ (j:Nat) d,cs[j]?=some d→∃ u,kE W g j=some u∧u.oneCell'=true)∧(∀ (j:Nat) d u,cs[j]?=some d→kE W g j=some u→Rd (kE W) u d):=by
  intro g _ cs hc
  refine ⟨fun j d hd => ?_,fun j d u hd hu => ?_⟩
  ·obtain ⟨n,rfl,_,_,h⟩:=hc j d hd; exact ⟨_,h,rfl⟩
  obtain ⟨n,rfl,h0,h1,h⟩:=hc j d hd
  have:some u=some (Value.int .u8 n):=hu.symm.trans h
  cases this
  exact .int (by rw [yH]; exact h0) (by rw [yA]; exact h1)
 have hft:∀ c,(0:Int)≤Lib.firstT c∧(Lib.firstT c:Int)≤255:=fun c=>by
  rcases Lib.firstT_cases c with h | h | h | h | h | h | h | h | h <;> rw [h] <;> omega
 have hno:GX (u8G g3 g4) W:=fun g cs hg ht=>by
  simp only [u8G] at hg
  split at hg
  ·cases hg; exact absurd ht (by rw [show qQC qDN=false from rfl]; simp)
  split at hg
  ·cases hg; exact absurd ht (by rw [show qQC qOW=false from rfl]; simp)
  cases hg
 refine ⟨?_,hno⟩
 intro g cs hg
 simp only [u8G] at hg
 split at hg
 ·rename_i e
  subst e
  cases hg
  refine one g 0 _ fun j d hd => ?_
  have hj:j<256:=by have:=(List.getElem?_eq_some_iff.1 hd).1; simpa [qDN] using this
  simp [qDN,hj] at hd
  exact ⟨_,hd.symm,(hft j).1,(hft j).2,h.1 j hj⟩
 split at hg
 ·rename_i _ e
  subst e
  cases hg
  refine one g 0 _ fun j d hd => ?_
  have hj:j<32:=by have:=(List.getElem?_eq_some_iff.1 hd).1; simpa [qOW] using this
  simp only [qOW,List.getElem?_map,List.getElem?_range hj,Option.map_some,Option.some.injEq] at hd
  have hb:=h.2 (j / 2) (by omega)
  have hacc:∀ i,i<16→(0:Int)≤Lib.accLo i∧(Lib.accLo i:Int)≤255∧(0:Int)≤Lib.accHi i∧(Lib.accHi i:Int)≤255:=by decide
  have hac:=hacc (j / 2) (by omega)
  by_cases h2:j % 2=0
  ·rw [if_pos h2] at hd
   exact ⟨_,hd.symm,hac.1,hac.2.1,by have:=hb.1; rwa [show 2 * (j / 2)=j by omega] at this⟩
  rw [if_neg h2] at hd
  exact ⟨_,hd.symm,hac.2.2.1,hac.2.2.2,by have:=hb.2; rwa [show 2 * (j / 2)+1=j by omega] at this⟩
 cases hg
end Sy
variable {G:qM}
abbrev U8 (G:qM):Prop:=qNF 1 2 G
end Go.Proofs.YtbhhphabggcacaaGreatDoor
namespace Go.Proofs
open Go.Shelf
def Tryz.laysC172_ren:Go.Shelf.Ren:=⟨fun | 172=>97 | 244=>125 | 245=>126 | 247=>141 | 279=>142 | 280=>143 | 281=>144 | 282=>145 | 287=>151 | 316=>152 | 171=>29 | 205=>153 | 321=>155 | 322=>156 | 243=>55 | 246=>81 | 283=>104 | 284=>105 | 285=>106 | 286=>107 | 129=>131 | 317=>130 | 318=>132 | 319=>133 | 320=>134 | 337=>147 | 338=>148 | n=>n,fun | 9=>9 | 3=>3 | 75=>88 | 76=>89 | 4=>4 | 5=>5 | 167=>157 | 37=>83 | 0=>0 | 85=>158 | 2=>2 | 168=>160 | 53=>136 | 175=>166 | 46=>94 | 210=>169 | 127=>117 | 145=>177 | 143=>175 | 21=>21 | 171=>135 | 173=>139 | 212=>153 | 51=>133 | 20=>20 | 213=>154 | 232=>172 | 233=>173 | 80=>91 | n=>n,fun | 15=>4 | 16=>5 | 17=>3 | 18=>6 | 19=>7 | n=>n⟩
theorem Tryz.laysC172:Go.Proofs.LaysC.n172 Tryz.prog Tryz.laysC172_ren:={
 mixed:=by kernel_rfl
 f129:=Tryz.func131.trans (congrArg some (by kernel_rfl))
 f171:=Tryz.func29.trans (congrArg some (by kernel_rfl))
 f172:=Tryz.func97.trans (congrArg some (by kernel_rfl))
 f205:=Tryz.func153.trans (congrArg some (by kernel_rfl))
 f243:=Tryz.func55.trans (congrArg some (by kernel_rfl))
 f244:=Tryz.func125.trans (congrArg some (by kernel_rfl))
 f245:=Tryz.func126.trans (congrArg some (by kernel_rfl))
 f246:=Tryz.func81.trans (congrArg some (by kernel_rfl))
 f247:=Tryz.func141.trans (congrArg some (by kernel_rfl))
 f279:=Tryz.func142.trans (congrArg some (by kernel_rfl))
 f280:=Tryz.func143.trans (congrArg some (by kernel_rfl))
 f281:=Tryz.func144.trans (congrArg some (by kernel_rfl))
 f282:=Tryz.func145.trans (congrArg some (by kernel_rfl))
 f283:=Tryz.func104.trans (congrArg some (by kernel_rfl))
 f284:=Tryz.func105.trans (congrArg some (by kernel_rfl))
 f285:=Tryz.func106.trans (congrArg some (by kernel_rfl))
 f286:=Tryz.func107.trans (congrArg some (by kernel_rfl))
 f287:=Tryz.func151.trans (congrArg some (by kernel_rfl))
 f316:=Tryz.func152.trans (congrArg some (by kernel_rfl))
 f317:=Tryz.func130.trans (congrArg some (by kernel_rfl))
 f318:=Tryz.func132.trans (congrArg some (by kernel_rfl))
 f319:=Tryz.func133.trans (congrArg some (by kernel_rfl))
 f320:=Tryz.func134.trans (congrArg some (by kernel_rfl))
 f321:=Tryz.func155.trans (congrArg some (by kernel_rfl))
 f322:=Tryz.func156.trans (congrArg some (by kernel_rfl))
 f337:=Tryz.func147.trans (congrArg some (by kernel_rfl))
 f338:=Tryz.func148.trans (congrArg some (by kernel_rfl))
 t0:=Tryz.underlying0
 a0:=Tryz.isAgg0
 z0:=Tryz.sizeOf0
 v0:=Tryz.zeroValue0
 t2:=Tryz.underlying2
 a2:=Tryz.isAgg2
 z2:=Tryz.sizeOf2
 v2:=Tryz.zeroValue2
 t3:=Tryz.underlying3
 a3:=Tryz.isAgg3
 z3:=Tryz.sizeOf3
 v3:=Tryz.zeroValue3
 t4:=Tryz.underlying4
 a4:=Tryz.isAgg4
 z4:=Tryz.sizeOf4
 v4:=Tryz.zeroValue4
 t5:=Tryz.underlying5
 a5:=Tryz.isAgg5
 z5:=Tryz.sizeOf5
 v5:=Tryz.zeroValue5
 t9:=Tryz.underlying9
 a9:=Tryz.isAgg9
 z9:=Tryz.sizeOf9
 v9:=Tryz.zeroValue9
 t20:=Tryz.underlying20
 a20:=Tryz.isAgg20
 z20:=Tryz.sizeOf20
 v20:=Tryz.zeroValue20
 t21:=Tryz.underlying21
 a21:=Tryz.isAgg21
 z21:=Tryz.sizeOf21
 v21:=Tryz.zeroValue21
 t37:=Tryz.underlying83
 a37:=Tryz.isAgg83
 z37:=Tryz.sizeOf83
 v37:=Tryz.zeroValue83
 t46:=Tryz.underlying94
 a46:=Tryz.isAgg94
 z46:=Tryz.sizeOf94
 v46:=Tryz.zeroValue94
 t51:=Tryz.underlying133
 a51:=Tryz.isAgg133
 z51:=Tryz.sizeOf133
 v51:=Tryz.zeroValue133
 t53:=Tryz.underlying136
 a53:=Tryz.isAgg136
 z53:=Tryz.sizeOf136
 v53:=Tryz.zeroValue136
 t75:=Tryz.underlying88
 a75:=Tryz.isAgg88
 z75:=Tryz.sizeOf88
 v75:=Tryz.zeroValue88
 t76:=Tryz.underlying89
 a76:=Tryz.isAgg89
 z76:=Tryz.sizeOf89
 v76:=Tryz.zeroValue89
 t85:=Tryz.underlying158
 a85:=Tryz.isAgg158
 z85:=Tryz.sizeOf158
 v85:=Tryz.zeroValue158
 t127:=Tryz.underlying117
 a127:=Tryz.isAgg117
 z127:=Tryz.sizeOf117
 v127:=Tryz.zeroValue117
 t143:=Tryz.underlying175
 a143:=Tryz.isAgg175
 z143:=Tryz.sizeOf175
 v143:=Tryz.zeroValue175
 t145:=Tryz.underlying177
 a145:=Tryz.isAgg177
 z145:=Tryz.sizeOf177
 v145:=Tryz.zeroValue177
 t167:=Tryz.underlying157
 a167:=Tryz.isAgg157
 z167:=Tryz.sizeOf157
 v167:=Tryz.zeroValue157
 t168:=Tryz.underlying160
 a168:=Tryz.isAgg160
 z168:=Tryz.sizeOf160
 v168:=Tryz.zeroValue160
 t171:=Tryz.underlying135
 a171:=Tryz.isAgg135
 z171:=Tryz.sizeOf135
 v171:=Tryz.zeroValue135
 t173:=Tryz.underlying139
 a173:=Tryz.isAgg139
 z173:=Tryz.sizeOf139
 v173:=Tryz.zeroValue139
 t175:=Tryz.underlying166
 a175:=Tryz.isAgg166
 z175:=Tryz.sizeOf166
 v175:=Tryz.zeroValue166
 t210:=Tryz.underlying169
 a210:=Tryz.isAgg169
 z210:=Tryz.sizeOf169
 v210:=Tryz.zeroValue169
 t212:=Tryz.underlying153
 a212:=Tryz.isAgg153
 z212:=Tryz.sizeOf153
 v212:=Tryz.zeroValue153
 t213:=Tryz.underlying154
 a213:=Tryz.isAgg154
 z213:=Tryz.sizeOf154
 t232:=Tryz.underlying172
 a232:=Tryz.isAgg172
 z232:=Tryz.sizeOf172
 v232:=Tryz.zeroValue172
 t233:=Tryz.underlying173
 a233:=Tryz.isAgg173
 z233:=Tryz.sizeOf173
 v233:=Tryz.zeroValue173
 g15:=by kernel_rfl
 g16:=by kernel_rfl
 g17:=by kernel_rfl
 g18:=by kernel_rfl
 g19:=by kernel_rfl
 t80:=Tryz.underlying91
 a80:=Tryz.isAgg91
 z80:=Tryz.sizeOf91
 v80:=Tryz.zeroValue91
 i0:=by kernel_rfl
 i2:=by kernel_rfl
 i3:=by kernel_rfl
 i4:=by kernel_rfl
 i5:=by kernel_rfl
 i9:=by kernel_rfl
 i20:=by kernel_rfl
 i21:=by kernel_rfl
 i37:=by kernel_rfl
 i46:=by kernel_rfl
 i51:=by kernel_rfl
 i53:=by kernel_rfl
 i75:=by kernel_rfl
 i76:=by kernel_rfl
 i80:=by kernel_rfl
 i85:=by kernel_rfl
 i127:=by kernel_rfl
 i143:=by kernel_rfl
 i145:=by kernel_rfl
 i167:=by kernel_rfl
 i168:=by kernel_rfl
 i171:=by kernel_rfl
 i173:=by kernel_rfl
 i175:=by kernel_rfl
 i210:=by kernel_rfl
 i212:=by kernel_rfl
 i232:=by kernel_rfl
 i233:=by kernel_rfl
 m15:=by kernel_rfl
 m16:=by kernel_rfl
 m17:=by kernel_rfl
 m18:=by kernel_rfl
 m19:=by kernel_rfl
 c0:=by kernel_rfl
 c2:=by kernel_rfl
 c3:=by kernel_rfl
 c4:=by kernel_rfl
 c5:=by kernel_rfl
 c9:=by kernel_rfl
 c20:=by kernel_rfl
 c21:=by kernel_rfl
 c37:=by kernel_rfl
 c46:=by kernel_rfl
 c51:=by kernel_rfl
 c53:=by kernel_rfl
 c75:=by kernel_rfl
 c76:=by kernel_rfl
 c80:=by kernel_rfl
 c85:=by kernel_rfl
 c127:=by kernel_rfl
 c143:=by kernel_rfl
 c145:=by kernel_rfl
 c167:=by kernel_rfl
 c168:=by kernel_rfl
 c171:=by kernel_rfl
 c173:=by kernel_rfl
 c175:=by kernel_rfl
 c210:=by kernel_rfl
 c212:=by kernel_rfl
 c213:=by kernel_rfl
 c232:=by kernel_rfl
 c233:=by kernel_rfl }
end Go.Proofs
namespace Go.Proofs.YtbhhphabggcacaaGreatDoor
open Sy Go
set_option linter.unusedVariables false
variable {G:qM}
def qPB (g1 g2:Nat) (G:qM):Prop:=G g1=some [.err]∧G g2=some [.err]
abbrev PE (G:qM):Prop:=qPB 4 5 G
def kW (s:List UInt8):Int × PD:=match Lib.atoiAll s with
 | .ok v=>(v,.noerr)
 | .range=>(Lib.atoiSat s,.err)
 | _=>(0,.err)
theorem qMS {g:Nat} {M:qS} {w:World} (hG:G g=some [.err]) (hg:GOK G M w) (hmem:∀ b o v,M b o=some v→w.cell? ⟨b,o,none⟩=some v):∃ t p,w.cell? ⟨g,0,none⟩=some (.iface t p):=by
 obtain ⟨h1,h2⟩:=hg.1 g _ hG
 obtain ⟨u,hu,_⟩:=h1 0 .err rfl
 have:=h2 0 .err u rfl hu
 cases this
 exact ⟨_,_,hmem _ _ _ hu⟩
theorem qXU (hE:PE G) (s:List UInt8) (hs:s.length≤281474976710656):AFn Tryz.prog G 97 [.str s] (.tup [.int .i64 (kW s).1,(kW s).2]):=by
 refine AFn.of_calls (kN Tryz.func97 (by kernel_rfl) rfl) fun M w vs hg hmem hsz hrd => ?_
 obtain ⟨b,rfl,hb,hm⟩:=qQL hsz hrd
 have hbs:b.size=s.length:=yK hb
 obtain ⟨t1,p1,hc1⟩:=qMS hE.1 hg hmem
 obtain ⟨t2,p2,hc2⟩:=qMS hE.2 hg hmem
 have two:∀ (u:Value) (v:Int) (d:PD),Rd M (.int .i64 v) (.int .i64 v)→Rd M u d→Rd M (.tuple #[.int .i64 v,u]) (.tup [.int .i64 v,d]):=by
  intro u v d h1 h2
  refine .tup rfl fun i x y hx hy => ?_
  match i with
  | 0=>simp at hx hy; subst hx; subst hy; exact h1
  | 1=>simp at hx hy; subst hx; subst hy; exact h2
  | i+2=>simp at hx
 have hsat:=Lib.atoiSat_bounds s
 rcases h:Lib.atoiAll s with v | _ | _
 ·have hv:=Lib.atoiAll_bounds h
  have ht:kW s=(v,.noerr):=by unfold kW; rw [h]
  rw [ht]
  refine (Any.strconv_Atoi_ok Tryz.laysC172 b (by omega) v (by rw [hb]; exact h) w).mono ?_
  rintro e w' ⟨rfl,hW⟩
  refine ⟨_,rfl,two _ _ _ (Rd.intOf (by simp only [wW]; omega) (by simp only [wX]; omega)) .noerr, ?_⟩
  rcases hW with rfl | ⟨t,rfl⟩
  ·exact RowKit.Below.refl _ _
  exact Lib.bytesWorld_below _ _ _
 ·have ht:kW s=(0,.err):=by unfold kW; rw [h]
  rw [ht]
  refine (Any.strconv_Atoi_syntax Tryz.laysC172 b (by omega) (by rw [hb]; exact h) _ w hc1 (.inr ⟨_,_,rfl⟩)).mono ?_
  rintro e w' ⟨N,rfl,_,_,hB⟩
  exact ⟨_,rfl,two _ _ _ (Rd.intOf (by simp [wW]) (by simp [wX])) .err,hB⟩
 have ht:kW s=(Lib.atoiSat s,.err):=by unfold kW; rw [h]
 rw [ht]
 refine (Any.strconv_Atoi_range Tryz.laysC172 b (by omega) (by rw [hb]; exact h) _ w hc2 (.inr ⟨_,_,rfl⟩)).mono ?_
 rintro e w' ⟨N,rfl,_,_,hB⟩
 rw [hb]
 exact ⟨_,rfl,two _ _ _ (Rd.intOf (by simp only [wW]; omega) (by simp only [wX]; omega)) .err,hB⟩
set_option maxRecDepth 100000
set_option linter.unusedSimpArgs false
structure Tok where
 kind:Int
 pos:Int
 text:List UInt8
 num:Dc
 deriving DecidableEq
@[simp] def Tok.pds (t:Tok):List PD:=[.int .i64 t.kind,.int .i64 t.pos,.str t.text,.bool t.num.neg,.str t.num.digits,.int .i64 t.num.scale]
@[simp] def Tok.enc (t:Tok):PD := .agg t.pds
@[simp] def Tok.cells (t:Tok):List V:=t.pds.map .p
def qBM:Tok:=⟨0,0,[],⟨false,[],0⟩⟩
structure Nd where
 op:Int
 n:Int
 text:List UInt8
 num:Dc
 keys:List (List UInt8)
 kids:List Int
 deriving DecidableEq
@[simp] def Nd.pds (x:Nd):List PD:=[.int .i64 x.op,.int .i64 x.n,.str x.text,.bool x.num.neg,.str x.num.digits,.int .i64 x.num.scale,.sl 1 (x.keys.map PD.str),.sl 1 (x.kids.map (PD.int .i64))]
@[simp] def Nd.enc (x:Nd):PD := .agg x.pds
@[simp] def Nd.cells (x:Nd):List V:=x.pds.map .p
structure PS where
 left:List Tok
 nodes:List Nd
 deep:Int
 bad:Bool
def kD (s:PS):Tok:=if s.bad=true then qBM else s.left.headD qBM
def qZ (f:Tok→Bool) (s:PS):(Tok × Bool) × PS :=
 if (kD s).kind=0∨f (kD s)=false then ((qBM,false),s) else ((kD s,true),{ s with left:=s.left.drop 1 })
def qU (ok:Bool) (s:PS):PS:={ s with bad:=s.bad || !ok }
def qAC (k:Int) (l:List (List UInt8)) (t:Tok):Bool:=decide (t.kind=k) && decide (t.text∈l)
def qW (k:Int) (l:List (List UInt8)) (s:PS):(List UInt8 × Bool) × PS :=
 (((qZ (qAC k l) s).1.1.text,(qZ (qAC k l) s).1.2),(qZ (qAC k l) s).2)
def zB (k:Int) (w:List UInt8) (s:PS):PS:=qU (qW k [w] s).1.2 (qW k [w] s).2
def zR (ks:List Int) (s:PS):Tok × PS :=
 ((qZ (fun t=>decide (t.kind∈ks)) s).1.1,qU (qZ (fun t=>decide (t.kind∈ks)) s).1.2 (qZ (fun t=>decide (t.kind∈ks)) s).2)
def okD (d:Dc):Bool:=(match Lib.atoiAll d.digits with | .ok _=>true | _=>false) && decide (d.scale=0) && decide (d.digits.length≤3)
def kP (s:PS):Int × PS:=((kW (zR [4] s).1.num.digits).1,qU (okD (zR [4] s).1.num) (zR [4] s).2)
def wC (x:Nd) (s:PS):Int × PS:=((s.nodes.length:Nat),{ s with nodes:=s.nodes++[x] })
def opP (op:Int) (text:List UInt8) (kids:List Int) (s:PS):Int × PS:=wC ⟨op,0,text,⟨false,[],0⟩,[],kids⟩ s
def jF:List (List UInt8):=[[108,101,110,103,116,104],[107,101,121,115],[110,111,116],[116,121,112,101],[115,111,114,116],[117,110,105,113,117,101],[114,101,118,101,114,115,101],[97,100,100],[109,105,110],[109,97,120],[102,108,111,111,114],[99,101,105,108],[114,111,117,110,100],[116,111,106,115,111,110],[116,111,115,116,114,105,110,103],[116,111,110,117,109,98,101,114],[97,110,121],[97,108,108],[101,110,116,114,105,101,115]]
def xN:List (List UInt8):=[[104,97,115],[116,101,115,116],[115,116,97,114,116,115],[101,110,100,115],[106,111,105,110],[115,112,108,105,116]]
def uA (w:List UInt8):Int:=if w∈jF then 1 else if w∈xN then 2 else 0
def qAM (w:List UInt8) (s:PS):Int × PS :=
 if uA w=0 then wC ⟨18,0,w,⟨false,[],0⟩,[],[]⟩ (qU false s)
 else if uA w=2 then
  wC ⟨18,0,w,⟨false,[],0⟩,[(zR [5] (zB 6 [40] s)).1.text],[]⟩ (zB 6 [41] (zR [5] (zB 6 [40] s)).2)
 else wC ⟨18,0,w,⟨false,[],0⟩,[],[]⟩ s
def kK (i:Nat):Int:=if i=0 then 8 else 11
def lvK (i:Nat):Int:=if i=1∨i=2 then 1 else 6
def wD (i:Nat):List (List UInt8):=match i with
 | 0=>[[44]]
 | 1=>[[111,114]]
 | 2=>[[97,110,100]]
 | 3=>[[61,61],[33,61],[60],[60,61],[62],[62,61]]
 | 4=>[[43],[45]]
 | _=>[[42],[47],[37]]
def xY (i:Nat):Bool:=decide (i=3)
def upP (by_:Int) (s:PS):PS:=qU (decide (s.deep+by_≤60)) { s with deep:=s.deep+by_ }
def xJ (by_:Int) (s:PS):PS:={ s with deep:=s.deep-by_ }
mutual
def yG:Nat→PS→Int × PS
 | 0,s=>(0,qU false s)
 | n+1,s =>
  let a:=zP n 0 s
  let r:=qW 6 [[124]] a.2
  if r.1.2=true then
   let b:=yG n r.2
   opP 7 [] [a.1,b.1] b.2
  else
   let q:=qW 1 [[97,115]] r.2
   if q.1.2=true then
    let x:=zR [2] q.2
    let b:=zF n 0 (zB 6 [124] x.2)
    opP 16 x.1.text [a.1,b.1] b.2
   else (a.1,q.2)
def zF:Nat→Int→PS→Int × PS
 | 0,_,s=>(0,qU false s)
 | n+1,by_,s =>
  if (upP by_ s).bad=true then (0,upP by_ s) else
   let a:=yG n (upP by_ s)
   (a.1,xJ by_ a.2)
def zI:Nat→List UInt8→PS→Int × PS
 | 0,_,s=>(0,qU false s)
 | n+1,w,s =>
  let a:=zF n 1 s
  (a.1,zB 6 w a.2)
def zE:Nat→PS→Int × PS
 | 0,s=>(0,qU false s)
 | n+1,s=>zI n [41] (zB 6 [40] s)
def zP:Nat→Nat→PS→Int × PS
 | 0,_,s=>(0,qU false s)
 | n+1,i,s =>
  if i=6 then yS n s else
   let a:=zP n (i+1) s
   kV n i a.1 a.2
def kV:Nat→Nat→Int→PS→Int × PS
 | 0,_,a,s=>(a,qU false s)
 | n+1,i,a,s =>
  if s.bad=true then (a,s) else
   let r:=qW (lvK i) (wD i) s
   if r.1.2=false then (a,r.2) else
    let b:=zP n (i+1) r.2
    let c:=opP (kK i) (if kK i=8 then [] else r.1.1) [a,b.1] b.2
    if xY i=true then c else kV n i c.1 c.2
def yS:Nat→PS→Int × PS
 | 0,s=>(0,qU false s)
 | n+1,s =>
  let a:=jB n s
  yU n a.1 a.2
def yU:Nat→Int→PS→Int × PS
 | 0,a,s=>(a,qU false s)
 | n+1,a,s =>
  if s.bad=true then (a,s) else
   let r:=qZ (fun t=>decide (t.kind=3)) s
   if r.1.2=true then
    let c:=opP 4 r.1.1.text [a] r.2
    yU n c.1 c.2
   else
    let r:=qW 6 [[91]] r.2
    if r.1.2=false then (a,r.2) else
     let q:=qW 6 [[93]] r.2
     if q.1.2=true then
      let c:=opP 6 [] [a] q.2
      yU n c.1 c.2
     else
      let m:=qW 6 [[45]] q.2
      let w:=kP m.2
      let c:=wC ⟨5,(if m.1.2=true then-w.1 else w.1),[],⟨false,[],0⟩,[],[a]⟩ (zB 6 [93] w.2)
      yU n c.1 c.2
def jB:Nat→PS→Int × PS
 | 0,s=>(0,qU false s)
 | n+1,s =>
  let r:=qZ (fun _=>true) s
  let s1:=qU r.1.2 r.2
  if r.1.1.kind=1 then yW n r.1.1.text s1
  else if r.1.1.kind=2 then opP 3 r.1.1.text [] s1
  else if r.1.1.kind=3 then
   let d:=opP 1 [] [] s1
   opP 4 r.1.1.text [d.1] d.2
  else if r.1.1.kind=4 then wC ⟨2,4,[],r.1.1.num,[],[]⟩ s1
  else if r.1.1.kind=5 then wC ⟨2,5,r.1.1.text,⟨false,[],0⟩,[],[]⟩ s1
  else wI n r.1.1.text s1
def yW:Nat→List UInt8→PS→Int × PS
 | 0,_,s=>(0,qU false s)
 | n+1,w,s =>
  if w=[110,117,108,108] then wC ⟨2,1,[],⟨false,[],0⟩,[],[]⟩ s
  else if w=[116,114,117,101] then wC ⟨2,3,[],⟨false,[],0⟩,[],[]⟩ s
  else if w=[102,97,108,115,101] then wC ⟨2,2,[],⟨false,[],0⟩,[],[]⟩ s
  else if w=[101,109,112,116,121] then opP 19 [] [] s
  else if w=[105,102] then wS n s
  else if w=[116,114,121] then
   let k:=yS n s
   opP 13 [] [k.1] k.2
  else if w=[115,101,97,108] then
   let k:=zE n s
   opP 14 [] [k.1] k.2
  else if w=[101,114,114,111,114] then
   let k:=zE n s
   opP 20 [] [k.1] k.2
  else if w=[114,101,100,117,99,101] then wP n s
  else if w=[108,105,109,105,116] then yX n s
  else if w=[102,105,114,115,116] then
   let k:=zE n s
   wC ⟨17,1,[],⟨false,[],0⟩,[],[k.1]⟩ k.2
  else if w=[109,97,112] then jR n s
  else if w=[115,101,108,101,99,116] then wB n s
  else qAM w s
def wS:Nat→PS→Int × PS
 | 0,s=>(0,qU false s)
 | n+1,s =>
  let a:=zF n 0 { s with deep:=s.deep+1 }
  let b:=zF n 0 (zB 1 [116,104,101,110] a.2)
  let c:=zF n 0 (zB 1 [101,108,115,101] b.2)
  opP 12 [] [a.1,b.1,c.1] (xJ 1 (zB 1 [101,110,100] c.2))
def wP:Nat→PS→Int × PS
 | 0,s=>(0,qU false s)
 | n+1,s =>
  let a:=yS n s
  let x:=zR [2] (zB 1 [97,115] a.2)
  let b:=zI n [59] (zB 6 [40] x.2)
  let c:=zI n [41] b.2
  opP 15 x.1.text [a.1,b.1,c.1] c.2
def yX:Nat→PS→Int × PS
 | 0,s=>(0,qU false s)
 | n+1,s =>
  let w:=kP (zB 6 [40] s)
  let k:=zI n [41] (zB 6 [59] w.2)
  wC ⟨17,w.1,[],⟨false,[],0⟩,[],[k.1]⟩ k.2
def jR:Nat→PS→Int × PS
 | 0,s=>(0,qU false s)
 | n+1,s =>
  let d:=opP 1 [] [] s
  let e:=opP 6 [] [d.1] d.2
  let k:=zE n e.2
  let x:=opP 7 [] [e.1,k.1] k.2
  opP 9 [] [x.1] x.2
def wB:Nat→PS→Int × PS
 | 0,s=>(0,qU false s)
 | n+1,s =>
  let k:=zE n s
  let d:=opP 1 [] [] k.2
  let e:=opP 19 [] [] d.2
  opP 12 [] [k.1,d.1,e.1] e.2
def wI:Nat→List UInt8→PS→Int × PS
 | 0,_,s=>(0,qU false s)
 | n+1,w,s =>
  if w=[46] then opP 1 [] [] s
  else if w=[45] then
   let t:=zR [4] s
   wC ⟨2,4,[],⟨decide (t.1.num.digits≠[48]),t.1.num.digits,t.1.num.scale⟩,[],[]⟩ t.2
  else if w=[40] then zI n [41] s
  else if w=[91] then
   let r:=qW 6 [[93]] s
   if r.1.2=true then opP 9 [] [] r.2 else
    let k:=zI n [93] r.2
    opP 9 [] [k.1] k.2
  else if w=[123] then wQ n s
  else (0,qU false s)
def wQ:Nat→PS→Int × PS
 | 0,s=>(0,qU false s)
 | n+1,s =>
  let r:=qW 6 [[125]] s
  if r.1.2=true then wC ⟨10,0,[],⟨false,[],0⟩,[],[]⟩ r.2 else
   let o:=yV n [] [] (upP 1 r.2)
   wC ⟨10,0,[],⟨false,[],0⟩,o.1.1,o.1.2⟩ (xJ 1 o.2)
def yV:Nat→List (List UInt8)→List Int→PS→(List (List UInt8) × List Int) × PS
 | 0,ks,vs,s=>((ks,vs),qU false s)
 | n+1,ks,vs,s =>
  if s.bad=true then ((ks,vs),s) else
   let t:=zR [1,5] s
   let s2:=qU (decide (t.1.text ∉ ks)) (zB 6 [58] t.2)
   if s2.bad=true then ((ks,vs),s2) else
    let k:=zP n 1 s2
    let r:=qW 6 [[125],[44]] k.2
    if r.1.1=[125] then ((ks++[t.1.text],vs++[k.1]),qU r.1.2 r.2)
    else yV n (ks++[t.1.text]) (vs++[k.1]) (qU r.1.2 r.2)
end
def qLE (l:List Tok):List Nd × Int :=
 let s:=(yG (20 * l.length+20) ⟨l,[],0,false⟩).2
 if s.bad=true∨s.left≠[] then ([],31) else if 400<s.nodes.length then ([],3) else (s.nodes,0)
set_option maxHeartbeats 1000000
structure Le (c d:Nat) (s s':PS):Prop where
 suf:s'.left <:+ s.left
 pre:s.nodes <+: s'.nodes
 d0:s.deep≤s'.deep
 d1:s'.deep+2 * s'.left.length≤s.deep+2 * s.left.length+c
 n0:s'.nodes.length+4 * s'.left.length≤s.nodes.length+4 * s.left.length+d
 b0:s.bad=true→s'.bad=true
theorem Le.len {c d:Nat} {s s':PS} (h:Le c d s s'):s'.left.length≤s.left.length:=h.suf.length_le
theorem Le.refl (s:PS):Le 0 0 s s:=⟨List.suffix_refl _,List.prefix_refl _,Int.le_refl _,by omega,by omega,id⟩
theorem Le.trans {c d c' d':Nat} {s t u:PS} (h:Le c d s t) (g:Le c' d' t u):Le (c+c') (d+d') s u :=
 ⟨g.suf.trans h.suf,h.pre.trans g.pre,Int.le_trans h.d0 g.d0,by have:=h.d1; have:=g.d1; omega,by have:=h.n0; have:=g.n0; omega,fun x=>g.b0 (h.b0 x)⟩
theorem Le.mono {c d c' d':Nat} {s t:PS} (h:Le c d s t) (hc:c≤c') (hd:d≤d'):Le c' d' s t :=
 ⟨h.suf,h.pre,h.d0,by have:=h.d1; omega,by have:=h.n0; omega,h.b0⟩
theorem Le.eat {c d c' d':Nat} {s t u:PS} (h:Le c d s t) (hl:t.left.length+1≤s.left.length) (hd:t.deep=s.deep) (hn:t.nodes=s.nodes) (g:Le c' d' t u) (hc:c'≤2) (hd':d'≤4):Le 0 0 s u :=
 ⟨g.suf.trans h.suf,h.pre.trans g.pre,by rw [← hd]; exact g.d0,by have:=g.d1; omega,by have:=g.n0; rw [hn] at this; omega,fun x=>g.b0 (h.b0 x)⟩
theorem jE {p:Prop} [Decidable p] {c d:Nat} {s:PS} {a b:Int × PS} (ha:Le c d s a.2) (hb:Le c d s b.2):Le c d s (if p then a else b).2:=by split <;> assumption
theorem wJ (ok:Bool) (s:PS):Le 0 0 s (qU ok s):=⟨List.suffix_refl _,List.prefix_refl _,Int.le_refl _,by simp [qU],by simp [qU],fun h=>by simp [qU,h]⟩
theorem qAU (f:Tok→Bool) (s:PS):Le 0 0 s (qZ f s).2:=by
 unfold qZ
 split
 ·exact Le.refl s
 exact ⟨List.drop_suffix _ _,List.prefix_refl _,Int.le_refl _,by simp <;> omega,by simp <;> omega,id⟩
theorem vT {f:Tok→Bool} {s:PS} (h:(qZ f s).1.2=true):(qZ f s).2.left.length+1=s.left.length∧(qZ f s).2.deep=s.deep∧(qZ f s).2.nodes=s.nodes∧s.bad=false∧(qZ f s).2.bad=false∧s.left=(qZ f s).1.1::(qZ f s).2.left∧f (qZ f s).1.1=true:=by
 unfold qZ at h ⊢
 split at h
 ·cases h
 rename_i c
 rw [if_neg c]
 simp only [not_or] at c
 obtain ⟨c1,c2⟩:=c
 unfold kD at c1 c2 ⊢
 cases hb:s.bad with
 | true=>rw [hb] at c1; exact absurd rfl c1
 | false =>
  rw [hb] at c1 c2
  cases hl:s.left with
  | nil=>rw [hl] at c1; exact absurd rfl c1
  | cons t l=>rw [hl] at c2; refine ⟨by simp,rfl,rfl,rfl,rfl,by simp,by simpa using c2⟩
theorem qJT {f:Tok→Bool} {s:PS} (h:(qZ f s).1.2=false):qZ f s=((qBM,false),s):=by
 unfold qZ at h ⊢
 split at h
 ·rename_i c; rw [if_pos c]
 cases h
theorem zM (k:Int) (l:List (List UInt8)) (s:PS):Le 0 0 s (qW k l s).2:=qAU _ _
theorem kQ {k:Int} {l:List (List UInt8)} {s:PS} (h:(qW k l s).1.2=true):(qW k l s).2.left.length+1=s.left.length∧(qW k l s).2.deep=s.deep∧(qW k l s).2.nodes=s.nodes∧s.bad=false∧(qW k l s).2.bad=false:=by
 have:=vT h; exact ⟨this.1,this.2.1,this.2.2.1,this.2.2.2.1,this.2.2.2.2.1⟩
theorem qV (k:Int) (w:List UInt8) (s:PS):Le 0 0 s (zB k w s):=(zM k [w] s).trans (wJ _ _)
theorem yQ (ks:List Int) (s:PS):Le 0 0 s (zR ks s).2:=(qAU _ s).trans (wJ _ _)
theorem vC (s:PS):Le 0 0 s (kP s).2:=(yQ [4] s).trans (wJ _ _)
theorem yL (x:Nd) (s:PS):Le 0 1 s (wC x s).2:=⟨List.suffix_refl _,List.prefix_append _ _,Int.le_refl _,by simp [wC],by simp [wC]; omega,id⟩
theorem zY (o:Int) (t:List UInt8) (l:List Int) (s:PS):Le 0 1 s (opP o t l s).2:=yL _ s
theorem qXF (w:List UInt8) (s:PS):Le 0 1 s (qAM w s).2:=by
 unfold qAM
 split
 ·exact (wJ _ _).trans (yL _ _)
 split
 ·exact (((qV _ _ _).trans (yQ _ _)).trans (qV _ _ _)).trans (yL _ _)
 exact yL _ _
theorem qZS (s:PS) {b:Int} (h:0≤b) {c:Nat} (hc:b≤c):Le c 0 s (upP b s):=⟨List.suffix_refl _,List.prefix_refl _,by simp [upP,qU]; omega,by simp [upP,qU]; omega,by simp [upP,qU],fun h=>by simp [upP,qU,h]⟩
theorem qKF {s t u:PS} {b:Int} {c d:Nat} (h0:t.left=s.left) (h1:t.nodes=s.nodes) (h2:t.deep=s.deep+b) (h3:s.bad=true→t.bad=true) (g:Le c d t u):Le c d s (xJ b u) :=
 ⟨h0 ▸ g.suf,h1 ▸ g.pre,by have:=g.d0; simp [xJ]; omega,by have:=g.d1; rw [h0] at this; simp [xJ]; omega,by have:=g.n0; rw [h0,h1] at this; exact this,fun x=>g.b0 (h3 x)⟩
structure MonoAll (n:Nat):Prop where
 pipe:∀ s,Le 0 0 s (yG n s).2
 deeper:∀ b s,0≤b→Le b.toNat 0 s (zF n b s).2
 closed:∀ w s,Le 1 0 s (zI n w s).2
 inside:∀ s,Le 1 0 s (zE n s).2
 bound:∀ i s,Le 0 0 s (zP n i s).2
 bloop:∀ i a s,Le 0 0 s (kV n i a s).2
 post:∀ s,Le 0 0 s (yS n s).2
 ploop:∀ a s,Le 0 0 s (yU n a s).2
 term:∀ s,Le 0 0 s (jB n s).2
 named:∀ w s,Le 2 4 s (yW n w s).2
 choice:∀ s,Le 0 1 s (wS n s).2
 reduce:∀ s,Le 2 1 s (wP n s).2
 limit:∀ s,Le 1 1 s (yX n s).2
 maps:∀ s,Le 1 4 s (jR n s).2
 selects:∀ s,Le 1 3 s (wB n s).2
 signed:∀ w s,Le 1 1 s (wI n w s).2
 object:∀ s,Le 0 1 s (wQ n s).2
 oloop:∀ ks vs s,Le 0 0 s (yV n ks vs s).2
theorem qRH:MonoAll 0:=by
 constructor <;> intros <;> simp only [yG,zF,zI,zE,zP,kV,yS,yU,jB,yW,wS,wP,yX,jR,wB,wI,wQ,yV] <;> exact (wJ _ _).mono (Nat.zero_le _) (Nat.zero_le _)
theorem zC:∀ n,MonoAll n
 | 0=>qRH
 | n+1=>by
  have ih:=zC n
  constructor
  ·intro s
   simp only [yG]
   have h1:=ih.bound 0 s
   have h2:=zM 6 [[124]] (zP n 0 s).2
   split
   ·rename_i c
    obtain ⟨e1,e2,e3, -⟩:=kQ c
    exact h1.trans (h2.eat (by omega) e2 e3 ((ih.pipe _).trans (zY _ _ _ _)) (by omega) (by omega))
   have h3:=zM 1 [[97,115]] (qW 6 [[124]] (zP n 0 s).2).2
   split
   ·rename_i c
    obtain ⟨e1,e2,e3, -⟩:=kQ c
    exact (h1.trans h2).trans (h3.eat (by omega) e2 e3 ((((yQ _ _).trans (qV _ _ _)).trans (ih.deeper 0 _ (by omega))).trans (zY _ _ _ _)) (by simp) (by simp))
   exact (h1.trans h2).trans h3
  ·intro b s hb
   simp only [zF]
   split
   ·exact qZS s hb (by omega)
   refine (qKF (s:=s) (t:=upP b s) (b:=b) rfl rfl rfl ?_ (ih.pipe _)).mono (by omega) (by omega)
   intro h; simp [upP,qU,h]
  ·intro w s
   simp only [zI]
   exact (ih.deeper 1 s (by omega)).trans (qV _ _ _)
  ·intro s
   simp only [zE]
   exact ((qV _ _ _).trans (ih.closed _ _)).mono (by omega) (by omega)
  ·intro i s
   simp only [zP]
   split
   ·exact ih.post s
   exact (ih.bound _ _).trans (ih.bloop _ _ _)
  ·intro i a s
   simp only [kV]
   split
   ·exact Le.refl s
   have h2:=zM (lvK i) (wD i) s
   split
   ·exact h2
   rename_i c
   obtain ⟨e1,e2,e3, -⟩:=kQ (by simpa using c)
   have h3:=(ih.bound (i+1) (qW (lvK i) (wD i) s).2).trans (zY (kK i) (if kK i=8 then [] else (qW (lvK i) (wD i) s).1.1) [a,(zP n (i+1) (qW (lvK i) (wD i) s).2).1] _)
   split
   ·exact h2.eat (by omega) e2 e3 h3 (by omega) (by omega)
   exact h2.eat (by omega) e2 e3 (h3.trans (ih.bloop _ _ _)) (by omega) (by omega)
  ·intro s
   simp only [yS]
   exact (ih.term _).trans (ih.ploop _ _)
  ·intro a s
   simp only [yU]
   split
   ·exact Le.refl s
   have h2:=qAU (fun t=>decide (t.kind=3)) s
   split
   ·rename_i c
    obtain ⟨e1,e2,e3, -⟩:=vT c
    exact h2.eat (by omega) e2 e3 ((zY _ _ _ _).trans (ih.ploop _ _)) (by omega) (by omega)
   have h3:=zM 6 [[91]] (qZ (fun t=>decide (t.kind=3)) s).2
   split
   ·exact h2.trans h3
   rename_i c
   obtain ⟨e1,e2,e3, -⟩:=kQ (by simpa using c)
   refine h2.trans (h3.eat (by omega) e2 e3 (c':=0) (d':=1) ?_ (by omega) (by omega))
   split
   ·exact (((zM _ _ _).trans (zY _ _ _ _)).trans (ih.ploop _ _)).mono (by omega) (by omega)
   exact ((((((zM _ _ _).trans (zM _ _ _)).trans (vC _)).trans (qV _ _ _)).trans (yL _ _)).trans (ih.ploop _ _)).mono (by omega) (by omega)
  ·intro s
   simp only [jB]
   have h2:=qAU (fun _=>true) s
   by_cases c:(qZ (fun _=>true) s).1.2=true
   ·obtain ⟨e1,e2,e3, -⟩:=vT c
    refine h2.eat (by omega) e2 e3 (c':=2) (d':=4) (Le.mono ((wJ (qZ (fun _=>true) s).1.2 _).trans (c':=2) (d':=4) ?_) (by omega) (by omega)) (by omega) (by omega)
    split
    ·exact (ih.named _ _).mono (by omega) (by omega)
    split
    ·exact (zY _ _ _ _).mono (by omega) (by omega)
    split
    ·exact ((zY _ _ _ _).trans (zY _ _ _ _)).mono (by omega) (by omega)
    split
    ·exact (yL _ _).mono (by omega) (by omega)
    split
    ·exact (yL _ _).mono (by omega) (by omega)
    exact (ih.signed _ _).mono (by omega) (by omega)
   have e:=qJT (by simpa using c)
   have hk:(qZ (fun _=>true) s).1.1.kind=0:=by rw [e]; rfl
   have ht:(qZ (fun _=>true) s).1.1.text=[]:=by rw [e]; rfl
   have hs:qU (qZ (fun _=>true) s).1.2 (qZ (fun _=>true) s).2=qU false s:=by rw [e]
   rw [hk,ht,hs,if_neg (by decide),if_neg (by decide),if_neg (by decide),if_neg (by decide),if_neg (by decide)]
   cases n with
   | zero=>simp only [wI]; exact (wJ _ _).trans (wJ _ _)
   | succ n =>
    simp only [wI]
    rw [if_neg (by decide),if_neg (by decide),if_neg (by decide),if_neg (by decide),if_neg (by decide)]
    exact (wJ _ _).trans (wJ _ _)
  ·intro w s
   simp only [yW]
   refine jE (Le.mono (yL _ _) (by omega) (by omega)) ?_
   refine jE (Le.mono (yL _ _) (by omega) (by omega)) ?_
   refine jE (Le.mono (yL _ _) (by omega) (by omega)) ?_
   refine jE (Le.mono (zY _ _ _ _) (by omega) (by omega)) ?_
   refine jE (Le.mono (ih.choice _) (by omega) (by omega)) ?_
   refine jE (Le.mono ((ih.post _).trans (zY _ _ _ _)) (by omega) (by omega)) ?_
   refine jE (Le.mono ((ih.inside _).trans (zY _ _ _ _)) (by omega) (by omega)) ?_
   refine jE (Le.mono ((ih.inside _).trans (zY _ _ _ _)) (by omega) (by omega)) ?_
   refine jE (Le.mono (ih.reduce _) (by omega) (by omega)) ?_
   refine jE (Le.mono (ih.limit _) (by omega) (by omega)) ?_
   refine jE (Le.mono ((ih.inside _).trans (yL _ _)) (by omega) (by omega)) ?_
   refine jE (Le.mono (ih.maps _) (by omega) (by omega)) ?_
   refine jE (Le.mono (ih.selects _) (by omega) (by omega)) ?_
   exact (qXF _ _).mono (by omega) (by omega)
  ·intro s
   simp only [wS]
   have h:=((((((ih.deeper 0 { s with deep:=s.deep+1 } (by omega)).trans (qV 1 [116,104,101,110] _)).trans (ih.deeper 0 _ (by omega))).trans (qV 1 [101,108,115,101] _)).trans (ih.deeper 0 _ (by omega))).trans (qV 1 [101,110,100] _))
   exact ((qKF (s:=s) (t:={ s with deep:=s.deep+1 }) (b:=1) rfl rfl rfl id h).trans (zY _ _ _ _)).mono (by decide) (by decide)
  ·intro s
   simp only [wP]
   exact (((((((ih.post s).trans (qV _ _ _)).trans (yQ _ _)).trans (qV _ _ _)).trans (ih.closed _ _)).trans (ih.closed _ _)).trans (zY _ _ _ _)).mono (by omega) (by omega)
  ·intro s
   simp only [yX]
   exact (((((qV _ _ s).trans (vC _)).trans (qV _ _ _)).trans (ih.closed _ _)).trans (yL _ _)).mono (by omega) (by omega)
  ·intro s
   simp only [jR]
   exact (((((zY _ _ _ s).trans (zY _ _ _ _)).trans (ih.inside _)).trans (zY _ _ _ _)).trans (zY _ _ _ _)).mono (by omega) (by omega)
  ·intro s
   simp only [wB]
   exact ((((ih.inside s).trans (zY _ _ _ _)).trans (zY _ _ _ _)).trans (zY _ _ _ _)).mono (by omega) (by omega)
  ·intro w s
   simp only [wI]
   repeat' split
   ·exact (zY _ _ _ _).mono (by omega) (by omega)
   ·exact ((yQ _ _).trans (yL _ _)).mono (by omega) (by omega)
   ·exact (ih.closed _ _).mono (by omega) (by omega)
   ·exact ((zM _ _ _).trans (zY _ _ _ _)).mono (by omega) (by omega)
   ·exact (((zM _ _ _).trans (ih.closed _ _)).trans (zY _ _ _ _)).mono (by omega) (by omega)
   ·exact (ih.object _).mono (by omega) (by omega)
   exact (wJ _ _).mono (by omega) (by omega)
  ·intro s
   simp only [wQ]
   split
   ·exact ((zM _ _ _).trans (yL _ _)).mono (by omega) (by omega)
   refine ((zM 6 [[125]] s).trans ((qKF (s:=(qW 6 [[125]] s).2) (t:=upP 1 (qW 6 [[125]] s).2) (b:=1) rfl rfl rfl ?_ (ih.oloop [] [] _)).trans (yL _ _))).mono (by omega) (by omega)
   intro h; simp [upP,qU,h]
  intro ks vs s
  simp only [yV]
  have h2:=yQ [1,5] s
  have h3:=h2.trans ((qV 6 [58] _).trans (wJ (decide ((zR [1,5] s).1.text ∉ ks)) _))
  split
  ·exact Le.refl s
  split
  ·exact h3
  have h4:=(h3.trans (ih.bound 1 _)).trans ((zM 6 [[125],[44]] _).trans (wJ (qW 6 [[125],[44]] (zP n 1 (qU (decide ((zR [1,5] s).1.text ∉ ks)) (zB 6 [58] (zR [1,5] s).2))).2).1.2 _))
  split
  ·exact h4
  exact h4.trans (ih.oloop _ _ _)
inductive Tr where
 | mk (x:Nd) (ts:List Tr)
mutual
def Tr.size:Tr→Nat
 | .mk _ ts=>Tr.sizeL ts+1
def Tr.sizeL:List Tr→Nat
 | []=>0
 | t::ts=>t.size+Tr.sizeL ts
end
def Tr.ends:Nat→List Tr→List Int
 | _,[]=>[]
 | b,t::ts=>(((b+t.size:Nat):Int)-1)::Tr.ends (b+t.size) ts
mutual
def Tr.flat:Nat→Tr→List Nd
 | b,.mk x ts=>Tr.flatL b ts++[{ x with kids:=Tr.ends b ts }]
def Tr.flatL:Nat→List Tr→List Nd
 | _,[]=>[]
 | b,t::ts=>t.flat b++Tr.flatL (b+t.size) ts
end
def wN (x:Nd) (k:Nat):Bool :=
 (decide (1≤x.op∧x.op≤20) && decide (x.op=10∨x.keys.length≤1)) &&
 (if x.op=4∨x.op=5∨x.op=6∨x.op=13∨x.op=14∨x.op=17∨x.op=20 then decide (k=1)
 else if x.op=7∨x.op=8∨x.op=11∨x.op=16 then decide (k=2)
 else if x.op=12∨x.op=15 then decide (k=3)
 else if x.op=10 then decide (k=x.keys.length)
 else if x.op=9 then decide (k≤1)
 else decide (k=0))
mutual
def Tr.ok:Tr→Bool
 | .mk x ts=>wN x ts.length && Tr.okL ts
def Tr.okL:List Tr→Bool
 | []=>true
 | t::ts=>t.ok && Tr.okL ts
end
theorem Tr.size_pos:∀ t:Tr,1≤t.size
 | .mk x ts=>by simp [Tr.size]
mutual
theorem Tr.flat_len:∀ (t:Tr) (b:Nat),(t.flat b).length=t.size
 | .mk x ts,b=>by simp only [Tr.flat,Tr.size,List.length_append,List.length_singleton,Tr.flatL_len ts b]
theorem Tr.flatL_len:∀ (ts:List Tr) (b:Nat),(Tr.flatL b ts).length=Tr.sizeL ts
 | [],b=>rfl
 | t::ts,b=>by simp only [Tr.flatL,Tr.sizeL,List.length_append,Tr.flat_len t b,Tr.flatL_len ts (b+t.size)]
end
theorem Tr.ends_len:∀ (ts:List Tr) (b:Nat),(Tr.ends b ts).length=ts.length
 | [],b=>rfl
 | t::ts,b=>by simp only [Tr.ends,List.length_cons,Tr.ends_len ts]
theorem Tr.ends_app:∀ (ts us:List Tr) (b:Nat),Tr.ends b (ts++us)=Tr.ends b ts++Tr.ends (b+Tr.sizeL ts) us
 | [],us,b=>by simp [Tr.ends,Tr.sizeL]
 | t::ts,us,b=>by simp only [List.cons_append,Tr.ends,Tr.ends_app ts us,Tr.sizeL,Nat.add_assoc]
theorem Tr.flatL_app:∀ (ts us:List Tr) (b:Nat),Tr.flatL b (ts++us)=Tr.flatL b ts++Tr.flatL (b+Tr.sizeL ts) us
 | [],us,b=>by simp [Tr.flatL,Tr.sizeL]
 | t::ts,us,b=>by simp only [List.cons_append,Tr.flatL,Tr.flatL_app ts us,Tr.sizeL,Nat.add_assoc,List.append_assoc]
theorem Tr.sizeL_app:∀ (ts us:List Tr),Tr.sizeL (ts++us)=Tr.sizeL ts+Tr.sizeL us
 | [],us=>by simp [Tr.sizeL]
 | t::ts,us=>by simp only [List.cons_append,Tr.sizeL,Tr.sizeL_app ts us,Nat.add_assoc]
theorem Tr.okL_app:∀ (ts us:List Tr),Tr.okL (ts++us)=(Tr.okL ts && Tr.okL us)
 | [],us=>by simp [Tr.okL]
 | t::ts,us=>by simp only [List.cons_append,Tr.okL,Tr.okL_app ts us,Bool.and_assoc]
def wO (l:List Nd):List Int:=l.flatMap fun x=>x.kids
theorem qAX (l m:List Nd):wO (l++m)=wO l++wO m:=List.flatMap_append
mutual
theorem Tr.count:∀ (t:Tr) (b:Nat) (j:Int),(wO (t.flat b)).count j=if (b:Int)≤j∧j+1<b+t.size then 1 else 0
 | .mk x ts,b,j=>by
  have h:=Tr.countL ts b j
  simp only [Tr.flat,qAX,List.count_append]
  rw [show wO [{ x with kids:=Tr.ends b ts }]=Tr.ends b ts by simp [wO],h]
  have hsz:(Tr.mk x ts).size=Tr.sizeL ts+1:=by simp [Tr.size]
  by_cases c:(b:Int)≤j∧j<b+Tr.sizeL ts
  ·rw [if_pos c,if_pos (by rw [hsz]; omega)]
  rw [if_neg c,if_neg (by rw [hsz]; omega)]
theorem Tr.countL:∀ (ts:List Tr) (b:Nat) (j:Int),(wO (Tr.flatL b ts)).count j+(Tr.ends b ts).count j=if (b:Int)≤j∧j<b+Tr.sizeL ts then 1 else 0
 | [],b,j=>by
  rw [if_neg (by simp only [Tr.sizeL]; omega)]; rfl
 | t::ts,b,j=>by
  have h1:=Tr.count t b j
  have h2:=Tr.countL ts (b+t.size) j
  have hp:=Tr.size_pos t
  have hsz:Tr.sizeL (t::ts)=t.size+Tr.sizeL ts:=by simp [Tr.sizeL]
  rw [show Tr.flatL b (t::ts)=t.flat b++Tr.flatL (b+t.size) ts by simp [Tr.flatL],show Tr.ends b (t::ts)=(((b+t.size:Nat):Int)-1)::Tr.ends (b+t.size) ts by simp [Tr.ends],hsz,qAX,List.count_append,List.count_cons,h1]
  generalize (wO (Tr.flatL (b+t.size) ts)).count j=A at *
  generalize (Tr.ends (b+t.size) ts).count j=B at *
  have e:(if ((((b+t.size:Nat):Int)-1) == j)=true then 1 else 0)=if ((b+t.size:Nat):Int)-1=j then 1 else 0:=by simp
  rw [e]
  clear e h1
  split at h2 <;> split <;> split <;> split <;> omega
end
def qOA (i:Nat) (x:Nd):Prop:=(∀ k∈x.kids,0≤k∧k<i)∧x.kids.Pairwise (· < ·)∧wN x x.kids.length=true
theorem Tr.ends_mem:∀ (ts:List Tr) (b:Nat), ∀ k∈Tr.ends b ts,(b:Int)≤k∧k<b+Tr.sizeL ts
 | [],b,k,h=>by simp [Tr.ends] at h
 | t::ts,b,k,h=>by
  have hp:=Tr.size_pos t
  simp only [Tr.ends,List.mem_cons] at h
  simp only [Tr.sizeL]
  rcases h with h | h
  ·omega
  have:=Tr.ends_mem ts _ k h; omega
theorem Tr.ends_up:∀ (ts:List Tr) (b:Nat),(Tr.ends b ts).Pairwise (· < ·)
 | [],b=>by simp [Tr.ends]
 | t::ts,b=>by
  simp only [Tr.ends,List.pairwise_cons]
  refine ⟨fun k h => ?_,Tr.ends_up ts _⟩
  have:=Tr.ends_mem ts _ k h; omega
mutual
theorem Tr.nodes:∀ (t:Tr) (b:Nat),t.ok=true→∀ (i:Nat) x,(t.flat b)[i]?=some x→qOA (b+i) x
 | .mk y ts,b,h,i,x,hx=>by
  simp only [Tr.ok,Bool.and_eq_true] at h
  simp only [Tr.flat] at hx
  have hl:=Tr.flatL_len ts b
  by_cases hi:i<Tr.sizeL ts
  ·rw [List.getElem?_append_left (by omega)] at hx
   exact Tr.nodesL ts b h.2 i x hx
  rw [List.getElem?_append_right (by omega)] at hx
  obtain ⟨h0,h1⟩:=List.getElem?_eq_some_iff.1 hx
  simp only [List.length_singleton] at h0
  obtain rfl:i=Tr.sizeL ts:=by omega
  simp only [List.getElem_singleton] at h1
  subst h1
  refine ⟨fun k hk => ?_,Tr.ends_up ts b, ?_⟩
  ·have:=Tr.ends_mem ts b k hk; omega
  simp only [Tr.ends_len]; exact h.1
theorem Tr.nodesL:∀ (ts:List Tr) (b:Nat),Tr.okL ts=true→∀ (i:Nat) x,(Tr.flatL b ts)[i]?=some x→qOA (b+i) x
 | [],b,h,i,x,hx=>by simp [Tr.flatL] at hx
 | t::ts,b,h,i,x,hx=>by
  simp only [Tr.okL,Bool.and_eq_true] at h
  simp only [Tr.flatL] at hx
  have hl:=Tr.flat_len t b
  by_cases hi:i<t.size
  ·rw [List.getElem?_append_left (by omega)] at hx
   exact Tr.nodes t b h.1 i x hx
  rw [List.getElem?_append_right (by omega),hl] at hx
  have:=Tr.nodesL ts (b+t.size) h.2 (i-t.size) x hx
  rw [show b+t.size+(i-t.size)=b+i by omega] at this
  exact this
end
theorem Le.nb2 {c d:Nat} {s s':PS} (g:Le c d s s') (h:s'.bad=false):s.bad=false:=by
 cases hb:s.bad with
 | false=>rfl
 | true=>rw [g.b0 hb] at h; cases h
structure Has (N:List Nd) (t:Tr) (s:PS) (a:Int):Prop where
 nodes:s.nodes=N++t.flat N.length
 root:a=((N.length+t.size:Nat):Int)-1
 ok:t.ok=true
structure HasL (N:List Nd) (ts:List Tr) (s:PS) (cs:List Int):Prop where
 nodes:s.nodes=N++Tr.flatL N.length ts
 roots:cs=Tr.ends N.length ts
 ok:Tr.okL ts=true
theorem Has.same {N:List Nd} {t:Tr} {s s':PS} {a:Int} (h:Has N t s a) (e:s'.nodes=s.nodes):Has N t s' a:=⟨e.trans h.nodes,h.root,h.ok⟩
theorem HasL.same {N:List Nd} {ts:List Tr} {s s':PS} {cs:List Int} (h:HasL N ts s cs) (e:s'.nodes=s.nodes):HasL N ts s' cs:=⟨e.trans h.nodes,h.roots,h.ok⟩
theorem HasL.nil (s:PS):HasL s.nodes [] s []:=⟨by simp [Tr.flatL],rfl,rfl⟩
theorem HasL.snoc {N:List Nd} {ts:List Tr} {s s':PS} {cs:List Int} {t:Tr} {a:Int} (h:HasL N ts s cs) (g:Has s.nodes t s' a):HasL N (ts++[t]) s' (cs++[a]):=by
 have hl:s.nodes.length=N.length+Tr.sizeL ts:=by rw [h.nodes,List.length_append,Tr.flatL_len]
 refine ⟨?_, ?_, ?_⟩
 ·rw [g.nodes,hl,Tr.flatL_app,h.nodes]
  simp only [Tr.flatL,List.append_nil,List.append_assoc]
 ·rw [Tr.ends_app,h.roots,g.root,hl]; simp only [Tr.ends]
 rw [Tr.okL_app,h.ok]; simp only [Tr.okL,g.ok,Bool.and_self]
theorem HasL.one {N:List Nd} {t:Tr} {s:PS} {a:Int} (h:Has N t s a):HasL N [t] s [a]:=⟨by rw [h.nodes]; simp [Tr.flatL],by rw [h.root]; simp [Tr.ends],by simp [Tr.okL,h.ok]⟩
theorem Has.put {N:List Nd} {ts:List Tr} {s:PS} {x:Nd} (h:HasL N ts s x.kids) (ho:wN x ts.length=true):Has N (.mk x ts) (wC x s).2 (wC x s).1:=by
 have hl:s.nodes.length=N.length+Tr.sizeL ts:=by rw [h.nodes,List.length_append,Tr.flatL_len]
 have hx:({ x with kids:=Tr.ends N.length ts }:Nd)=x:=by rw [← h.roots]
 refine ⟨?_, ?_, ?_⟩
 ·show s.nodes++[x]=_
  rw [h.nodes]
  simp only [Tr.flat,List.append_assoc]
  rw [hx]
 ·show ((s.nodes.length:Nat):Int)=_
  rw [hl]; simp only [Tr.size]; omega
 simp only [Tr.ok,ho,h.ok,Bool.and_self]
theorem qJV (f:Tok→Bool) (s:PS):(qZ f s).2.nodes=s.nodes:=by unfold qZ; split <;> rfl
theorem xX (k:Int) (l:List (List UInt8)) (s:PS):(qW k l s).2.nodes=s.nodes:=qJV _ _
theorem kR (k:Int) (w:List UInt8) (s:PS):(zB k w s).nodes=s.nodes:=xX k [w] s
theorem qDH (l:List Int) (s:PS):(zR l s).2.nodes=s.nodes:=qJV _ _
theorem qPW (s:PS):(kP s).2.nodes=s.nodes:=qDH [4] s
structure TreeAll (n:Nat):Prop where
 pipe:∀ s,(yG n s).2.bad=false→∃ t,Has s.nodes t (yG n s).2 (yG n s).1
 deeper:∀ b s,0≤b→(zF n b s).2.bad=false→∃ t,Has s.nodes t (zF n b s).2 (zF n b s).1
 closed:∀ w s,(zI n w s).2.bad=false→∃ t,Has s.nodes t (zI n w s).2 (zI n w s).1
 inside:∀ s,(zE n s).2.bad=false→∃ t,Has s.nodes t (zE n s).2 (zE n s).1
 bound:∀ i s,(zP n i s).2.bad=false→∃ t,Has s.nodes t (zP n i s).2 (zP n i s).1
 post:∀ s,(yS n s).2.bad=false→∃ t,Has s.nodes t (yS n s).2 (yS n s).1
 term:∀ s,(jB n s).2.bad=false→∃ t,Has s.nodes t (jB n s).2 (jB n s).1
 named:∀ w s,(yW n w s).2.bad=false→∃ t,Has s.nodes t (yW n w s).2 (yW n w s).1
 choice:∀ s,(wS n s).2.bad=false→∃ t,Has s.nodes t (wS n s).2 (wS n s).1
 reduce:∀ s,(wP n s).2.bad=false→∃ t,Has s.nodes t (wP n s).2 (wP n s).1
 limit:∀ s,(yX n s).2.bad=false→∃ t,Has s.nodes t (yX n s).2 (yX n s).1
 maps:∀ s,(jR n s).2.bad=false→∃ t,Has s.nodes t (jR n s).2 (jR n s).1
 selects:∀ s,(wB n s).2.bad=false→∃ t,Has s.nodes t (wB n s).2 (wB n s).1
 signed:∀ w s,(wI n w s).2.bad=false→∃ t,Has s.nodes t (wI n w s).2 (wI n w s).1
 object:∀ s,(wQ n s).2.bad=false→∃ t,Has s.nodes t (wQ n s).2 (wQ n s).1
 bloop:∀ i a s N t,Has N t s a→(kV n i a s).2.bad=false→∃ t,Has N t (kV n i a s).2 (kV n i a s).1
 ploop:∀ a s N t,Has N t s a→(yU n a s).2.bad=false→∃ t,Has N t (yU n a s).2 (yU n a s).1
 oloop:∀ ks vs s N ts,HasL N ts s vs→ks.length=ts.length→(yV n ks vs s).2.bad=false→∃ ts,HasL N ts (yV n ks vs s).2 (yV n ks vs s).1.2∧(yV n ks vs s).1.1.length=ts.length
theorem wU {p:Prop} [Decidable p] {N:List Nd} {a b:Int × PS} (ha:a.2.bad=false→∃ t,Has N t a.2 a.1) (hb:b.2.bad=false→∃ t,Has N t b.2 b.1):(if p then a else b).2.bad=false→∃ t,Has N t (if p then a else b).2 (if p then a else b).1:=by split <;> assumption
theorem wA {s:PS} (h:(qU false s).bad=false):False:=by simp [qU] at h
theorem qRZ (w:List UInt8) (s:PS):(qAM w s).2.bad=false→∃ t,Has s.nodes t (qAM w s).2 (qAM w s).1:=by
 unfold qAM
 split
 ·intro hb; exact (wA (s:=s) hb).elim
 split
 ·intro hb
  have n1:(zB 6 [41] (zR [5] (zB 6 [40] s)).2).nodes=s.nodes:=(kR _ _ _).trans ((qDH _ _).trans (kR _ _ _))
  generalize zB 6 [41] (zR [5] (zB 6 [40] s)).2=s1 at *
  rw [← n1]
  exact ⟨_,Has.put (HasL.nil s1) (by simp [wN])⟩
 intro hb; exact ⟨_,Has.put (HasL.nil s) (by simp [wN])⟩
theorem qQS:TreeAll 0:=by
 constructor
 ·intro s h; simp only [yG] at h; exact (wA h).elim
 ·intro b s hb0 h; simp only [zF] at h; exact (wA h).elim
 ·intro w s h; simp only [zI] at h; exact (wA h).elim
 ·intro s h; simp only [zE] at h; exact (wA h).elim
 ·intro i s h; simp only [zP] at h; exact (wA h).elim
 ·intro s h; simp only [yS] at h; exact (wA h).elim
 ·intro s h; simp only [jB] at h; exact (wA h).elim
 ·intro w s h; simp only [yW] at h; exact (wA h).elim
 ·intro s h; simp only [wS] at h; exact (wA h).elim
 ·intro s h; simp only [wP] at h; exact (wA h).elim
 ·intro s h; simp only [yX] at h; exact (wA h).elim
 ·intro s h; simp only [jR] at h; exact (wA h).elim
 ·intro s h; simp only [wB] at h; exact (wA h).elim
 ·intro w s h; simp only [wI] at h; exact (wA h).elim
 ·intro s h; simp only [wQ] at h; exact (wA h).elim
 ·intro i a s N t hh h; simp only [kV] at h; exact (wA h).elim
 ·intro a s N t hh h; simp only [yU] at h; exact (wA h).elim
 intro ks vs s N ts hh hk h; simp only [yV] at h; exact (wA h).elim
theorem qKY:∀ n,TreeAll n
 | 0=>qQS
 | n+1=>by
  have ih:=qKY n
  have m:=zC n
  constructor
  ·intro s
   simp only [yG]
   have l1:=m.bound 0 s
   have h1:=ih.bound 0 s
   generalize zP n 0 s=R at *
   obtain ⟨a1,s1⟩:=R
   simp only at l1 h1 ⊢
   have l2:=zM 6 [[124]] s1
   have n2:=xX 6 [[124]] s1
   generalize qW 6 [[124]] s1=R at *
   obtain ⟨⟨w2,b2⟩,s2⟩:=R
   simp only at l2 n2 ⊢
   split
   ·have l3:=m.pipe s2
    have h3:=ih.pipe s2
    generalize yG n s2=R at *
    obtain ⟨a3,s3⟩:=R
    simp only at l3 h3 ⊢
    intro hb
    have b3:s3.bad=false:=hb
    obtain ⟨t1,H1⟩:=h1 (l2.nb2 (l3.nb2 b3))
    obtain ⟨t3,H3⟩:=h3 b3
    exact ⟨_,Has.put ((HasL.one (H1.same n2)).snoc H3) (by simp [wN])⟩
   have l4:=zM 1 [[97,115]] s2
   have n4:=xX 1 [[97,115]] s2
   generalize qW 1 [[97,115]] s2=R at *
   obtain ⟨⟨w4,b4⟩,s4⟩:=R
   simp only at l4 n4 ⊢
   split
   ·have l5:=yQ [2] s4
    have n5:=qDH [2] s4
    generalize zR [2] s4=R at *
    obtain ⟨t5,s5⟩:=R
    simp only at l5 n5 ⊢
    have l6:=qV 6 [124] s5
    have n6:=kR 6 [124] s5
    generalize zB 6 [124] s5=s6 at *
    have l7:=m.deeper 0 s6 (by omega)
    have h7:=ih.deeper 0 s6 (by omega)
    generalize zF n 0 s6=R at *
    obtain ⟨a7,s7⟩:=R
    simp only at l7 h7 ⊢
    intro hb
    have b7:s7.bad=false:=hb
    have b6:=l7.nb2 b7
    obtain ⟨t1,H1⟩:=h1 (l2.nb2 (l4.nb2 (l5.nb2 (l6.nb2 b6))))
    obtain ⟨t7,H7⟩:=h7 b7
    exact ⟨_,Has.put ((HasL.one (H1.same (n6.trans (n5.trans (n4.trans n2))))).snoc H7) (by simp [wN])⟩
   intro hb
   obtain ⟨t1,H1⟩:=h1 (l2.nb2 (l4.nb2 hb))
   exact ⟨t1,H1.same (n4.trans n2)⟩
  ·intro b s hb0
   simp only [zF]
   split
   ·rename_i c; intro hb; rw [c] at hb; cases hb
   have h1:=ih.pipe (upP b s)
   have n1:(upP b s).nodes=s.nodes:=rfl
   generalize yG n (upP b s)=R at *
   obtain ⟨a1,s1⟩:=R
   simp only at h1 ⊢
   intro hb
   obtain ⟨t1,H1⟩:=h1 hb
   rw [n1] at H1
   exact ⟨t1,H1.same rfl⟩
  ·intro w s
   simp only [zI]
   have l1:=m.deeper 1 s (by omega)
   have h1:=ih.deeper 1 s (by omega)
   generalize zF n 1 s=R at *
   obtain ⟨a1,s1⟩:=R
   simp only at l1 h1 ⊢
   have l2:=qV 6 w s1
   have n2:=kR 6 w s1
   generalize zB 6 w s1=s2 at *
   intro hb
   obtain ⟨t1,H1⟩:=h1 (l2.nb2 hb)
   exact ⟨t1,H1.same n2⟩
  ·intro s
   simp only [zE]
   have l1:=qV 6 [40] s
   have n1:=kR 6 [40] s
   generalize zB 6 [40] s=s1 at *
   intro hb
   obtain ⟨t1,H1⟩:=ih.closed _ s1 hb
   rw [n1] at H1
   exact ⟨t1,H1⟩
  ·intro i s
   simp only [zP]
   split
   ·exact ih.post s
   have l1:=m.bound (i+1) s
   have h1:=ih.bound (i+1) s
   generalize zP n (i+1) s=R at *
   obtain ⟨a1,s1⟩:=R
   simp only at l1 h1 ⊢
   intro hb
   obtain ⟨t1,H1⟩:=h1 ((m.bloop i a1 s1).nb2 hb)
   exact ih.bloop i a1 s1 _ t1 H1 hb
  ·intro s
   simp only [yS]
   have l1:=m.term s
   have h1:=ih.term s
   generalize jB n s=R at *
   obtain ⟨a1,s1⟩:=R
   simp only at l1 h1 ⊢
   intro hb
   obtain ⟨t1,H1⟩:=h1 ((m.ploop a1 s1).nb2 hb)
   exact ih.ploop a1 s1 _ t1 H1 hb
  ·intro s
   simp only [jB]
   have n1:=qJV (fun _=>true) s
   generalize qZ (fun _=>true) s=R at *
   obtain ⟨⟨t,b⟩,s1⟩:=R
   simp only at n1 ⊢
   have n2:(qU b s1).nodes=s.nodes:=n1
   generalize qU b s1=s2 at *
   rw [← n2]
   split
   ·exact ih.named _ s2
   split
   ·intro hb; exact ⟨_,Has.put (HasL.nil s2) (by simp [wN])⟩
   split
   ·intro hb; exact ⟨_,Has.put (HasL.one (Has.put (HasL.nil s2) (by simp [wN]))) (by simp [wN])⟩
   split
   ·intro hb; exact ⟨_,Has.put (HasL.nil s2) (by simp [wN])⟩
   split
   ·intro hb; exact ⟨_,Has.put (HasL.nil s2) (by simp [wN])⟩
   exact ih.signed _ s2
  ·intro w s
   simp only [yW]
   refine wU (fun _=>⟨_,Has.put (HasL.nil s) (by simp [wN])⟩) (wU (fun _=>⟨_,Has.put (HasL.nil s) (by simp [wN])⟩) (wU (fun _=>⟨_,Has.put (HasL.nil s) (by simp [wN])⟩) (wU (fun _=>⟨_,Has.put (HasL.nil s) (by simp [wN])⟩) (wU (ih.choice s) (wU ?_ (wU ?_ (wU ?_ (wU (ih.reduce s) (wU (ih.limit s) (wU ?_ (wU (ih.maps s) (wU (ih.selects s) (qRZ w s)))))))))))))
   ·have h1:=ih.post s
    generalize yS n s=R at *
    obtain ⟨a1,s1⟩:=R
    simp only at h1 ⊢
    intro hb
    obtain ⟨t1,H1⟩:=h1 hb
    exact ⟨_,Has.put (HasL.one H1) (by simp [wN])⟩
   ·have h1:=ih.inside s
    generalize zE n s=R at *
    obtain ⟨a1,s1⟩:=R
    simp only at h1 ⊢
    intro hb
    obtain ⟨t1,H1⟩:=h1 hb
    exact ⟨_,Has.put (HasL.one H1) (by simp [wN])⟩
   ·have h1:=ih.inside s
    generalize zE n s=R at *
    obtain ⟨a1,s1⟩:=R
    simp only at h1 ⊢
    intro hb
    obtain ⟨t1,H1⟩:=h1 hb
    exact ⟨_,Has.put (HasL.one H1) (by simp [wN])⟩
   have h1:=ih.inside s
   generalize zE n s=R at *
   obtain ⟨a1,s1⟩:=R
   simp only at h1 ⊢
   intro hb
   obtain ⟨t1,H1⟩:=h1 hb
   exact ⟨_,Has.put (HasL.one H1) (by simp [wN])⟩
  ·intro s
   simp only [wS]
   have n0:({ s with deep:=s.deep+1 }:PS).nodes=s.nodes:=rfl
   generalize { s with deep:=s.deep+1 }=s0 at *
   have l1:=m.deeper 0 s0 (by omega)
   have h1:=ih.deeper 0 s0 (by omega)
   generalize zF n 0 s0=R at *
   obtain ⟨a1,s1⟩:=R
   simp only at l1 h1 ⊢
   have l2:=qV 1 [116,104,101,110] s1
   have n2:=kR 1 [116,104,101,110] s1
   generalize zB 1 [116,104,101,110] s1=s2 at *
   have l3:=m.deeper 0 s2 (by omega)
   have h3:=ih.deeper 0 s2 (by omega)
   generalize zF n 0 s2=R at *
   obtain ⟨a3,s3⟩:=R
   simp only at l3 h3 ⊢
   have l4:=qV 1 [101,108,115,101] s3
   have n4:=kR 1 [101,108,115,101] s3
   generalize zB 1 [101,108,115,101] s3=s4 at *
   have l5:=m.deeper 0 s4 (by omega)
   have h5:=ih.deeper 0 s4 (by omega)
   generalize zF n 0 s4=R at *
   obtain ⟨a5,s5⟩:=R
   simp only at l5 h5 ⊢
   have l6:=qV 1 [101,110,100] s5
   have n6:=kR 1 [101,110,100] s5
   generalize zB 1 [101,110,100] s5=s6 at *
   intro hb
   have b6:s6.bad=false:=hb
   have b5:=l6.nb2 b6
   have b4:=l5.nb2 b5
   have b3:=l4.nb2 b4
   have b2:=l3.nb2 b3
   have b1:=l2.nb2 b2
   obtain ⟨t1,H1⟩:=h1 b1
   obtain ⟨t3,H3⟩:=h3 b3
   obtain ⟨t5,H5⟩:=h5 b5
   rw [← n0]
   exact ⟨_,Has.put (((((HasL.one (H1.same n2)).snoc H3).same n4).snoc H5).same (s':=xJ 1 s6) n6) (by simp [wN])⟩
  ·intro s
   simp only [wP]
   have l1:=m.post s
   have h1:=ih.post s
   generalize yS n s=R at *
   obtain ⟨a1,s1⟩:=R
   simp only at l1 h1 ⊢
   have l2:=qV 1 [97,115] s1
   have n2:=kR 1 [97,115] s1
   generalize zB 1 [97,115] s1=s2 at *
   have l3:=yQ [2] s2
   have n3:=qDH [2] s2
   generalize zR [2] s2=R at *
   obtain ⟨t3,s3⟩:=R
   simp only at l3 n3 ⊢
   have l4:=qV 6 [40] s3
   have n4:=kR 6 [40] s3
   generalize zB 6 [40] s3=s4 at *
   have l5:=m.closed [59] s4
   have h5:=ih.closed [59] s4
   generalize zI n [59] s4=R at *
   obtain ⟨a5,s5⟩:=R
   simp only at l5 h5 ⊢
   have l6:=m.closed [41] s5
   have h6:=ih.closed [41] s5
   generalize zI n [41] s5=R at *
   obtain ⟨a6,s6⟩:=R
   simp only at l6 h6 ⊢
   intro hb
   have b6:s6.bad=false:=hb
   have b5:=l6.nb2 b6
   have b4:=l5.nb2 b5
   have b1:=l2.nb2 (l3.nb2 (l4.nb2 b4))
   obtain ⟨t1,H1⟩:=h1 b1
   obtain ⟨t5,H5⟩:=h5 b5
   obtain ⟨t6,H6⟩:=h6 b6
   exact ⟨_,Has.put (((HasL.one (H1.same (n4.trans (n3.trans n2)))).snoc H5).snoc H6) (by simp [wN])⟩
  ·intro s
   simp only [yX]
   have l1:=qV 6 [40] s
   have n1:=kR 6 [40] s
   generalize zB 6 [40] s=s1 at *
   have l2:=vC s1
   have n2:=qPW s1
   generalize kP s1=R at *
   obtain ⟨a2,s2⟩:=R
   simp only at l2 n2 ⊢
   have l3:=qV 6 [59] s2
   have n3:=kR 6 [59] s2
   generalize zB 6 [59] s2=s3 at *
   have h4:=ih.closed [41] s3
   generalize zI n [41] s3=R at *
   obtain ⟨a4,s4⟩:=R
   simp only at h4 ⊢
   intro hb
   obtain ⟨t4,H4⟩:=h4 hb
   rw [n3,n2,n1] at H4
   exact ⟨_,Has.put (HasL.one H4) (by simp [wN])⟩
  ·intro s
   simp only [jR]
   have H2:Has s.nodes _ (opP 6 [] [(opP 1 [] [] s).1] (opP 1 [] [] s).2).2 (opP 6 [] [(opP 1 [] [] s).1] (opP 1 [] [] s).2).1:=Has.put (HasL.one (Has.put (HasL.nil s) (by simp [wN]))) (by simp [wN])
   generalize opP 6 [] [(opP 1 [] [] s).1] (opP 1 [] [] s).2=R at *
   obtain ⟨a2,s2⟩:=R
   simp only at H2 ⊢
   have h3:=ih.inside s2
   generalize zE n s2=R at *
   obtain ⟨a3,s3⟩:=R
   simp only at h3 ⊢
   intro hb
   obtain ⟨t3,H3⟩:=h3 hb
   exact ⟨_,Has.put (HasL.one (Has.put ((HasL.one H2).snoc H3) (by simp [wN]))) (by simp [wN])⟩
  ·intro s
   simp only [wB]
   have h1:=ih.inside s
   generalize zE n s=R at *
   obtain ⟨a1,s1⟩:=R
   simp only at h1 ⊢
   intro hb
   obtain ⟨t1,H1⟩:=h1 hb
   have H2:Has s1.nodes _ (opP 1 [] [] s1).2 (opP 1 [] [] s1).1:=Has.put (HasL.nil s1) (by simp [wN])
   have H3:Has (opP 1 [] [] s1).2.nodes _ (opP 19 [] [] (opP 1 [] [] s1).2).2 (opP 19 [] [] (opP 1 [] [] s1).2).1:=Has.put (HasL.nil _) (by simp [wN])
   exact ⟨_,Has.put (((HasL.one H1).snoc H2).snoc H3) (by simp [wN])⟩
  ·intro w s
   simp only [wI]
   split
   ·intro hb; exact ⟨_,Has.put (HasL.nil s) (by simp [wN])⟩
   split
   ·have n1:=qDH [4] s
    generalize zR [4] s=R at *
    obtain ⟨t1,s1⟩:=R
    simp only at n1 ⊢
    rw [← n1]
    intro hb; exact ⟨_,Has.put (HasL.nil s1) (by simp [wN])⟩
   split
   ·exact ih.closed _ s
   split
   ·have n1:=xX 6 [[93]] s
    generalize qW 6 [[93]] s=R at *
    obtain ⟨⟨w1,b1⟩,s1⟩:=R
    simp only at n1 ⊢
    rw [← n1]
    split
    ·intro hb; exact ⟨_,Has.put (HasL.nil s1) (by simp [wN])⟩
    have h2:=ih.closed [93] s1
    generalize zI n [93] s1=R at *
    obtain ⟨a2,s2⟩:=R
    simp only at h2 ⊢
    intro hb
    obtain ⟨t2,H2⟩:=h2 hb
    exact ⟨_,Has.put (HasL.one H2) (by simp [wN])⟩
   split
   ·exact ih.object s
   intro hb; exact (wA hb).elim
  ·intro s
   simp only [wQ]
   have n1:=xX 6 [[125]] s
   generalize qW 6 [[125]] s=R at *
   obtain ⟨⟨w1,b1⟩,s1⟩:=R
   simp only at n1 ⊢
   rw [← n1]
   split
   ·intro hb; exact ⟨_,Has.put (HasL.nil s1) (by simp [wN])⟩
   have h2:=ih.oloop [] [] (upP 1 s1) s1.nodes [] ((HasL.nil s1).same rfl) rfl
   generalize yV n [] [] (upP 1 s1)=R at *
   obtain ⟨⟨ks,vs⟩,s2⟩:=R
   simp only at h2 ⊢
   intro hb
   obtain ⟨ts,H2,hk⟩:=h2 hb
   exact ⟨_,Has.put (x:=⟨10,0,[],⟨false,[],0⟩,ks,vs⟩) (H2.same rfl) (by simp [wN,hk])⟩
  ·intro i a s N t H
   simp only [kV]
   split
   ·intro hb; exact ⟨t,H⟩
   have n2:=xX (lvK i) (wD i) s
   generalize qW (lvK i) (wD i) s=R at *
   obtain ⟨⟨w2,b2⟩,s2⟩:=R
   simp only at n2 ⊢
   split
   ·intro hb; exact ⟨t,H.same n2⟩
   have l3:=m.bound (i+1) s2
   have h3:=ih.bound (i+1) s2
   generalize zP n (i+1) s2=R at *
   obtain ⟨a3,s3⟩:=R
   simp only at l3 h3 ⊢
   generalize (if kK i=8 then [] else w2)=w at *
   have hop:wN ⟨kK i,0,w,⟨false,[],0⟩,[],[a,a3]⟩ 2=true:=by unfold kK wN; split <;> simp
   split
   ·intro hb
    obtain ⟨t3,H3⟩:=h3 hb
    exact ⟨_,Has.put (x:=⟨kK i,0,w,⟨false,[],0⟩,[],[a,a3]⟩) ((HasL.one (H.same n2)).snoc H3) hop⟩
   intro hb
   have b4:(opP (kK i) w [a,a3] s3).2.bad=false:=(m.bloop _ _ _).nb2 hb
   obtain ⟨t3,H3⟩:=h3 b4
   exact ih.bloop _ _ _ N _ (Has.put (x:=⟨kK i,0,w,⟨false,[],0⟩,[],[a,a3]⟩) ((HasL.one (H.same n2)).snoc H3) hop) hb
  ·intro a s N t H
   simp only [yU]
   split
   ·intro hb; exact ⟨t,H⟩
   have n2:=qJV (fun t=>decide (t.kind=3)) s
   generalize qZ (fun t=>decide (t.kind=3)) s=R at *
   obtain ⟨⟨t2,b2⟩,s2⟩:=R
   simp only at n2 ⊢
   have H2:=H.same n2
   split
   ·intro hb; exact ih.ploop _ _ N _ (Has.put (x:=⟨4,0,t2.text,⟨false,[],0⟩,[],[a]⟩) (HasL.one H2) (by simp [wN])) hb
   have n3:=xX 6 [[91]] s2
   generalize qW 6 [[91]] s2=R at *
   obtain ⟨⟨w3,b3⟩,s3⟩:=R
   simp only at n3 ⊢
   have H3:=H2.same n3
   split
   ·intro hb; exact ⟨t,H3⟩
   have n4:=xX 6 [[93]] s3
   generalize qW 6 [[93]] s3=R at *
   obtain ⟨⟨w4,b4⟩,s4⟩:=R
   simp only at n4 ⊢
   have H4:=H3.same n4
   split
   ·intro hb; exact ih.ploop _ _ N _ (Has.put (x:=⟨6,0,[],⟨false,[],0⟩,[],[a]⟩) (HasL.one H4) (by simp [wN])) hb
   have l5:=zM 6 [[45]] s4
   have n5:=xX 6 [[45]] s4
   generalize qW 6 [[45]] s4=R at *
   obtain ⟨⟨w5,b5⟩,s5⟩:=R
   simp only at l5 n5 ⊢
   have l6:=vC s5
   have n6:=qPW s5
   generalize kP s5=R at *
   obtain ⟨a6,s6⟩:=R
   simp only at l6 n6 ⊢
   have l7:=qV 6 [93] s6
   have n7:=kR 6 [93] s6
   generalize zB 6 [93] s6=s7 at *
   intro hb
   exact ih.ploop _ _ N _ (Has.put (x:=⟨5,(if b5=true then-a6 else a6),[],⟨false,[],0⟩,[],[a]⟩) (HasL.one (H4.same (n7.trans (n6.trans n5)))) (by simp [wN])) hb
  intro ks vs s N ts H hk
  simp only [yV]
  split
  ·intro hb; exact ⟨ts,H,hk⟩
  have n2:=qDH [1,5] s
  generalize zR [1,5] s=R at *
  obtain ⟨t2,s2⟩:=R
  simp only at n2 ⊢
  have n3:(qU (decide (t2.text ∉ ks)) (zB 6 [58] s2)).nodes=s.nodes:=(kR 6 [58] s2).trans n2
  generalize qU (decide (t2.text ∉ ks)) (zB 6 [58] s2)=s3 at *
  split
  ·intro hb; exact ⟨ts,H.same n3,hk⟩
  have l4:=m.bound 1 s3
  have h4:=ih.bound 1 s3
  generalize zP n 1 s3=R at *
  obtain ⟨a4,s4⟩:=R
  simp only at l4 h4 ⊢
  have l5:=(zM 6 [[125],[44]] s4).trans (wJ (qW 6 [[125],[44]] s4).1.2 _)
  have n5:(qU (qW 6 [[125],[44]] s4).1.2 (qW 6 [[125],[44]] s4).2).nodes=s4.nodes:=xX 6 [[125],[44]] s4
  generalize qW 6 [[125],[44]] s4=R at *
  obtain ⟨⟨w5,b5⟩,s5⟩:=R
  simp only at l5 n5 ⊢
  generalize qU b5 s5=s6 at *
  split
  ·intro hb
   obtain ⟨t4,H4⟩:=h4 (l5.nb2 hb)
   exact ⟨_,((H.same n3).snoc H4).same n5,by simp [hk]⟩
  intro hb
  obtain ⟨t4,H4⟩:=h4 (l5.nb2 ((m.oloop _ _ _).nb2 hb))
  exact ih.oloop _ _ _ N _ (((H.same n3).snoc H4).same n5) (by simp [hk]) hb
theorem qSY {l:List Tok} (h:(qLE l).2=0):∃ t:Tr,(qLE l).1=t.flat 0∧t.ok=true∧t.size≤400:=by
 have hT:=(qKY (20 * l.length+20)).pipe ⟨l,[],0,false⟩
 unfold qLE at h ⊢
 generalize yG (20 * l.length+20) ⟨l,[],0,false⟩=R at *
 obtain ⟨a,s⟩:=R
 simp only at h hT ⊢
 by_cases c1:s.bad=true∨s.left≠[]
 ·rw [if_pos c1] at h; cases h
 rw [if_neg c1] at h ⊢
 by_cases c2:400<s.nodes.length
 ·rw [if_pos c2] at h; cases h
 rw [if_neg c2]
 obtain ⟨t,H⟩:=hT (by
  cases hb:s.bad with
  | false=>rfl
  | true=>exact absurd (.inl hb) c1)
 have hn:=H.nodes
 simp only [List.nil_append,List.length_nil] at hn
 refine ⟨t,hn,H.ok, ?_⟩
 have:=congrArg List.length hn
 rw [Tr.flat_len] at this
 omega
open Go
open Go.Lib
def qET (n:Nat):UInt8:=if n<10 then UInt8.ofNat (48+n) else UInt8.ofNat (87+n)
def qb (b:UInt8):List UInt8 :=
 if b=34∨b=92 then [92,b] else if b=10 then [92,110] else if b=13 then [92,114] else if b=9 then [92,116]
 else if b<32∨b=127 then [92,117,48,48,qET (b.toNat / 16),qET (b.toNat % 16)] else [b]
def uI (s:List UInt8):List UInt8:=s.flatMap qb
def yT (s:List UInt8):List UInt8:=34::(uI s++[34])
def qKA (c:UInt8):Option Nat:=if 48≤c∧c≤57 then some (c.toNat-48) else if 97≤c∧c≤102 then some (c.toNat-87) else if 65≤c∧c≤70 then some (c.toNat-55) else none
def qES:List UInt8→Nat→Option Nat
 | [],x=>some x
 | c::l,x=>match qKA c with
  | none=>none
  | some k=>qES l (16 * x+k)
def yJ (s:List UInt8):Option Nat:=if s.length<6∨s.take 2≠[92,117] then none else qES ((s.drop 2).take 4) 0
def qDQ (c:UInt8):Option Nat:=if c=34 then some 34 else if c=92 then some 92 else if c=47 then some 47 else if c=98 then some 8 else if c=102 then some 12 else if c=110 then some 10 else if c=114 then some 13 else if c=116 then some 9 else none
def qUH (u w:Option Nat):Nat × Nat × Bool :=
 if u.isSome=false∨u.getD 0 / 1024≠54 then (u.getD 0,6,u.isSome && decide (u.getD 0 / 1024≠55)) else (65536+u.getD 0 % 1024 * 1024+w.getD 0 % 1024,12,w.isSome && decide (w.getD 0 / 1024=55))
def yY (s:List UInt8):Nat × Nat × Bool:=match s with
 | _::c::_=>match qDQ c with
  | some v=>(v,2,true)
  | none=>qUH (yJ s) (yJ (s.drop 6))
 | _=>(0,0,false)
def qOM (s:List UInt8):Option (Nat × Nat):=if (yY s).2.2=true then some ((yY s).1,(yY s).2.1) else none
def jZ:Nat→List UInt8→Nat→List UInt8→List UInt8 × Nat × Int
 | 0,_,_,_=>([],0,6)
 | f+1,s,at',out=>if s=[] then ([],0,6)
  else if (decodeL s).1=34 then (if 4096<out.length then ([],0,3) else (out,at'+1,0))
  else if (decodeL s).1<32∨((decodeL s).1=65533∧(decodeL s).2=1) then ([],0,6)
  else if (decodeL s).1=92 then (match qOM s with
   | none=>([],0,6)
   | some (c,n)=>jZ f (s.drop n) (at'+n) (out++encodeRune c))
  else jZ f (s.drop (decodeL s).2) (at'+(decodeL s).2) (out++encodeRune (decodeL s).1)
def zQ (s:List UInt8):List UInt8 × Nat × Int:=if s.head?=some 34 then jZ s.length (s.drop 1) 1 [] else ([],0,6)
theorem qOO {b:UInt8} {t:List UInt8} (h:b.toNat<128):decodeL (b::t)=(b.toNat,1):=by
 unfold decodeL
 rw [decode_at]
 have e:(⟨(b::t).toArray⟩:ByteArray).get! 0=b:=rfl
 rw [e]
 unfold decodeN
 rw [if_pos h]
theorem qTJ {b:UInt8} (h:b.toNat<128):encodeRune (b.toNat:Int)=[b]:=by
 simp only [encodeRune,encodeRuneZ_one (r:=(b.toNat:Int)) (by omega) (by omega),List.map_cons,List.map_nil]
 congr 1
 simp
theorem qAI (l:List UInt8):decodeL l=decodeN l.length (l.getD 0 0).toNat (l.getD 1 0).toNat (l.getD 2 0).toNat (l.getD 3 0).toNat:=by
 unfold decodeL
 rw [decode_at]
 have e:∀ k,(⟨l.toArray⟩:ByteArray).get! k=l.getD k 0:=by
  intro k
  show l.toArray[k]! = _
  simp [List.getD_eq_getElem?_getD]
  rfl
 simp only [e]
 rfl
theorem qEL (l:List UInt8) (hne:l≠[]):1≤(decodeL l).2:=by
 rw [qAI l]
 unfold decodeN
 repeat' split
 all_goals simp
theorem qSB (l:List UInt8) (hne:l≠[]) (hv:¬ ((decodeL l).1=65533∧(decodeL l).2=1)) (hb:128≤(l.getD 0 0).toNat):(∀ b∈l.take (decodeL l).2,128≤b.toNat)∧128≤(decodeL l).1:=by
 have hr:=qAI l
 have hle:=decodeL_le l hne
 have hlen:0<l.length:=by cases l with
  | nil=>exact absurd rfl hne
  | cons a l=>simp
 unfold decodeN at hr
 rw [if_neg (by omega)] at hr
 split at hr
 ·rename_i c
  split at hr
  ·rw [hr] at hv hle ⊢
   simp only at hle ⊢
   rw [takeB l (by omega)]
   refine ⟨fun b hb' => ?_,by omega⟩
   simp at hb'
   rcases hb' with h | h <;> (subst h; simp at hb c; omega)
  rw [hr] at hv; exact absurd ⟨rfl,rfl⟩ hv
 split at hr
 ·rename_i c
  split at hr
  ·rw [hr] at hv hle ⊢
   simp only at hle ⊢
   rw [takeC l (by omega)]
   refine ⟨fun b hb' => ?_,by omega⟩
   simp at hb'
   rcases hb' with h | h | h <;> (subst h; simp at hb c; omega)
  rw [hr] at hv; exact absurd ⟨rfl,rfl⟩ hv
 split at hr
 ·rename_i c
  split at hr
  ·rw [hr] at hv hle ⊢
   simp only at hle ⊢
   rw [takeD l (by omega)]
   refine ⟨fun b hb' => ?_,by omega⟩
   simp at hb'
   rcases hb' with h | h | h | h <;> (subst h; simp at hb c; omega)
  rw [hr] at hv; exact absurd ⟨rfl,rfl⟩ hv
 rw [hr] at hv; exact absurd ⟨rfl,rfl⟩ hv
theorem qRA {l:List UInt8} (h:∀ b∈l,128≤b.toNat):uI l=l:=by
 induction l with
 | nil=>rfl
 | cons b l ih =>
  have hb:=h b (by simp)
  have h1:qb b=[b]:=by
   unfold qb
   have ne:∀ c:UInt8,c.toNat<128→b≠c:=fun c hc e=>by subst e; omega
   rw [if_neg (by rintro (e | e) <;> exact ne _ (by decide) e),if_neg (ne _ (by decide)),if_neg (ne _ (by decide)),if_neg (ne _ (by decide)),if_neg]
   rintro (e | e)
   ·rw [UInt8.lt_iff_toNat_lt] at e
    simp at e; omega
   exact ne _ (by decide) e
  show qb b++uI l=_
  rw [h1,ih fun b hb=>h b (List.mem_cons_of_mem _ hb)]
  rfl
theorem qJO (a b:List UInt8):uI (a++b)=uI a++uI b:=by simp [uI]
def zJ (c:UInt8):List UInt8→List (List UInt8)
 | []=>[[]]
 | b::r=>if b=c then []::zJ c r else match zJ c r with
  | []=>[[b]]
  | h::t=>(b::h)::t
theorem qQV (c:UInt8):∀ s,zJ c s≠[]
 | []=>by simp [zJ]
 | b::r=>by
  simp only [zJ]
  split
  ·simp
  split <;> simp
theorem vR (c:UInt8):∀ s,(zJ c s).length=s.count c+1
 | []=>by simp [zJ]
 | b::r=>by
  have ih:=vR c r
  simp only [zJ]
  split
  ·rename_i h; subst h; simp [ih]
  rename_i h
  rw [List.count_cons_of_ne h,← ih]
  split
  ·rename_i h2; exact absurd h2 (qQV c r)
  rename_i h2; rw [h2]; simp
theorem qHZ {c:UInt8}:∀ {s},c ∉ s→zJ c s=[s]
 | [],_=>rfl
 | b::r,h=>by
  simp only [List.mem_cons,not_or] at h
  simp only [zJ,qHZ h.2]
  rw [if_neg (fun e=>h.1 e.symm)]
theorem qIA {c:UInt8}:∀ {a r:List UInt8},c ∉ a→zJ c (a++c::r)=a::zJ c r
 | [],r,_=>by simp [zJ]
 | b::a,r,h=>by
  simp only [List.mem_cons,not_or] at h
  simp only [List.cons_append,zJ]
  rw [if_neg (fun e=>h.1 e.symm),qIA h.2]
theorem qIO {c:UInt8}:∀ {a r:List UInt8},c ∉ a→Lib.indexByte (a++c::r) c=a.length
 | [],r,_=>by simp [Lib.indexByte]
 | b::a,r,h=>by
  simp only [List.mem_cons,not_or] at h
  have ih:=qIO (r:=r) h.2
  simp only [List.cons_append,Lib.indexByte]
  rw [if_neg (by intro e; exact h.1 (eq_of_beq e).symm),ih,List.length_cons,if_neg (by intro e; have:=eq_of_beq e; omega)]
  omega
theorem qRI {c:UInt8} {s:List UInt8} (h:c∈s):∃ a r,s=a++c::r∧c ∉ a:=by
 induction s with
 | nil=>cases h
 | cons b s ih =>
  by_cases e:b=c
  ·subst e; exact ⟨[],s,rfl,by simp⟩
  obtain ⟨a,r,rfl,hn⟩:=ih (by rcases List.mem_cons.1 h with h | h; exact absurd h.symm e; exact h)
  exact ⟨b::a,r,rfl,by simp only [List.mem_cons,not_or]; exact ⟨fun h=>e h.symm,hn⟩⟩
theorem qUL {c:UInt8} {a r:List UInt8} (h:c ∉ a):(a++c::r).count c=r.count c+1:=by
 rw [List.count_append,List.count_cons_self,List.count_eq_zero.2 h]; omega
theorem qCU {s:List UInt8} {pos:Nat} (h:pos<s.length):1≤(jV s pos).2:=Lib.decode_width_pos _ _ (by simpa [ByteArray.size] using h)
theorem qGU {s:List UInt8} {pos:Nat} (h:pos<s.length) (ha:(s.getD pos 0).toNat<128):jV s pos=((s.getD pos 0).toNat,1):=by
 have hs:pos<(⟨s.toArray⟩:ByteArray).size:=by simpa [ByteArray.size] using h
 have e:(⟨s.toArray⟩:ByteArray)[pos]'hs=s.getD pos 0:=by simp [List.getD_eq_getElem?_getD,h]; rfl
 unfold jV
 rw [decode_ascii _ _ hs (by rw [e]; exact ha),e]
theorem qUK {s:List UInt8} {pos:Nat} (h:pos<s.length) (ha:128≤(s.getD pos 0).toNat):128≤(jV s pos).1:=by
 have e:((⟨s.toArray⟩:ByteArray).get! (pos+0)).toNat=(s.getD pos 0).toNat:=by
  simp [ByteArray.get!,List.getD_eq_getElem?_getD,h]
 unfold jV Utf8.decode
 simp only [e]
 rw [if_neg (by omega)]
 split
 ·split
  ·simp only [ge_iff_le] at *; omega
  simp [Utf8.runeError]
 split
 ·split
  ·rename_i hc; simp only [ge_iff_le,Bool.and_eq_true,decide_eq_true_eq] at hc; omega
  simp [Utf8.runeError]
 split
 ·split
  ·rename_i hc; simp only [ge_iff_le,Bool.and_eq_true,decide_eq_true_eq] at hc; omega
  simp [Utf8.runeError]
 simp [Utf8.runeError]
def qGN (p:Int→Bool) (s:List UInt8):Nat→Nat→Int
 | 0,_ => -1
 | f+1,pos=>if pos<s.length then (if p (jV s pos).1 then (pos:Int) else qGN p s f (pos+(jV s pos).2)) else -1
def xZ (p:Int→Bool) (s:List UInt8):Int:=qGN p s (s.length+1) 0
theorem qIP (p:Int→Bool) (s:List UInt8):∀ (f g pos:Nat),s.length<pos+f→s.length<pos+g→qGN p s f pos=qGN p s g pos
 | 0,0,_,_,_=>rfl
 | 0,g+1,pos,h,_=>by simp only [qGN]; rw [if_neg (by omega)]
 | f+1,0,pos,_,h=>by simp only [qGN]; rw [if_neg (by omega)]
 | f+1,g+1,pos,hf,hg=>by
  simp only [qGN]
  by_cases h:pos<s.length
  ·rw [if_pos h,if_pos h]
   split
   ·rfl
   have:=qCU h
   exact qIP p s f g _ (by omega) (by omega)
  rw [if_neg h,if_neg h]
def uM (p:Int→Bool) (s:List UInt8) (pos:Nat):Int:=qGN p s (s.length+1-pos) pos
theorem qIQ {p:Int→Bool} {s:List UInt8} {pos:Nat} (h:¬ pos<s.length):uM p s pos = -1:=by
 unfold uM; cases hf:s.length+1-pos with
 | zero=>rfl
 | succ f=>simp only [qGN]; rw [if_neg h]
theorem qDJ {p:Int→Bool} {s:List UInt8} {pos:Nat} (h:pos<s.length) (hp:p (jV s pos).1=true):uM p s pos=pos:=by
 unfold uM; rw [show s.length+1-pos=(s.length-pos)+1 by omega]; simp only [qGN]; rw [if_pos h,if_pos hp]
theorem qGO {p:Int→Bool} {s:List UInt8} {pos:Nat} (h:pos<s.length) (hp:p (jV s pos).1=false):uM p s pos=uM p s (pos+(jV s pos).2):=by
 unfold uM; rw [show s.length+1-pos=(s.length-pos)+1 by omega]; simp only [qGN]
 have:=qCU h
 rw [if_pos h,if_neg (by simp [hp])]; exact qIP p s _ _ _ (by omega) (by omega)
theorem qIN (p:Int→Bool) (s:List UInt8):xZ p s=uM p s 0:=by simp [xZ,uM]
theorem qEG {p:Int→Bool} (hbig:∀ n:Int,128≤n→p n=true) (s:List UInt8):∀ (f pos:Nat),f=s.length-pos→pos≤s.length→uM p s pos=if (s.drop pos).all (fun b => !p b.toNat) then -1 else ((pos+((s.drop pos).takeWhile fun b => !p b.toNat).length:Nat):Int)
 | 0,pos,hf,hp=>by
  rw [qIQ (by omega),List.drop_eq_nil_of_le (by omega)]; simp
 | f+1,pos,hf,hp=>by
  have hlt:pos<s.length:=by omega
  have hd:s.drop pos=s.getD pos 0::s.drop (pos+1):=by
   rw [List.drop_eq_getElem_cons hlt]; congr 1; simp [List.getD_eq_getElem?_getD,hlt]
  rw [hd]
  have hda0:=fun h=>qGU (s:=s) (pos:=pos) hlt h
  have hdb0:=fun h=>qUK (s:=s) (pos:=pos) hlt h
  clear hd
  generalize s.getD pos 0=c at *
  by_cases ha:c.toNat<128
  ·have hda:=hda0 ha
   cases hpb:p ((c.toNat:Nat):Int) with
   | true=>rw [qDJ hlt (by rw [hda]; exact hpb)]; simp [hpb]
   | false =>
    rw [qGO hlt (by rw [hda]; exact hpb),hda,qEG hbig s f (pos+1) (by omega) (by omega)]
    simp only [List.all_cons,hpb,Bool.not_false,Bool.true_and,List.takeWhile_cons,if_true,List.length_cons]
    split <;> first | rfl | (congr 1; omega)
  have hb:=hdb0 (by omega)
  rw [qDJ hlt (hbig _ (by omega))]
  have:p ((c.toNat:Nat):Int)=true:=hbig _ (by omega)
  simp [this]
theorem qJZ {p:Int→Bool} (hbig:∀ n:Int,128≤n→p n=true) (s:List UInt8):xZ p s=if s.all (fun b => !p b.toNat) then -1 else (((s.takeWhile fun b => !p b.toNat).length:Nat):Int):=by
 rw [qIN,qEG hbig s _ 0 rfl (by omega)]; simp
set_option maxHeartbeats 4000000
theorem qJY (s:List UInt8) (g:FuncId) (p:Int→Bool) (hg:∀ n:Int,AFn Tryz.prog G g [.int .i32 n] (.bool (p n))):AFn Tryz.prog G 112 [.str s,.fn g,.bool true] (.int .i64 (xZ p s)):=by
 refine AFn.introU tok Tryz.func112 (by kernel_rfl) rfl rfl ?_
 simp only [Tryz.f112,qN,List.map_cons,List.map_nil]
 refine rgn [] [[0,1,2]] ?_
 refine op1 tok ?_
 refine qA (AW.seq (rgn [] [[],[1,2,10]] ?_))
 iterate 2 refine op1 tok ?_
 refine qA (AW.block ?_)
 refine AW.loop (α:=Nat) (fun pos=>uM p s pos=xZ p s) (fun pos=>⟨zO 21 [(1,.p (.fn g)),(2,.p (.bool true)),(10,.it 10)],[],[(10,.iter s pos)],0⟩) (fun pos=>s.length-pos) (0) (qIN p s).symm ⟨qD (by simp),rfl,by simp,by simp⟩ ?_
 rintro pos hi
 have hpos:pos<s.length→1≤(jV s pos).2:=qCU
 by_cases hs2:pos<s.length
 ·
  refine rgn [.bool true] [[],[]] ?_
  iterate 2 refine oq1 tok hs2 ?_
  refine qA (AW.seq (cnd ?_ ?_))
  ·intro h12
   try simp at h12
   refine AW.skip (AW.block (rgn [] [[],[],[],[1,2,7,8,10]] ?_))
   iterate 4 refine op1 tok ?_
   refine qA (rgn [.nilp,.bool (p (jV s pos).1)] [[],[],[],[],[1,2,7,10,19]] ?_)
   iterate 5 refine op1 tok ?_ (hv:=by first | with_reducible exact True.intro | (exact hg _; done) | omega | simp | (simp +contextual; omega))
   refine qA (cnd ?_ ?_)
   ·intro h19
    try simp at h19
    have hI:xZ p s=pos:=by rw [← hi,qDJ hs2 (by simpa using h19)]
    refine rgn [] [[],[6]] ?_
    iterate 2 refine op1 tok ?_
    refine qA ?_
    exact AW.ret (qR (k:=by simp [hI]))
   intro h19
   try simp at h19
   have hnx:uM p s (pos+(jV s pos).2)=xZ p s:=by rw [← qGO hs2 (by simpa using h19)]; exact hi
   refine AW.skip ?_
   exact ⟨pos+(jV s pos).2,hnx,by have:=hpos hs2; omega,qD (by simp),rfl,by simp,by simp⟩
  intro h12
  try simp at h12
 ·
  refine rgn [.bool false] [[],[]] ?_
  iterate 2 refine oq1 tok hs2 ?_
  refine qA (AW.seq (cnd ?_ ?_))
  ·intro h12
   try simp at h12
  intro h12
  try simp at h12
  refine AW.exit ?_
  simp
  refine rgn [] [[]] ?_
  refine op1 tok ?_
  refine qA ?_
  exact AW.ret (qR (k:=by simp [← hi,qIQ hs2]))
theorem qKP (s:List UInt8) (g:FuncId) (p:Int→Bool) (hg:∀ n:Int,AFn Tryz.prog G g [.int .i32 n] (.bool (p n))):AFn Tryz.prog G 89 [.str s,.fn g] (.int .i64 (xZ p s)):=by
 refine AFn.introU tok Tryz.func89 (by kernel_rfl) rfl rfl ?_
 simp only [Tryz.f89,qN,List.map_cons,List.map_nil]
 refine rgn [] [[0,1]] ?_
 refine op1 tok ?_
 refine qA (rgn [.nilp,.int .i64 (xZ p s)] [[],[],[7],[4]] ?_)
 iterate 4 refine op1 tok ?_ (hv:=by first | with_reducible exact True.intro | (exact qJY s g p hg; done) | omega | simp | (simp +contextual; omega))
 exact qA (AW.ret qR)
def vB (n:Int):Bool:=decide (48≤n) && decide (n≤57)
def qI (b:UInt8):Bool:=vB b.toNat
def vQ (D:List UInt8):Nat:=D.foldl (fun n c=>n * 10+(c.toNat-48)) 0
def zL (s:List UInt8) (i:Nat):Int:=((s.getD i 0).toNat:Int)
theorem qGY {s:List UInt8} {i:Nat} (h:i<s.length):s[i]?=some (s.getD i 0):=by simp [List.getD_eq_getElem?_getD,h]
def wK (s:List UInt8) (k:Nat):Nat:=((s.drop k).takeWhile fun b=>vB b.toNat).length
theorem qCG {p:UInt8→Bool}:∀ {l:List UInt8} {n:Nat},n≤(l.takeWhile p).length→((n<(l.takeWhile p).length)↔∃ b,l[n]?=some b∧p b=true)
 | [],n,h=>by simp at h; subst h; simp
 | a::l,n,h=>by
  rw [List.takeWhile_cons] at h ⊢
  by_cases ha:p a=true
  ·rw [if_pos ha] at h ⊢
   cases n with
   | zero=>simp [ha]
   | succ n=>simpa using qCG (l:=l) (n:=n) (by simpa using h)
  rw [if_neg ha] at h ⊢
  simp at h; subst h
  simp [ha]
theorem qWE {s:List UInt8} {k n:Nat} (h:n≤wK s k):n<wK s k↔(k+n<s.length∧vB (zL s (k+n))=true):=by
 unfold wK at h ⊢
 rw [qCG h]
 constructor
 ·rintro ⟨b,hb,hd⟩
  rw [List.getElem?_drop] at hb
  have:=(List.getElem?_eq_some_iff.1 hb).1
  refine ⟨this, ?_⟩
  rw [zL,List.getD_eq_getElem?_getD,hb]; exact hd
 rintro ⟨h1,h2⟩
 exact ⟨s.getD (k+n) 0,by rw [List.getElem?_drop]; exact qGY h1,h2⟩
def yD (n:Nat):List UInt8:=List.replicate n 48
def yF (s:List UInt8):List UInt8:=s.dropWhile (· == 48)
def xB (d:List UInt8):Nat→List UInt8 × Nat
 | 0=>(d,0)
 | k+1=>if d.getLast?=some 48 then xB d.dropLast k else (d,k+1)
def xL (neg:Bool) (digits:List UInt8) (scale:Nat):Dc × Int :=
 let x:=xB (yF digits) scale
 if x.1=[] then (⟨false,[48],0⟩,0) else if 60<x.1.length∨60<x.2 then (⟨false,[],0⟩,3) else (⟨neg,x.1,x.2⟩,0)
theorem qNB {d:List UInt8} (h:0<d.length):zL d (d.length-1)=48↔d.getLast?=some 48:=by
 rw [List.getLast?_eq_getElem?,zL,List.getD_eq_getElem?_getD,qGY (by omega)]
 simp only [Option.getD_some,Option.some.injEq]
 constructor
 ·intro h2; exact UInt8.toNat_inj.1 (by have:((d.getD (d.length-1) 0).toNat:Int)=48:=h2; show (d.getD (d.length-1) 0).toNat=48; omega)
 intro h2; rw [h2]; rfl
theorem qDB (d:List UInt8):d.take (d.length-1)=d.dropLast:=(List.dropLast_eq_take).symm
def xW (n:Int):Bool:=decide (n<48) || decide (57<n)
theorem qTH (n:Int):AFn Tryz.prog G 90 [.int .i32 n] (.bool (xW n)):=by
 refine AFn.introU tok Tryz.func90 (by kernel_rfl) rfl rfl ?_
 simp only [Tryz.f90,qN,List.map_cons,List.map_nil]
 refine rgn [] [[0]] ?_
 refine op1 tok ?_
 refine qA (rgn [] [[],[],[],[],[5,7],[],[2]] ?_)
 iterate 3 refine op1 tok ?_
 iterate 2 refine op2 tok ?_
 iterate 2 refine op1 tok ?_
 refine qA ?_
 exact AW.ret (qR (k:=by simp [xW]))
theorem qRE (b:UInt8):xW b.toNat = !qI b:=by
 rw [Bool.eq_iff_iff]; simp [xW,qI,vB]
def vM (d:Dc):Bool:=d.digits.all qI && decide (1≤d.digits.length∧d.digits.length≤60∧0≤d.scale∧d.scale≤60) &&
 (if d.digits=[48] then decide (d.scale=0) && !d.neg else decide (zL d.digits 0≠48) && (decide (d.scale=0) || decide (zL d.digits (d.digits.length-1)≠48)))
theorem qRW {d : Dc} (h : 1 ≤ d.digits.length ∧ d.digits.length ≤ 60 ∧ 0 ≤ d.scale ∧ d.scale ≤ 60) (ha : d.digits.all qI = true) :
  vM d=(if d.digits=[48] then decide (d.scale=0) && !d.neg else decide (zL d.digits 0≠48) && (decide (d.scale=0) || decide (zL d.digits (d.digits.length-1)≠48))):=by
 unfold vM; rw [ha,show decide (1≤d.digits.length∧d.digits.length≤60∧0≤d.scale∧d.scale≤60)=true by simpa using h]; simp
theorem qRN (b:UInt8):qI b=true↔48≤b.toNat∧b.toNat≤57:=by simp [qI,vB]; omega
def zBF:Nat:=1000000000
def okL (l:List Nat):Prop:=∀ x∈l,x<zBF
theorem qVA {s:List UInt8} (h:s.all qI=true) (n:Nat):(s.take n).all qI=true:=by
 rw [List.all_eq_true] at h ⊢; exact fun b hb=>h b (List.mem_of_mem_take hb)
end Go.Proofs.YtbhhphabggcacaaGreatDoor
namespace Go.Proofs.YtbhhphabggcacaaGreatDoor.Sy
open Go
section
variable {P:Program} {T:Tab} {G:qM} {Q:Exit→St→Prop} {st st':St}
theorem Turned.refl (w:World) (b:Nat):Turned w w b:=⟨rfl,rfl,rfl,rfl,fun _ _=>rfl⟩
theorem Rel.beginBox {c : Ctx} {M : qS} {μ : Mu} {st : St} {tmps : Array Value} {w : World} (r : Rel c M μ st tmps w) {id k j : Nat} {e : TypeId} {cells : List V} (hb : zT id st.H = some (.vars e cells)) (hj : cells[j]? = some .nilsl)
  (hf:st.fresh k=true) (e':TypeId) (sz:Nat):∃ μ',Rel c M μ' { st with H:=zV id (.vars e (cells.set j (.ms k))) ((k,.row e' sz [])::st.H) } tmps w:=by
 have hm:=zD hb
 have hk:qL id st.H=true:=qH.2 ⟨_,hm⟩
 have hne:id≠k:=by
  rintro rfl
  have:=(St.fresh_spec hf).2.2.2
  rw [hk] at this; cases this
 have r1:=r.adopt (l:=⟨none,.slice none 0 0⟩) hf (fun b hb=>by cases hb) (bx := .row e' sz []) (.rowN (by rw [qQ]) (by rw [qQ]))
 have hbx:=r1.box id _ (List.mem_cons_of_mem _ hm)
 cases hbx with
 | @vars _ _ b arr h0 hh hs ho hc =>
 refine ⟨_,r1.write (id:=id) (b:=b) (w':=w) (bx := .vars e (cells.set j (.ms k))) (by simp [qL,hk]) h0 (Turned.refl w b) (.vars h0 hh (by simpa using hs) ho fun i u x hu hx => ?_)⟩
 rw [List.getElem?_set] at hx
 split at hx
 ·rename_i hji
  subst hji
  split at hx
  ·cases hx
   have:=hc j u .nilsl hu hj
   cases this
   exact .ms (by rw [qQ]) rfl
  cases hx
 exact hc i u x hu hx
theorem AW.beginBox {c : Code} (id k j : Nat) (e' : TypeId) (sz : Nat) {e : TypeId} {cells : List V} (hb : zT id st.H = some (.vars e cells)) (hj : cells[j]? = some .nilsl) (hf : st.fresh k = true)
  (h:({ st with H:=zV id (.vars e (cells.set j (.ms k))) ((k,.row e' sz [])::st.H) }:St)=st') (k:AW P G c Q st'):AW P G c Q st:=fun x M μ tmps w hg r=>by
 obtain ⟨μ',r'⟩:=r.beginBox hb hj hf e' sz
 exact k x M μ' tmps w hg (h ▸ r')
theorem qE.beginBox {ops : Array Oper} {l : List Oper} {orc : List PD} (id k j : Nat) (e' : TypeId) (sz : Nat) {e : TypeId} {cells : List V} (hb : zT id st.H = some (.vars e cells)) (hj : cells[j]? = some .nilsl) (hf : st.fresh k = true)
  (h:({ st with H:=zV id (.vars e (cells.set j (.ms k))) ((k,.row e' sz [])::st.H) }:St)=st') (k:qE P G ops Q l st' orc):qE P G ops Q l st orc:=fun x M μ tmps w hg r=>by
 obtain ⟨μ',r'⟩:=r.beginBox hb hj hf e' sz
 exact k x M μ' tmps w hg (h ▸ r')
theorem AW.pinsTo {c:Code} (ps:List Nat) (hs:∀ i∈ps,i∈st.pins) (h:({ st with pins:=ps }:St)=st') (k:AW P G c Q st'):AW P G c Q st:=fun x M μ tmps w hg r =>
 k x M μ tmps w hg (h ▸ ⟨r.mem,r.ext,r.old,r.slots,fun i hi=>r.pins i (hs i hi),r.box,r.nodup,r.inj,r.own,r.size,r.below⟩)
end
end Go.Proofs.YtbhhphabggcacaaGreatDoor.Sy
namespace Go.Proofs.YtbhhphabggcacaaGreatDoor
open Sy Go
set_option maxRecDepth 100000
set_option linter.unusedSimpArgs false
set_option linter.unusedVariables false
variable {G:qM}
def zG (s p:List UInt8):Bool:=decide (p.length≤s.length) && decide (s.take p.length=p)
@[simp] theorem qVH (s p:List UInt8):AFn Tryz.prog G 61 [.str s,.str p] (.bool (zG s p)):=by
 refine AFn.intro tok Tryz.func61 (by kernel_rfl) rfl ?_
 simp only [Tryz.f61,St.start]
 refine AW.seqRun tok [] (by intro C; conv=>lhs; simp) trivial ?_
 refine AW.seqRun tok [] (by intro C; conv=>lhs; simp) (by simp +contextual) ?_
 exact AW.ret ⟨.inr rfl,_,_,by (conv=>lhs; simp),trivial,by simp [zG]⟩
@[simp] theorem qCX (s p:List UInt8):AFn Tryz.prog G 32 [.str s,.str p] (.bool (zG s p)):=by
 refine AFn.intro tok Tryz.func32 (by kernel_rfl) rfl ?_
 simp only [Tryz.f32,St.start]
 refine AW.seqRun tok [] (by intro C; conv=>lhs; simp) trivial ?_
 refine AW.seqRun tok [.tup [.str s,.str p],.bool (zG s p)] (by intro C; conv=>lhs; simp) (by simp) ?_
 exact AW.ret ⟨.inr rfl,_,_,by (conv=>lhs; simp),trivial,by simp⟩
def kU (s p:List UInt8):List UInt8:=if zG s p then s.drop p.length else s
@[simp] theorem qVI (s p:List UInt8):AFn Tryz.prog G 88 [.str s,.str p] (.tup [.str (kU s p),.bool (zG s p)]):=by
 refine AFn.intro tok Tryz.func88 (by kernel_rfl) rfl ?_
 simp only [Tryz.f88,St.start]
 refine AW.seqRun tok [] (by intro C; conv=>lhs; simp) trivial ?_
 refine AW.seq ?_
 refine AW.seqRun tok [.tup [.str s,.str p],.bool (zG s p)] (by intro C; conv=>lhs; simp) (by simp) ?_
 refine AW.cond (c := .tmp 9) (by conv=>lhs; simp) trivial ?_ ?_
 ·intro h1
  simp at h1
  refine AW.seqRun tok [] (by intro C; conv=>lhs; simp) trivial ?_
  exact AW.ret ⟨.inr rfl,_,_,by (conv=>lhs; simp),trivial,by simp [kU,h1]⟩
 intro h1
 simp at h1
 refine AW.skip ?_
 refine AW.seqRun tok [] (by intro C; conv=>lhs; simp) (by simp [zG] at h1 ⊢; omega) ?_
 exact AW.ret ⟨.inr rfl,_,_,by (conv=>lhs; simp),trivial,by simp [kU,h1]⟩
@[simp] theorem uE (s p:List UInt8):AFn Tryz.prog G 66 [.str s,.str p] (.tup [.str (kU s p),.bool (zG s p)]):=by
 refine AFn.intro tok Tryz.func66 (by kernel_rfl) rfl ?_
 simp only [Tryz.f66,St.start]
 refine AW.seqRun tok [] (by intro C; conv=>lhs; simp) trivial ?_
 refine AW.seqRun tok [.tup [.str s,.str p],.tup [.str (kU s p),.bool (zG s p)]] (by intro C; conv=>lhs; simp) (by simp) ?_
 exact AW.ret ⟨.inr rfl,_,_,by (conv=>lhs; simp),trivial,by simp⟩
theorem zBB:qQN Tryz.prog 84 Extern.BytealgIndexByte.indexByte:=fun args w=>run_callFunc_extern Tryz.func84 (by kernel_rfl) (by kernel_rfl) (by kernel_rfl) (by kernel_rfl) args w
@[simp] theorem qHI (s:List UInt8) (n:Int):AFn Tryz.prog G 60 [.str s,.int .u8 n] (.int .i64 (Lib.indexByte s n.toNat.toUInt8)):=by
 refine AFn.intro tok Tryz.func60 (by kernel_rfl) rfl ?_
 simp only [Tryz.f60,St.start]
 refine AW.seqRun tok [] (by intro C; conv=>lhs; simp) trivial ?_
 refine AW.seqRunX tok 2 [] [] rfl rfl (by intro C; conv=>lhs; simp) trivial (qKT (s:=s) (n:=n) (p:=True) (q:=True) (r:=True) zBB rfl (by simp) trivial (by simp) trivial (by simp) trivial) (by intro C; conv=>lhs; simp) trivial ?_
 exact AW.ret ⟨.inr rfl,_,_,by (conv=>lhs; simp),trivial,by simp⟩
@[simp] theorem jW (s:List UInt8) (n:Int):AFn Tryz.prog G 31 [.str s,.int .u8 n] (.int .i64 (Lib.indexByte s n.toNat.toUInt8)):=by
 refine AFn.intro tok Tryz.func31 (by kernel_rfl) rfl ?_
 simp only [Tryz.f31,St.start]
 refine AW.seqRun tok [] (by intro C; conv=>lhs; simp) trivial ?_
 refine AW.seqRun tok [.tup [.str s,.int .u8 n],.int .i64 (Lib.indexByte s n.toNat.toUInt8)] (by intro C; conv=>lhs; simp) (by simp) ?_
 exact AW.ret ⟨.inr rfl,_,_,by (conv=>lhs; simp),trivial,by simp⟩
def asF (cs:List UInt8) (i:Nat):Bool:=cs.any fun b=>b.toNat == i
theorem qUW (cs:List UInt8) (c:UInt8) (n:Nat):kB n (fun k=>decide (k=c.toNat) || asF cs k)=kB n (asF (cs++[c])):=qNU fun i _=>by
 by_cases h:i=c.toNat
 ·simp [asF,h]
 simp [asF,h,Ne.symm h]
def asS (cs:List UInt8) (a:Nat):St:=⟨[.p (.str cs),.dead,.ptr 2 0,.dead,.p (.int .i64 a)]++List.replicate 16 .dead,[],[(2,.vars 98 (qO (kB 256 (asF (cs.take a)))))],0⟩
theorem uJ (cs:List UInt8) (hcs:∀ b∈cs,b.toNat<128):AFn Tryz.prog G 57 [.str cs] (.tup [.agg (kB 256 (asF cs)),.bool true]):=by
 refine AFn.intro tok Tryz.func57 (by kernel_rfl) rfl ?_
 simp only [Tryz.f57,St.start]
 refine AW.strFact (i:=0) rfl ?_
 intro hlen
 refine AW.seqRun tok [] (by intro C; conv=>lhs; simp) (by simp) ?_
 refine AW.seq ?_
 refine AW.seqRun tok [] (by intro C; conv=>lhs; simp) trivial ?_
 refine AW.block ?_
 refine AW.loop (α:=Nat) (fun a=>a≤cs.length) (fun a=>asS cs a) (fun a=>cs.length-a) 0 (by omega) ⟨by simp [asS],rfl,by simp [asS,qTE]; rfl,by simp [asS]⟩ ?_
 intro a hI
 simp only [asS]
 refine AW.seq ?_
 refine AW.seqRun tok [] (by intro C; conv=>lhs; simp) trivial ?_
 refine AW.cond (c := .tmp 9) (by conv=>lhs; simp) trivial ?_ ?_
 ·intro h1
  simp at h1
  obtain ⟨c,hc⟩:∃ c,cs[a]?=some c:=⟨cs[a],by simp [h1]⟩
  have hclt:=hcs c (List.mem_of_getElem? hc)
  have hst:asF (cs.take (a+1))=asF (cs.take a++[c]):=by rw [List.take_add_one,hc]; rfl
  refine AW.skip (AW.seq (AW.block ?_))
  refine AW.seqRun tok [.int .u8 c.toNat] (by intro C; conv=>lhs; simp) (by simp [hc]) ?_
  refine AW.seq ?_
  refine AW.seqRun tok [] (by intro C; conv=>lhs; simp) trivial ?_
  refine AW.cond (c := .tmp 16) (by conv=>lhs; simp) trivial ?_ ?_
  ·intro h2
   simp at h2
   omega
  intro h2
  simp at h2
  refine AW.skip ?_
  refine AW.run tok [] (by intro C; conv=>lhs; simp) (by omega) ?_
  refine AW.run tok [] (by intro C; conv=>lhs; simp) (by omega) ?_
  exact ⟨a+1,by omega,by omega,by simp [asS],rfl,by simp [asS,hst]; exact congrArg qO (qUW _ _ _).symm,by simp [asS]⟩
 intro h1
 simp at h1
 have hall:cs.take a=cs:=List.take_of_length_le h1
 rw [hall]
 refine AW.exit ?_
 simp
 refine AW.seqRun tok [] (by intro C; conv=>lhs; simp) (by simp) ?_
 exact AW.ret ⟨.inr rfl,_,_,by (conv=>lhs; simp),by simp,by simp⟩
theorem qEM (F:Nat→Bool) (n:Int) (h0:0≤n) (h1:n<256):AX Tryz.prog G 82 [.ptr 5 0,.p (.int .u8 n)] [(5,.vars 98 (qO (kB 256 F)))] (.p (.bool (F n.toNat))) [5] [(5,.vars 98 (qO (kB 256 F)))]:=by
 refine AX.intro tok 2000 Tryz.func82 (by kernel_rfl) rfl ?_
 simp only [Tryz.f82,St.startX]
 refine AW.seqRun tok [] (by intro C; conv=>lhs; simp) trivial ?_
 refine AW.seqRun tok [.bool (F n.toNat)] (by intro C; conv=>lhs; simp) (by simp [qLO (show n.toNat<256 by omega)]; omega) ?_
 exact AW.ret ⟨.inr rfl,_,_,by (conv=>lhs; simp),trivial,by simp,by simp,by simp,by simp⟩
def xA (F:Nat→Bool) (s:List UInt8):List UInt8:=s.dropWhile fun b=>F b.toNat
def qBC (F:Nat→Bool) (s:List UInt8):List UInt8:=(s.reverse.dropWhile fun b=>F b.toNat).reverse
def tlS (r:List UInt8) (F:Nat→Bool):St:=⟨[.p (.str r),.ptr 5 0]++List.replicate 14 .dead,[5],[(5,.vars 98 (qO (kB 256 F)))],1000⟩
theorem vF (F:Nat→Bool) (s:List UInt8):AX Tryz.prog G 58 [.p (.str s),.ptr 5 0] [(5,.vars 98 (qO (kB 256 F)))] (.p (.str (xA F s))) [5] [(5,.vars 98 (qO (kB 256 F)))]:=by
 refine AX.intro tok 1000 Tryz.func58 (by kernel_rfl) rfl ?_
 simp only [Tryz.f58,St.startX]
 refine AW.seqRun tok [] (by intro C; conv=>lhs; simp) trivial ?_
 refine AW.seq (AW.block ?_)
 refine AW.loop (α:=List UInt8) (fun r=>xA F r=xA F s) (fun r=>tlS r F) (fun r=>r.length) s rfl ⟨by simp [tlS],rfl,by simp [tlS],by simp [tlS]⟩ ?_
 intro r hI
 simp only [tlS]
 refine AW.seq ?_
 refine AW.seqRun tok [] (by intro C; conv=>lhs; simp) trivial ?_
 refine AW.cond (c := .tmp 7) (by conv=>lhs; simp) trivial ?_ ?_
 ·intro h1
  simp at h1
  obtain ⟨b,r,rfl⟩:∃ b r',r=b::r':=by
   cases r with
   | nil=>simp at h1
   | cons b r=>exact ⟨b,r,rfl⟩
  have hb:b.toNat<256:=b.toNat_lt
  refine AW.skip (AW.block (AW.seq ?_))
  refine AW.seqRunX tok 3 [.int .u8 b.toNat] [] rfl rfl (by intro C; conv=>lhs; simp) (by simp) (qK rfl (qEM F b.toNat (by omega) (by omega)) (by simp)) (by intro C; conv=>lhs; simp) trivial ?_
  refine AW.cond (c := .tmp 12) (by conv=>lhs; simp) trivial ?_ ?_
  ·intro h2
   simp at h2
   refine AW.exit ?_
   simp
   refine AW.seqRun tok [] (by intro C; conv=>lhs; simp) trivial ?_
   exact AW.ret ⟨.inr rfl,_,_,by (conv=>lhs; simp),trivial,by rw [← hI]; simp [xA,h2],by simp,by simp,by simp⟩
  intro h2
  simp at h2
  refine AW.skip ?_
  refine AW.run tok [] (by intro C; conv=>lhs; simp) (by omega) ?_
  exact ⟨r,by rw [← hI]; simp [xA,h2],by simp,by simp [tlS],rfl,by simp [tlS],by simp [tlS]⟩
 intro h1
 simp at h1
 subst h1
 refine AW.exit ?_
 simp
 refine AW.seqRun tok [] (by intro C; conv=>lhs; simp) trivial ?_
 exact AW.ret ⟨.inr rfl,_,_,by (conv=>lhs; simp),trivial,by rw [← hI]; simp [xA],by simp,by simp,by simp⟩
theorem qCD (F:Nat→Bool) (s:List UInt8):AX Tryz.prog G 110 [.p (.str s),.ptr 5 0] [(5,.vars 98 (qO (kB 256 F)))] (.p (.str (qBC F s))) [5] [(5,.vars 98 (qO (kB 256 F)))]:=by
 refine AX.intro tok 1000 Tryz.func110 (by kernel_rfl) rfl ?_
 simp only [Tryz.f110,St.startX]
 refine AW.strFact (i:=0) rfl ?_
 intro hlen
 refine AW.seqRun tok [] (by intro C; conv=>lhs; simp) trivial ?_
 refine AW.seq (AW.block ?_)
 refine AW.loop (α:=List UInt8) (fun r=>qBC F r=qBC F s∧r.length≤s.length) (fun r=>⟨[.p (.str r),.ptr 5 0]++List.replicate 20 .dead,[5],[(5,.vars 98 (qO (kB 256 F)))],1000⟩) (fun r=>r.length) s ⟨rfl,Nat.le_refl _⟩ ⟨by simp,rfl,by simp,by simp⟩ ?_
 rintro r ⟨hI,hrl⟩
 refine AW.seq ?_
 refine AW.seqRun tok [] (by intro C; conv=>lhs; simp) trivial ?_
 refine AW.cond (c := .tmp 7) (by conv=>lhs; simp) trivial ?_ ?_
 ·intro h1
  simp at h1
  obtain ⟨r,b,rfl⟩:∃ r' b,r=r'++[b]:=⟨r.dropLast,r.getLast (by rintro rfl; simp at h1),(List.dropLast_concat_getLast _).symm⟩
  have hb:b.toNat<256:=b.toNat_lt
  simp at hrl
  refine AW.skip (AW.block (AW.seq ?_))
  refine AW.seqRunX tok 6 [.int .u8 b.toNat] [] rfl rfl (by intro C; conv=>lhs; simp) (by omega) (qK rfl (qEM F b.toNat (by omega) (by omega)) (by simp)) (by intro C; conv=>lhs; simp) trivial ?_
  refine AW.cond (c := .tmp 15) (by conv=>lhs; simp) trivial ?_ ?_
  ·intro h2
   simp at h2
   refine AW.exit ?_
   simp
   refine AW.seqRun tok [] (by intro C; conv=>lhs; simp) trivial ?_
   exact AW.ret ⟨.inr rfl,_,_,by (conv=>lhs; simp),trivial,by rw [← hI]; simp [qBC,h2],by simp,by simp,by simp⟩
  intro h2
  simp at h2
  refine AW.skip ?_
  refine AW.run tok [] (by intro C; conv=>lhs; simp) (by omega) ?_
  exact ⟨r,⟨by rw [← hI]; simp [qBC,h2],by omega⟩,by simp,by simp,rfl,by simp,by simp⟩
 intro h1
 simp at h1
 subst h1
 refine AW.exit ?_
 simp
 refine AW.seqRun tok [] (by intro C; conv=>lhs; simp) trivial ?_
 exact AW.ret ⟨.inr rfl,_,_,by (conv=>lhs; simp),trivial,by rw [← hI]; simp [qBC],by simp,by simp,by simp⟩
def qFJ (s cs:List UInt8):List UInt8:=xA (asF cs) (qBC (asF cs) s)
theorem qXO (s cs:List UInt8) (h2:2≤cs.length) (hcs:∀ b∈cs,b.toNat<128):AFn Tryz.prog G 87 [.str s,.str cs] (.str (qFJ s cs)):=by
 refine AFn.intro tok Tryz.func87 (by kernel_rfl) rfl ?_
 simp only [Tryz.f87,St.start]
 have hne:cs≠[]:=by rintro rfl; simp at h2
 refine AW.seqRun tok [] (by intro C; conv=>lhs; simp) trivial ?_
 refine AW.seq ?_
 refine AW.seqRun tok [] (by intro C; conv=>lhs; simp) (by simp +contextual) ?_
 refine AW.cond (c := .tmp 12) (by conv=>lhs; simp) trivial ?_ ?_
 ·intro h3
  simp [hne] at h3
  subst h3
  refine AW.seqRun tok [] (by intro C; conv=>lhs; simp) trivial ?_
  exact AW.ret ⟨.inr rfl,_,_,by (conv=>lhs; simp),trivial,by simp [qFJ,xA,qBC]⟩
 intro h3
 simp [hne] at h3
 refine AW.skip (AW.seq ?_)
 refine AW.seqRun tok [.int .u8 0] (by intro C; conv=>lhs; simp) (by simp +contextual; omega) ?_
 refine AW.cond (c := .tmp 21) (by conv=>lhs; simp) trivial ?_ ?_
 ·intro h4
  simp at h4
  omega
 intro h4
 refine AW.skip (AW.seq ?_)
 refine AW.seqRun tok [.tup [.str cs],.tup [.agg (kB 256 (asF cs)),.bool true]] (by intro C; conv=>lhs; simp) (by simp [uJ cs hcs]) ?_
 refine AW.seqRun tok [] (by intro C; conv=>lhs; simp) trivial ?_
 refine AW.cond (c := .tmp 34) (by conv=>lhs; simp) trivial ?_ ?_
 ·intro _
  refine AW.seq (AW.region (qT.pref tok 1 [] (by intro C; conv=>lhs; simp) trivial ?_))
  simp only [List.drop_succ_cons,List.drop_zero]
  refine qT.step rfl (qK rfl (qCD (asF cs) s) (by simp)) ?_
  refine qT.step rfl (qK rfl (vF (asF cs) (qBC (asF cs) s)) (by simp)) ?_
  refine qT.all tok [] (by intro C; conv=>lhs; simp) trivial ?_
  exact AW.ret ⟨.inr rfl,_,_,by (conv=>lhs; simp),trivial,by simp [qFJ]⟩
 intro h; simp at h
set_option maxHeartbeats 4000000
theorem vK {s:List UInt8} {k:Nat} (h:k<s.length):s[k]?=some (s.getD k 0):=by simp [List.getD_eq_getElem?_getD,h]
theorem qEN (s:List UInt8) (c:UInt8):AFn Tryz.prog G 56 [.str s,.int .u8 c.toNat] (.str (s.dropWhile (fun b=>b == c))):=by
 refine AFn.introU tok Tryz.func56 (by kernel_rfl) rfl rfl ?_
 simp only [Tryz.f56,qN,List.map_cons,List.map_nil]
 refine rgn [] [[0,1]] ?_
 refine op1 tok ?_
 refine qA (AW.seq (AW.block ?_))
 refine AW.loop (α:=List UInt8) (fun r=>r.dropWhile (fun b=>b == c)=s.dropWhile (fun b=>b == c)) (fun r=>⟨zO 17 [(0,.p (.str r)),(1,.p (.int .u8 c.toNat))],[],[],0⟩) (fun r=>r.length) (s) rfl ⟨qD (by simp),rfl,by simp,by simp⟩ ?_
 rintro r hr
 have hix:0<r.length→r[0]?=some (r.getD 0 0):=fun h=>vK h
 refine AW.seq (rgn [.int .u8 (r.getD 0 0).toNat] [[],[],[],[],[],[0,1,8,10],[],[],[0,1,13]] ?_)
 iterate 4 refine op1 tok ?_ (hv:=by first | with_reducible exact True.intro | (first | exact fun h=>⟨h,_,hix (by omega),rfl⟩ | simp; done) | omega | simp | (simp +contextual; omega))
 iterate 4 refine op2 tok ?_ (hv:=by first | with_reducible exact True.intro | (first | exact fun h=>⟨h,_,hix (by omega),rfl⟩ | simp; done) | omega | simp | (simp +contextual; omega))
 refine op1 tok ?_ (hv:=by first | with_reducible exact True.intro | (first | exact fun h=>⟨h,_,hix (by omega),rfl⟩ | simp; done) | omega | simp | (simp +contextual; omega))
 refine qA (cnd ?_ ?_)
 ·intro h13
  try simp at h13
  obtain ⟨b,r,rfl⟩:∃ b r',r=b::r':=by
   cases r with
   | nil=>simp at h13
   | cons b r=>exact ⟨b,r,rfl⟩
  have hb:b=c:=UInt8.toNat_inj.1 (by have:=h13.2; simp at this; omega)
  subst hb
  have hr2:List.dropWhile (fun b'=>b' == b) r=List.dropWhile (fun b'=>b' == b) s:=by rw [← hr]; simp
  refine AW.skip (AW.block (rgz [] [[],[],[0,1]] ?_))
  iterate 3 refine op1 tok ?_
  refine qA ?_
  exact ⟨r,hr2,by simp,qD (by simp),rfl,by simp,by simp⟩
 intro h13
 try simp at h13
 have hr3:s.dropWhile (fun b=>b == c)=r:=by
  rw [← hr]
  cases r with
  | nil=>rfl
  | cons b r =>
   have hb:b≠c:=by rintro rfl; simp at h13
   simp [hb]
 rw [hr3]
 refine AW.exit ?_
 simp
 refine rgn [] [[],[4]] ?_
 iterate 2 refine op1 tok ?_
 exact qA (AW.ret qR)
theorem qLF (s:List UInt8) (c:UInt8):(decide (1≤(s.length:Int)) && decide (List.drop (s.length-1) s=[c]))=decide (s.getLast?=some c):=by
 by_cases h:s=[]
 ·subst h; simp
 obtain ⟨a,b,rfl⟩:∃ a b,s=a++[b]:=⟨s.dropLast,s.getLast h,(List.dropLast_concat_getLast h).symm⟩
 rw [Bool.eq_iff_iff]
 simp
 intro _; omega
theorem qHJ (s:List UInt8) (c:UInt8):AFn Tryz.prog G 115 [.str s,.str [c]] (.bool (decide (s.getLast?=some c))):=by
 refine AFn.introU tok Tryz.func115 (by kernel_rfl) rfl rfl ?_
 simp only [Tryz.f115,qN,List.map_cons,List.map_nil]
 refine AW.strFactU (i:=0) rfl (by decide) ?_
 intro hlen
 have hsuf:(decide (1≤(s.length:Int)) && decide (List.drop (s.length-1) s=[c]))=decide (s.getLast?=some c):=qLF s c
 refine rgn [] [[0,1]] ?_
 refine op1 tok ?_
 refine qA (rgn [] [[],[],[],[],[0,1,9],[],[],[],[],[],[1,10,11,13,15],[],[1,10,17],[],[],[20],[4]] ?_)
 iterate 6 refine op1 tok ?_
 iterate 9 refine op2 tok ?_
 iterate 2 refine op1 tok ?_
 refine qA ?_
 exact AW.ret (qR (k:=by simp [hsuf]))
theorem qKQ (s:List UInt8) (c:UInt8):AFn Tryz.prog G 92 [.str s,.str [c]] (.bool (decide (s.getLast?=some c))):=by
 refine AFn.introU tok Tryz.func92 (by kernel_rfl) rfl rfl ?_
 simp only [Tryz.f92,qN,List.map_cons,List.map_nil]
 refine rgn [] [[0,1]] ?_
 refine op1 tok ?_
 refine qA (rgn [.nilp,.bool (decide (s.getLast?=some c))] [[],[],[7],[4]] ?_)
 iterate 4 refine op1 tok ?_ (hv:=by first | with_reducible exact True.intro | (exact qHJ s c; done) | omega | simp | (simp +contextual; omega))
 exact qA (AW.ret qR)
theorem qKO (s:List UInt8) (c:UInt8) (hc:c.toNat<128):AFn Tryz.prog G 30 [.str s,.str [c]] (.str (s.dropWhile (fun b=>b == c))):=by
 refine AFn.introU tok Tryz.func30 (by kernel_rfl) rfl rfl ?_
 simp only [Tryz.f30,qN,List.map_cons,List.map_nil]
 refine rgn [] [[0,1]] ?_
 refine op1 tok ?_
 refine qA (AW.seq (rgn [] [[],[],[],[],[],[0,1,12]] ?_))
 iterate 3 refine op1 tok ?_
 iterate 2 refine op2 tok ?_
 refine op1 tok ?_
 refine qA (cnd ?_ ?_)
 ·intro h12
  try simp at h12
  subst h12
  refine rgn [] [[],[4]] ?_
  iterate 2 refine op1 tok ?_
  exact qA (AW.ret qR)
 intro h12
 try simp at h12
 refine AW.skip (AW.seq (rgn [.int .u8 c.toNat] [[],[],[],[],[],[0,1,17,19],[],[0,1,21]] ?_))
 iterate 4 refine op1 tok ?_ (hv:=by first | with_reducible exact True.intro | (simp; done) | omega | simp | (simp +contextual; omega))
 iterate 3 refine op2 tok ?_ (hv:=by first | with_reducible exact True.intro | (simp; done) | omega | simp | (simp +contextual; omega))
 refine op1 tok ?_ (hv:=by first | with_reducible exact True.intro | (simp; done) | omega | simp | (simp +contextual; omega))
 refine qA (cnd ?_ ?_)
 ·intro h21
  try simp at h21
  refine rgn [.int .u8 c.toNat,.nilp,.str (s.dropWhile (fun b=>b == c))] [[],[],[],[25],[4]] ?_
  iterate 5 refine op1 tok ?_ (hv:=by first | with_reducible exact True.intro | (first | exact qEN s c | simp; done) | omega | simp | (simp +contextual; omega))
  exact qA (AW.ret qR)
 intro h21
 try simp at h21
 omega
theorem qND (s cs:List UInt8) (h2:2≤cs.length) (hcs:∀ b∈cs,b.toNat<128):AFn Tryz.prog G 30 [.str s,.str cs] (.str (xA (asF cs) s)):=by
 refine AFn.introU tok Tryz.func30 (by kernel_rfl) rfl rfl ?_
 simp only [Tryz.f30,qN,List.map_cons,List.map_nil]
 have hne:cs≠[]:=by rintro rfl; simp at h2
 have hmk:=uJ (G:=G) cs hcs
 refine rgn [] [[0,1]] ?_
 refine op1 tok ?_
 refine qA (AW.seq (rgn [] [[],[],[],[],[],[0,1,12]] ?_))
 iterate 3 refine op1 tok ?_
 iterate 2 refine op2 tok ?_
 refine op1 tok ?_
 refine qA (cnd ?_ ?_)
 ·intro h12
  try simp at h12
  simp [hne] at h12
  subst h12
  refine rgn [] [[],[4]] ?_
  iterate 2 refine op1 tok ?_
  refine qA ?_
  exact AW.ret (qR (k:=by simp [xA]))
 intro h12
 try simp at h12
 refine AW.skip (AW.seq (rgn [.int .u8 0] [[],[],[],[],[],[0,1,17,19],[],[0,1,21]] ?_))
 iterate 4 refine op1 tok ?_
 iterate 3 refine op2 tok ?_
 refine op1 tok ?_
 refine qA (cnd ?_ ?_)
 ·intro h21
  try simp at h21
  omega
 intro h21
 try simp at h21
 refine AW.skip (AW.seq (rgn [.nilp,.tup [.agg (kB 256 (asF cs)),.bool true]] [[],[],[],[],[],[],[0,1,5,30],[0,1,5,6]] ?_))
 iterate 8 refine oq1 tok hmk ?_
 refine qA (rgn [] [[0,1,5,31]] ?_)
 refine op1 tok ?_
 refine qA (cnd ?_ ?_)
 ·intro h31
  try simp at h31
  refine rgn [] [[]] ?_
  refine op1 tok ?_
  refine qF ?_
  refine qE.stepK [33] (qK rfl (vF (asF cs) s) (by simp)) (by conv=>lhs; simp) rfl ?_
  refine qE.run [[4]] ?_
  refine op1 tok ?_
  exact qA (AW.ret qR)
 intro h31
 try simp at h31
def qTK (s:List UInt8):Bool:=decide (0<s.length) && decide (zL s 0=45)
def qLT (s:List UInt8) (k:Nat) (digits:List UInt8):Option (Nat × List UInt8 × Nat) :=
 if k<s.length∧zL s k=46 then (if wK s (k+1)=0 then none else some (k+1+wK s (k+1),digits++(s.take (k+1+wK s (k+1))).drop (k+1),wK s (k+1))) else some (k,digits,0)
def upM (s:List UInt8) (k:Nat):Nat→Int
 | 0=>0
 | i+1=>10 * upM s k i+(zL s (k+i)-48)
def xC (s:List UInt8) (k:Nat):Nat:=if k<s.length∧(zL s k=45∨zL s k=43) then k+1 else k
def qPR (s:List UInt8) (k:Nat):Option (Nat × Int) :=
 if k<s.length∧(zL s k=101∨zL s k=69) then
  (if wK s (xC s (k+1))<1∨2<wK s (xC s (k+1)) then none
   else some (xC s (k+1)+wK s (xC s (k+1)),if k+1<s.length∧zL s (k+1)=45 then-upM s (xC s (k+1)) (wK s (xC s (k+1))) else upM s (xC s (k+1)) (wK s (xC s (k+1)))))
 else some (k,0)
def jD:Dc × Int:=(⟨false,[],0⟩,4)
def uK (neg:Bool) (digits:List UInt8) (sc:Int):Dc × Int:=if sc<0 then xL neg (digits++yD (-sc).toNat) 0 else xL neg digits sc.toNat
def qBD (s:List UInt8) (neg:Bool) (digits:List UInt8) (scale:Nat):Option (Nat × Int)→Dc × Int
 | none=>jD
 | some (k,up)=>if k=s.length then uK neg digits (scale-up) else jD
def qHY (s:List UInt8) (neg:Bool):Option (Nat × List UInt8 × Nat)→Dc × Int
 | none=>jD
 | some (k,digits,scale)=>qBD s neg digits scale (qPR s k)
def a0M (s:List UInt8):Nat:=if qTK s=true then 1 else 0
def qHD (s:List UInt8):Dc × Int :=
 if wK s (a0M s)=0∨(1<wK s (a0M s)∧zL s (a0M s)=48) then jD
 else qHY s (qTK s) (qLT s (a0M s+wK s (a0M s)) ((s.take (a0M s+wK s (a0M s))).drop (a0M s)))
theorem qPO (s:List UInt8) (k:Nat) (h:k≤s.length):k+wK s k≤s.length:=by
 unfold wK
 have:=(List.takeWhile_sublist (l:=s.drop k) fun b:UInt8=>vB b.toNat).length_le
 simp at this; omega
theorem qNS {s:List UInt8} {k i:Nat} (h:i<wK s k):k+i<s.length∧48≤zL s (k+i)∧zL s (k+i)≤57:=by
 have:=(qWE (Nat.le_of_lt h)).1 h
 simpa [vB] using this
def uW (d:Dc):List UInt8:=yD (d.scale.toNat+1-d.digits.length)++d.digits
def qHC (d:Dc):List UInt8:=(if d.neg=true then [45] else [])++(if d.scale=0 then uW d else (uW d).take ((uW d).length-d.scale.toNat)++46::(uW d).drop ((uW d).length-d.scale.toNat))
theorem xS {s:List UInt8} {k:Nat} {b:UInt8} {t:List UInt8} (h:s.drop k=b::t):k<s.length∧zL s k=b.toNat:=by
 have h1:k<s.length:=by
  rcases Nat.lt_or_ge k s.length with h1 | h1
  ·exact h1
  rw [List.drop_eq_nil_of_le h1] at h; cases h
 refine ⟨h1, ?_⟩
 have:s[k]?=some b:=by
  have:=congrArg (fun l=>l[0]?) h
  simpa using this
 simp [zL,List.getD_eq_getElem?_getD,this]
def wF (t:List UInt8):List UInt8:=if t.head?=some 45∨t.head?=some 43 then t.drop 1 else t
def vX (s:List UInt8):Option Int:=match s with
 | []=>some 0
 | b::t=>if b≠101∧b≠69 then none
  else if (wF t).dropWhile qI≠[]∨((wF t).takeWhile qI).length<1∨2<((wF t).takeWhile qI).length then none
  else some (if t.head?=some 45 then-(vQ ((wF t).takeWhile qI):Int) else vQ ((wF t).takeWhile qI))
def qOC (s:List UInt8):Bool:=decide (s.head?=some 45)
def xT (s:List UInt8):List UInt8:=if s.head?=some 45 then s.drop 1 else s
def uO (r:List UInt8):Option (List UInt8 × List UInt8) :=
 if r.head?=some 46 then (if (r.drop 1).takeWhile qI=[] then none else some ((r.drop 1).takeWhile qI,(r.drop 1).dropWhile qI)) else some ([],r)
def qMT (neg:Bool) (W P:List UInt8):Option Int→Dc × Int
 | none=>jD
 | some up=>if W=[]∨(1<W.length∧W.head?=some 48) then jD else uK neg (W++P) (P.length-up)
def jQ (s:List UInt8):Dc × Int:=match uO ((xT s).dropWhile qI) with
 | none=>jD
 | some (P,r)=>qMT (qOC s) ((xT s).takeWhile qI) P (vX r)
theorem qZT {W F:List UInt8} (hW:W.all qI=true) (hF:∀ b,F.head?=some b→qI b=false):(W++F).takeWhile qI=W∧(W++F).dropWhile qI=F:=by
 induction W with
 | nil =>
  cases F with
  | nil=>exact ⟨rfl,rfl⟩
  | cons b F=>have:=hF b rfl; simp [List.takeWhile_cons,List.dropWhile_cons,this]
 | cons b W ih =>
  simp only [List.all_cons,Bool.and_eq_true] at hW
  obtain ⟨h1,h2⟩:=ih hW.2
  simp [List.takeWhile_cons,List.dropWhile_cons,hW.1,h1,h2]
end Go.Proofs.YtbhhphabggcacaaGreatDoor
namespace Go.Proofs
open Go.Shelf
def Tryz.lays197_ren:Go.Shelf.Ren:=⟨fun | 197=>62 | 260=>85 | n=>n,fun | 9=>9 | 21=>21 | 3=>3 | 4=>4 | 5=>5 | 105=>103 | 119=>142 | 0=>0 | 46=>94 | 139=>145 | 138=>144 | n=>n,fun | 3=>1 | 4=>2 | n=>n⟩
theorem Tryz.lays197:Go.Proofs.Lays.n197 Tryz.prog Tryz.lays197_ren:={
 mixed:=by kernel_rfl
 f197:=Tryz.func62.trans (congrArg some (by kernel_rfl))
 f260:=Tryz.func85.trans (congrArg some (by kernel_rfl))
 t0:=Tryz.underlying0
 a0:=Tryz.isAgg0
 z0:=Tryz.sizeOf0
 v0:=Tryz.zeroValue0
 t3:=Tryz.underlying3
 a3:=Tryz.isAgg3
 z3:=Tryz.sizeOf3
 v3:=Tryz.zeroValue3
 t4:=Tryz.underlying4
 a4:=Tryz.isAgg4
 z4:=Tryz.sizeOf4
 v4:=Tryz.zeroValue4
 t5:=Tryz.underlying5
 a5:=Tryz.isAgg5
 z5:=Tryz.sizeOf5
 v5:=Tryz.zeroValue5
 t9:=Tryz.underlying9
 a9:=Tryz.isAgg9
 z9:=Tryz.sizeOf9
 v9:=Tryz.zeroValue9
 t21:=Tryz.underlying21
 a21:=Tryz.isAgg21
 z21:=Tryz.sizeOf21
 v21:=Tryz.zeroValue21
 t46:=Tryz.underlying94
 a46:=Tryz.isAgg94
 z46:=Tryz.sizeOf94
 v46:=Tryz.zeroValue94
 t105:=Tryz.underlying103
 a105:=Tryz.isAgg103
 z105:=Tryz.sizeOf103
 v105:=Tryz.zeroValue103
 t119:=Tryz.underlying142
 a119:=Tryz.isAgg142
 z119:=Tryz.sizeOf142
 t138:=Tryz.underlying144
 a138:=Tryz.isAgg144
 z138:=Tryz.sizeOf144
 v138:=Tryz.zeroValue144
 t139:=Tryz.underlying145
 a139:=Tryz.isAgg145
 z139:=Tryz.sizeOf145
 v139:=Tryz.zeroValue145
 g3:=by kernel_rfl
 g4:=by kernel_rfl }
def Tryz.lays105_ren:Go.Shelf.Ren:=⟨fun | 105=>69 | 212=>91 | 99=>32 | 165=>49 | 166=>50 | 170=>63 | 169=>51 | 263=>113 | 264=>114 | 206=>61 | 240=>77 | 241=>78 | 276=>98 | 277=>99 | n=>n,fun | 9=>9 | 3=>3 | 4=>4 | 20=>20 | 0=>0 | 46=>94 | 109=>127 | 5=>5 | 72=>85 | 76=>89 | 51=>133 | 146=>147 | 53=>136 | 148=>149 | 70=>82 | 37=>83 | 75=>88 | 127=>117 | 164=>130 | 80=>91 | n=>n,fun | n=>n⟩
theorem Tryz.lays105:Go.Proofs.Lays.n105 Tryz.prog Tryz.lays105_ren:={
 mixed:=by kernel_rfl
 f99:=Tryz.func32.trans (congrArg some (by kernel_rfl))
 f105:=Tryz.func69.trans (congrArg some (by kernel_rfl))
 f165:=Tryz.func49.trans (congrArg some (by kernel_rfl))
 f166:=Tryz.func50.trans (congrArg some (by kernel_rfl))
 f169:=Tryz.func51.trans (congrArg some (by kernel_rfl))
 f170:=Tryz.func63.trans (congrArg some (by kernel_rfl))
 f206:=Tryz.func61.trans (congrArg some (by kernel_rfl))
 f212:=Tryz.func91.trans (congrArg some (by kernel_rfl))
 f240:=Tryz.func77.trans (congrArg some (by kernel_rfl))
 f241:=Tryz.func78.trans (congrArg some (by kernel_rfl))
 f263:=Tryz.func113.trans (congrArg some (by kernel_rfl))
 f264:=Tryz.func114.trans (congrArg some (by kernel_rfl))
 f276:=Tryz.func98.trans (congrArg some (by kernel_rfl))
 f277:=Tryz.func99.trans (congrArg some (by kernel_rfl))
 t0:=Tryz.underlying0
 a0:=Tryz.isAgg0
 z0:=Tryz.sizeOf0
 v0:=Tryz.zeroValue0
 t3:=Tryz.underlying3
 a3:=Tryz.isAgg3
 z3:=Tryz.sizeOf3
 v3:=Tryz.zeroValue3
 t4:=Tryz.underlying4
 a4:=Tryz.isAgg4
 z4:=Tryz.sizeOf4
 v4:=Tryz.zeroValue4
 t5:=Tryz.underlying5
 a5:=Tryz.isAgg5
 z5:=Tryz.sizeOf5
 v5:=Tryz.zeroValue5
 t9:=Tryz.underlying9
 a9:=Tryz.isAgg9
 z9:=Tryz.sizeOf9
 v9:=Tryz.zeroValue9
 t20:=Tryz.underlying20
 a20:=Tryz.isAgg20
 z20:=Tryz.sizeOf20
 v20:=Tryz.zeroValue20
 t37:=Tryz.underlying83
 a37:=Tryz.isAgg83
 z37:=Tryz.sizeOf83
 v37:=Tryz.zeroValue83
 t46:=Tryz.underlying94
 a46:=Tryz.isAgg94
 z46:=Tryz.sizeOf94
 v46:=Tryz.zeroValue94
 t51:=Tryz.underlying133
 a51:=Tryz.isAgg133
 z51:=Tryz.sizeOf133
 v51:=Tryz.zeroValue133
 t53:=Tryz.underlying136
 a53:=Tryz.isAgg136
 z53:=Tryz.sizeOf136
 v53:=Tryz.zeroValue136
 t70:=Tryz.underlying82
 a70:=Tryz.isAgg82
 z70:=Tryz.sizeOf82
 v70:=Tryz.zeroValue82
 t72:=Tryz.underlying85
 a72:=Tryz.isAgg85
 z72:=Tryz.sizeOf85
 v72:=Tryz.zeroValue85
 t75:=Tryz.underlying88
 a75:=Tryz.isAgg88
 z75:=Tryz.sizeOf88
 v75:=Tryz.zeroValue88
 t76:=Tryz.underlying89
 a76:=Tryz.isAgg89
 z76:=Tryz.sizeOf89
 v76:=Tryz.zeroValue89
 t109:=Tryz.underlying127
 a109:=Tryz.isAgg127
 z109:=Tryz.sizeOf127
 v109:=Tryz.zeroValue127
 t127:=Tryz.underlying117
 a127:=Tryz.isAgg117
 z127:=Tryz.sizeOf117
 v127:=Tryz.zeroValue117
 t146:=Tryz.underlying147
 a146:=Tryz.isAgg147
 z146:=Tryz.sizeOf147
 v146:=Tryz.zeroValue147
 t148:=Tryz.underlying149
 a148:=Tryz.isAgg149
 z148:=Tryz.sizeOf149
 v148:=Tryz.zeroValue149
 t164:=Tryz.underlying130
 a164:=Tryz.isAgg130
 z164:=Tryz.sizeOf130
 v164:=Tryz.zeroValue130 }
def Tryz.lays169_ren:Go.Shelf.Ren:=⟨fun | 169=>51 | n=>n,fun | 70=>82 | 9=>9 | 0=>0 | 72=>85 | 37=>83 | 127=>117 | 3=>3 | 5=>5 | n=>n,fun | n=>n⟩
theorem Tryz.lays169:Go.Proofs.Lays.n169 Tryz.prog Tryz.lays169_ren:={
 mixed:=by kernel_rfl
 f169:=Tryz.func51.trans (congrArg some (by kernel_rfl))
 t0:=Tryz.underlying0
 a0:=Tryz.isAgg0
 z0:=Tryz.sizeOf0
 v0:=Tryz.zeroValue0
 t3:=Tryz.underlying3
 a3:=Tryz.isAgg3
 z3:=Tryz.sizeOf3
 v3:=Tryz.zeroValue3
 t9:=Tryz.underlying9
 a9:=Tryz.isAgg9
 z9:=Tryz.sizeOf9
 v9:=Tryz.zeroValue9
 t37:=Tryz.underlying83
 a37:=Tryz.isAgg83
 z37:=Tryz.sizeOf83
 v37:=Tryz.zeroValue83
 t70:=Tryz.underlying82
 a70:=Tryz.isAgg82
 z70:=Tryz.sizeOf82
 v70:=Tryz.zeroValue82
 t72:=Tryz.underlying85
 a72:=Tryz.isAgg85
 z72:=Tryz.sizeOf85
 v72:=Tryz.zeroValue85
 t127:=Tryz.underlying117
 a127:=Tryz.isAgg117
 z127:=Tryz.sizeOf117
 v127:=Tryz.zeroValue117 }
end Go.Proofs
namespace Go.Proofs.YtbhhphabggcacaaGreatDoor
open Sy Go
variable {G:qM}
theorem qOU {M:qS} {vs:Array Value} {s:List UInt8} {n:Int} (hsz:vs.size=2) (h:∀ (i:Nat) u d,vs[i]?=some u→[PD.str s,PD.int .i64 n][i]?=some d→Rd M u d):∃ a:ByteArray,vs = #[.string a,.int .i64 n]∧a.data.toList=s∧n≤9223372036854775807:=by
 obtain ⟨l⟩:=vs
 match l,hsz with
 | [u,v],_ =>
  have h1:=h 0 u (.str s) rfl rfl
  have h2:=h 1 v (.int .i64 n) rfl rfl
  cases h1 with
  | @str a _ ha _ =>
  cases h2 with
  | int h3 h4=>exact ⟨a,rfl,ha,by rw [yA] at h4; exact h4⟩
theorem qHS:Builder.Extra Tryz.prog Tryz.lays105_ren where
 sizeBuilder:=by kernel_rfl
 liesBuilder:=by kernel_rfl
 t5:=Tryz.underlying5
 a5:=Tryz.isAgg5
 z5:=Tryz.sizeOf5
 v5:=Tryz.zeroValue5
 infoByte:=by kernel_rfl
 cellsByte:=by kernel_rfl
 sizeByte:=by kernel_rfl
 neB5:=by decide
theorem qJB (s:List UInt8) (n:Nat) (h:s.length * n≤140737488355328):AFn Tryz.prog G 69 [.str s,.int .i64 n] (.str (Lib.repeatL s n)):=by
 refine AFn.of_calls (kN Tryz.func69 (by kernel_rfl) rfl) fun M w vs hg hmem hsz hrd => ?_
 obtain ⟨x,rfl,rfl,hn⟩:=qOU hsz hrd
 refine (Any.strings_Repeat Tryz.lays105 qHS x n w (by omega) (by rw [yK rfl]; exact h)).mono ?_
 rintro e w' ⟨rfl,hb⟩
 refine ⟨_,rfl,.str (by simp) ?_,hb⟩
 rw [Lib.repeatL_length,Nat.mul_comm]; simp only [maxLen]; omega
set_option maxRecDepth 100000
set_option maxHeartbeats 4000000
set_option linter.unusedSimpArgs false
set_option linter.unusedVariables false
theorem qLC (s:List UInt8):(if s.all (fun b => !xW b.toNat) then (-1:Int) else (((s.takeWhile fun b => !xW b.toNat).length:Nat):Int))=if s.all qI then -1 else ((s.takeWhile qI).length:Int):=by
 have e:(fun b:UInt8 => !xW b.toNat)=qI:=by funext b; rw [qRE]; simp
 rw [e]
theorem qMK (s:List UInt8):xZ xW s=if s.all qI then -1 else ((s.takeWhile qI).length:Int):=by
 rw [qJZ (fun n h=>by simp [xW] <;> omega),qLC]
theorem qYY {s:List UInt8} (h:s.all qI=true):s.takeWhile qI=s∧s.dropWhile qI=[]:=by
 have:=qZT (W:=s) (F:=[]) h (by simp)
 simpa using this
theorem qVW (s:List UInt8):s.take (s.takeWhile qI).length=s.takeWhile qI∧s.drop (s.takeWhile qI).length=s.dropWhile qI:=by
 have h:=List.takeWhile_append_dropWhile (p:=qI) (l:=s)
 generalize s.takeWhile qI=A at *
 generalize s.dropWhile qI=B at *
 subst h
 simp
theorem qSU (s:List UInt8):(s.takeWhile qI).length≤s.length:=(List.takeWhile_sublist _).length_le
theorem qYB (s:List UInt8):(s.dropWhile qI).length≤s.length:=(List.dropWhile_sublist _).length_le
theorem qKM {s:List UInt8} {n:Int} (hc:(if s.all qI=true then (-1:Int) else ((s.takeWhile qI).length:Int))=n) (h:n<0):(s.takeWhile qI).length=s.length:=by
 split at hc
 ·rename_i ha; rw [(qYY ha).1]
 omega
theorem qFT {s:List UInt8} {n:Int} (hc:(if s.all qI=true then (-1:Int) else ((s.takeWhile qI).length:Int))=n) (h:0≤n):n=((s.takeWhile qI).length:Int):=by
 split at hc
 ·omega
 omega
theorem qBS (s:List UInt8):AFn Tryz.prog G 67 [.str s] (.tup [.str (s.takeWhile qI),.str (s.dropWhile qI)]):=by
 refine AFn.introU tok Tryz.func67 (by kernel_rfl) rfl rfl ?_
 simp only [Tryz.f67,qN,List.map_cons,List.map_nil]
 have hI:=qKP (G:=G) s 90 xW qTH
 rw [qMK] at hI
 have htw:=qVW s
 have hle:=qSU s
 generalize hc:(if s.all qI=true then (-1:Int) else ((s.takeWhile qI).length:Int))=n at hI
 refine rgn [] [[],[0]] ?_
 iterate 2 refine op1 tok ?_
 refine qA (rgn [.nilp,.int .i64 n] [[],[],[0,4]] ?_)
 iterate 3 refine oq1 tok hI ?_
 refine qA ?_
 refine AW.join (α:=Unit) (fun _=>True) (fun a=>⟨zO 17 [(0,.p (.str s)),(4,.p (.int .i64 (s.takeWhile qI).length))],[],[],0⟩) ?_ ?_
 ·
  refine rgn [] [[],[0,4,8]] ?_
  iterate 2 refine op1 tok ?_
  refine qA (cnd ?_ ?_)
  ·intro h8
   try simp at h8
   refine rgz [] [[],[],[0,4]] ?_
   iterate 3 refine op1 tok ?_
   refine qA ?_
   exact ⟨(),trivial,qD (by simp [qKM hc h8]),rfl,by simp [qKM hc h8],by simp [qKM hc h8]⟩
  intro h8
  try simp at h8
  refine AW.skip ?_
  exact ⟨(),trivial,qD (by simp [qFT hc h8]),rfl,by simp [qFT hc h8],by simp [qFT hc h8]⟩
 ·
  rintro a hI
  refine AW.seqRunDrawK tok mixed [2,3] 7 [[0],[4],[11,12],[0],[4],[14,15],[13]] [] [] (by kernel_rfl) (by intro C; conv=>lhs; simp) (by omega) (by simp [Sm.sum,Sm.foot,Sm.tch,Sm.refs]; kernel_rfl) (by intro C; conv=>lhs; simp) (by first | with_reducible exact True.intro | omega | simp | (simp +contextual; omega)) ?_
  exact AW.ret (qR (k:=by simp [htw.1,htw.2]))
theorem qXB (s:List UInt8):(yF s).length≤s.length:=(List.dropWhile_sublist _).length_le
theorem qIX {d:Dc} (h:vM d=true):1≤d.digits.length∧d.digits.length≤60∧0≤d.scale∧d.scale≤60:=by
 unfold vM at h; simp only [Bool.and_eq_true,decide_eq_true_eq] at h; omega
theorem qFA (t:List UInt8) (c:UInt8):zG t [c]=decide (t.head?=some c):=by cases t <;> simp [zG]
theorem qHW (D:List UInt8) (c:UInt8):vQ (D++[c])=vQ D * 10+(c.toNat-48):=by simp [vQ]
theorem qPE {D:List UInt8} (h:D.all qI=true):vQ D<10 ^ D.length:=by
 have key:∀ (r:List UInt8),r.all qI=true→vQ r.reverse<10 ^ r.length:=by
  intro r
  induction r with
  | nil=>intro _; decide
  | cons b r ih =>
   intro h
   simp only [List.all_cons,Bool.and_eq_true,qI,vB,decide_eq_true_eq] at h
   have:=ih h.2
   rw [List.reverse_cons,qHW,List.length_cons,Nat.pow_succ]; omega
 have:=key D.reverse (by simpa using h)
 simpa using this
theorem qSV (s:List UInt8):(s.takeWhile qI).all qI=true:=List.all_takeWhile
theorem qWD (t:List UInt8):(wF t).length≤t.length:=by unfold wF; split <;> simp
theorem zAR {t:List UInt8} {a b:Bool} (h1:a=decide (t.head?=some 45)) (h2:b=decide (t.head?=some 43)) (h:a=true∨b=true):t.tail=wF t∧1≤t.length:=by
 subst h1; subst h2
 simp only [decide_eq_true_eq] at h
 unfold wF; rw [if_pos h]
 refine ⟨by simp, ?_⟩
 cases t with
 | nil=>simp at h
 | cons a t=>simp
theorem qTB {t:List UInt8} {a b:Bool} (h1:a=decide (t.head?=some 45)) (h2:b=decide (t.head?=some 43)) (h:a=false∧b=false):t=wF t:=by
 subst h1; subst h2
 simp only [decide_eq_false_iff_not] at h
 unfold wF; rw [if_neg (fun h'=>h'.elim h.1 h.2)]
theorem qMQ (s:List UInt8) (hs:s.length≤1000000000000):AFn Tryz.prog G 68 [.str s] (.tup [.int .i64 ((vX s).getD 0),.bool (vX s).isSome]):=by
 refine AFn.introU tok Tryz.func68 (by kernel_rfl) rfl rfl ?_
 simp only [Tryz.f68,qN,List.map_cons,List.map_nil]
 refine rgn [] [[],[0]] ?_
 iterate 2 refine op1 tok ?_
 refine qA (AW.seq (rgn [] [[],[0,11]] ?_))
 iterate 2 refine op1 tok ?_
 refine qA (cnd ?_ ?_)
 ·intro h11
  try simp at h11
  subst h11
  refine rgn [] [[],[]] ?_
  iterate 2 refine op1 tok ?_
  refine qA ?_
  exact AW.ret (qR (k:=by simp [vX]))
 intro h11
 try simp at h11
 obtain ⟨b,t,rfl⟩:∃ b t,s=b::t:=by
  cases s with
  | nil=>exact absurd rfl h11
  | cons b t=>exact ⟨b,t,rfl⟩
 have hp1:=qFA t 45
 have hp2:=qFA t 43
 have hlt:=qWD t
 simp only [List.length_cons] at hs
 refine AW.skip (AW.seq (rgn [.int .u8 b.toNat,.int .u8 b.toNat] [[],[],[],[],[],[0,15,17],[],[0,19]] ?_))
 iterate 4 refine op1 tok ?_ (hv:=by first | with_reducible exact True.intro | (simp; done) | omega | simp | (simp +contextual; omega))
 iterate 3 refine op2 tok ?_ (hv:=by first | with_reducible exact True.intro | (simp; done) | omega | simp | (simp +contextual; omega))
 refine op1 tok ?_ (hv:=by first | with_reducible exact True.intro | (simp; done) | omega | simp | (simp +contextual; omega))
 refine qA (cnd ?_ ?_)
 ·intro h19
  try simp at h19
  have he:vX (b::t)=none:=by
   unfold vX; simp only; rw [if_pos ⟨by rintro rfl; exact h19.1 rfl,by rintro rfl; exact h19.2 rfl⟩]
  refine rgn [] [[],[]] ?_
  iterate 2 refine op1 tok ?_
  refine qA ?_
  exact AW.ret (qR (k:=by simp [he]))
 intro h19
 try simp at h19
 have hb:¬ (b≠101∧b≠69):=by
  rintro ⟨h1,h2⟩
  have h1':b.toNat≠101:=fun e=>h1 (UInt8.toNat_inj.1 e)
  have h2':b.toNat≠69:=fun e=>h2 (UInt8.toNat_inj.1 e)
  have:=h19 (by omega)
  omega
 have he : vX (b :: t) = if (wF t).dropWhile qI ≠ [] ∨ ((wF t).takeWhile qI).length < 1 ∨ 2 < ((wF t).takeWhile qI).length then none
   else some (if t.head?=some 45 then-(vQ ((wF t).takeWhile qI):Int) else vQ ((wF t).takeWhile qI)):=by
  unfold vX; simp only; rw [if_neg hb]
 rw [he]
 clear he
 have hlead:=qBS (G:=G) (wF t)
 have hall:=qSV (wF t)
 refine AW.skip (rgn [] [[],[],[0]] ?_)
 iterate 3 refine op1 tok ?_
 refine qA (rgn [.nilp,.bool (zG t [45])] [[],[],[0,4]] ?_)
 iterate 3 refine op1 tok ?_
 refine qA ?_
 refine AW.join (α:=Unit) (fun _=>True) (fun a=>⟨zO 63 [(0,.p (.str (wF t))),(4,.p (.bool (zG t [45])))],[],[],0⟩) ?_ ?_
 ·
  refine rgn [.nilp,.bool (zG t [43])] [[],[],[],[],[0,4,28]] ?_
  iterate 2 refine op1 tok ?_
  iterate 2 refine op2 tok ?_
  refine op1 tok ?_
  refine qA (cnd ?_ ?_)
  ·intro h28
   try simp at h28
   have hsT:=zAR hp1 hp2 h28
   refine rgz [] [[],[],[0,4]] ?_
   iterate 3 refine op1 tok ?_
   refine qA ?_
   exact ⟨(),trivial,qD (by simp [hsT.1]),rfl,by simp [hsT.1],by simp [hsT.1]⟩
  intro h28
  try simp at h28
  refine AW.skip ?_
  exact ⟨(),trivial,qD (by simp [(qTB hp1 hp2 h28).symm]),rfl,by simp [(qTB hp1 hp2 h28).symm],by simp [(qTB hp1 hp2 h28).symm]⟩
 ·
  rintro a hI
  generalize wF t=u at *
  generalize u.takeWhile qI=D at *
  generalize u.dropWhile qI=E at *
  refine rgn [.nilp,.tup [.str D,.str E]] [[],[],[],[],[4,34,35],[],[4,5,6]] ?_
  iterate 7 refine oq1 tok hlead ?_
  refine qA (AW.seq (rgn [] [[],[],[],[],[4,5,38,40],[],[],[4,5,43],[],[],[],[4,5,47]] ?_))
  iterate 12 first | refine op1 tok ?_ | refine op2 tok ?_
  refine qA (cnd ?_ ?_)
  ·intro h47
   try simp at h47
   rw [if_pos (h47.elim (fun h=>h.elim .inl (fun h => .inr (.inl (by omega)))) (fun h => .inr (.inr (by omega))))]
   refine rgn [] [[],[]] ?_
   iterate 2 refine op1 tok ?_
   exact qA (AW.ret qR)
  intro h47
  try simp at h47
  rw [if_neg (by
   rintro (h | h)
   ·exact h h47.1.1
   omega)]
  have hD2:D.length≤2:=by omega
  refine AW.skip (rgn [] [[]] ?_)
  refine op1 tok ?_
  refine qA (AW.seq (rgn [] [[],[4,7,49]] ?_))
  iterate 2 refine op1 tok ?_
  refine qA (AW.block ?_)
  refine AW.loop (α:=Nat) (fun pos=>pos≤D.length) (fun pos=>⟨zO 63 [(4,.p (.bool (zG t [45]))),(7,.p (.int .i64 (vQ (D.take pos)))),(49,.it 49)],[],[(49,.iter D pos)],0⟩) (fun pos=>D.length-pos) (0) (by omega) ⟨qD (by simp [vQ]),rfl,by simp,by simp⟩ ?_
  rintro pos hp
  have hvl:vQ (D.take pos)<10 ^ (D.take pos).length:=qPE (qVA hall pos)
  have hpw:10 ^ (D.take pos).length≤10 ^ 2:=Nat.pow_le_pow_right (by omega) (by simp; omega)
  by_cases hs14:pos<D.length
  ·
   refine rgn [.bool true] [[],[]] ?_
   iterate 2 refine oq1 tok hs14 ?_
   refine qA (AW.seq (cnd ?_ ?_))
   ·intro h51
    try simp at h51
    obtain ⟨c,hc⟩:∃ c,D[pos]?=some c:=⟨D[pos],by simp [hs14]⟩
    have hcd:qI c=true:=List.all_eq_true.1 hall c (List.mem_of_getElem? hc)
    have hcd2:48≤c.toNat∧c.toNat≤57:=by simp [qI,vB] at hcd; omega
    have hdl:jV D pos=(c.toNat,1):=by
     have hg:D.getD pos 0=c:=by simp [List.getD_eq_getElem?_getD,hc]
     have:=qGU (s:=D) (pos:=pos) hs14 (by rw [hg]; omega)
     rw [hg] at this; exact this
    have hsn:vQ (D.take (pos+1))=vQ (D.take pos) * 10+(c.toNat-48):=by rw [List.take_add_one,hc]; exact qHW _ _
    rw [hdl]
    refine AW.skip (AW.block (rgn [] [[],[4,7,9,49]] ?_))
    iterate 2 refine op1 tok ?_
    refine qA (rgz [] [[],[],[],[4,49,54,56],[],[],[4,7,49]] ?_)
    iterate 7 refine op1 tok ?_ (hv:=by first | with_reducible exact True.intro | (omega; done) | omega | simp | (simp +contextual; omega))
    refine qA ?_
    exact ⟨pos+1,by omega,by omega,qD (by simp [hsn,(show ((c.toNat-48:Nat):Int)=(c.toNat:Int)-48 by omega)]),rfl,by simp [hsn,(show ((c.toNat-48:Nat):Int)=(c.toNat:Int)-48 by omega)],by simp [hsn,(show ((c.toNat-48:Nat):Int)=(c.toNat:Int)-48 by omega)]⟩
   intro h51
   try simp at h51
  ·
   refine rgn [.bool false] [[],[]] ?_
   iterate 2 refine oq1 tok hs14 ?_
   refine qA (AW.seq (cnd ?_ ?_))
   ·intro h51
    try simp at h51
   intro h51
   try simp at h51
   have hpD:D.take pos=D:=List.take_of_length_le (by omega)
   rw [hpD] at hvl hpw ⊢
   refine AW.exit ?_
   simp
   refine AW.seq (rgn [] [[7,59]] ?_)
   refine op1 tok ?_
   refine qA (cnd ?_ ?_)
   ·intro h59
    try simp at h59
    rw [hp1] at h59
    have ht:t.head?=some 45:=by simpa using h59
    rw [if_pos ht]
    have hw:IntKind.i64.wrap (-(vQ D:Int)) = -(vQ D:Int):=by simp [IntKind.wrap,IntKind.bits,IntKind.signed]; omega
    refine rgz [] [[],[],[7]] ?_
    iterate 3 refine op1 tok ?_ (hv:=by first | with_reducible exact True.intro | (omega; done) | omega | simp | (simp +contextual; omega))
    refine qA (rgn [] [[],[],[2,3]] ?_)
    iterate 3 refine op1 tok ?_
    refine qA ?_
    exact AW.ret (qR (k:=by simp [hw]))
   intro h59
   try simp at h59
   rw [hp1] at h59
   have ht:¬ t.head?=some 45:=by simpa using h59
   rw [if_neg ht]
   refine AW.skip (rgn [] [[],[],[2,3]] ?_)
   iterate 3 refine op1 tok ?_
   exact qA (AW.ret qR)
theorem qPX (neg:Bool) (digits:List UInt8) (scale:Nat) (hd:digits.length≤10000000000) (hs:scale≤10000000000):AFn Tryz.prog G 70 [.bool neg,.str digits,.int .i64 scale] (.tup [(xL neg digits scale).1.enc,.int .i64 (xL neg digits scale).2]):=by
 refine AFn.introU tok Tryz.func70 (by kernel_rfl) rfl rfl ?_
 simp only [Tryz.f70,qN,List.map_cons,List.map_nil]
 have hstr:(yF digits).length≤digits.length:=qXB digits
 refine rgn [] [[],[0,1,2,6]] ?_
 iterate 2 refine op1 tok ?_
 refine qA (rgn [.nilp,.str (yF digits)] [[],[],[0,1,2,6]] ?_)
 iterate 3 refine op1 tok ?_ (hv:=by first | with_reducible exact True.intro | (exact qKO digits 48 (by decide); done) | omega | simp | (simp +contextual; omega))
 refine qA (AW.seq (AW.block ?_))
 refine AW.loop (α:=List UInt8 × Nat) (fun a=>xB (yF digits) scale=xB a.1 a.2∧a.2≤scale∧a.1.length≤digits.length) (fun a=>⟨zO 40 [(0,.p (.bool neg)),(1,.p (.str a.1)),(2,.p (.int .i64 a.2)),(6,.ptr 6 0)],[],[(6,.vars 33 [.p (.bool false),.p (.str []),.p (.int .i64 0)])],0⟩) (fun a=>a.2) ((yF digits,scale)) ⟨rfl,Nat.le_refl _,hstr⟩ ⟨qD (by simp),rfl,by simp,by simp⟩ ?_
 rintro ⟨d,k⟩ ⟨ht,hk,hdl⟩
 simp only at ht hk hdl
 have hsf:=qKQ (G:=G) d 48
 refine AW.seq (rgn [.nilp,.bool (decide (d.getLast?=some 48))] [[],[],[],[],[],[0,1,2,6,15]] ?_)
 iterate 3 refine op1 tok ?_ (hv:=by first | with_reducible exact True.intro | (first | exact fun h=>⟨h,hsf⟩ | simp; done) | omega | simp | (simp +contextual; omega))
 iterate 2 refine op2 tok ?_ (hv:=by first | with_reducible exact True.intro | (first | exact fun h=>⟨h,hsf⟩ | simp; done) | omega | simp | (simp +contextual; omega))
 refine op1 tok ?_ (hv:=by first | with_reducible exact True.intro | (first | exact fun h=>⟨h,hsf⟩ | simp; done) | omega | simp | (simp +contextual; omega))
 refine qA (cnd ?_ ?_)
 ·intro h15
  try simp at h15
  obtain ⟨k,rfl⟩:∃ k',k=k'+1:=⟨k-1,by omega⟩
  have hl:d.getLast?=some 48:=by simpa using h15.2
  have hpos:0<d.length:=by cases d with
   | nil=>simp at hl
   | cons=>simp
  have ht':xB (yF digits) scale=xB d.dropLast k:=by rw [ht]; simp only [xB]; rw [if_pos hl]
  refine AW.skip (AW.block (rgz [] [[],[],[],[],[0,2,6,20],[],[],[],[0,1,2,6]] ?_))
  iterate 9 refine op1 tok ?_ (hv:=by first | with_reducible exact True.intro | (omega; done) | omega | simp | (simp +contextual; omega))
  refine qA ?_
  exact ⟨(d.dropLast,k),⟨ht',by simp only []; omega,by simp; omega⟩,by simp,qD (by simp [qDB]),rfl,by simp [qDB],by simp [qDB]⟩
 intro h15
 try simp at h15
 have htl:xB (yF digits) scale=(d,k):=by
  rw [ht]
  cases k with
  | zero=>rfl
  | succ k =>
   simp only [xB]
   rw [if_neg]
   intro hl
   have:=h15 (by omega)
   simp [hl] at this
 have hN:xL neg digits scale=if d=[] then (⟨false,[48],0⟩,0) else if 60<d.length∨60<k then (⟨false,[],0⟩,3) else (⟨neg,d,k⟩,0):=by unfold xL; simp only [htl]
 rw [hN]
 refine AW.exit ?_
 simp
 refine AW.seq (AW.block (rgn [] [[],[],[0,1,2,6,23]] ?_))
 iterate 3 refine op1 tok ?_
 refine qA (cnd ?_ ?_)
 ·intro h23
  try simp at h23
  subst h23
  refine rgn [] [[],[],[6,7]] ?_
  iterate 3 refine op1 tok ?_
  exact qA (AW.ret qR)
 intro h23
 try simp at h23
 rw [if_neg h23]
 refine rgn [] [[],[],[],[],[],[0,1,2,6,31,33],[],[0,1,2,6,27]] ?_
 iterate 4 refine op1 tok ?_
 iterate 2 refine op2 tok ?_
 iterate 2 refine op1 tok ?_
 refine qA (cnd ?_ ?_)
 ·intro h27
  try simp at h27
  rw [if_pos (by omega)]
  refine rgn [] [[],[],[6,7]] ?_
  iterate 3 refine op1 tok ?_
  exact qA (AW.ret qR)
 intro h27
 try simp at h27
 rw [if_neg (by omega)]
 refine AW.skip (rgn [] [[],[],[],[6,39],[],[6,7]] ?_)
 iterate 6 refine op1 tok ?_
 exact qA (AW.ret qR)
theorem qUQ (s:List UInt8):kU s [45]=xT s∧zG s [45]=qOC s:=by
 have h:=qFA s 45
 unfold kU xT qOC
 rw [h]
 refine ⟨?_,rfl⟩
 simp
theorem qXH (s:List UInt8):(xT s).length≤s.length:=by unfold xT; split <;> simp
theorem qYP {W:List UInt8} (h:(((W[0]?.getD 0).toNat:Nat):Int)=48):W.head?=some 48:=by
 cases W with
 | nil=>simp at h
 | cons b W=>simp at h ⊢; exact UInt8.toNat_inj.1 (by show b.toNat=48; omega)
theorem qXX (n:Nat):Lib.repeatL [48] n=yD n:=by
 unfold yD
 induction n with
 | zero=>rfl
 | succ n ih=>simp only [Lib.repeatL,List.replicate_succ,ih]; rfl
theorem qOL (q:List UInt8) : -99≤(vX q).getD 0∧(vX q).getD 0≤99:=by
 unfold vX
 split
 ·simp
 rename_i b t
 split
 ·simp
 split
 ·simp
 rename_i h
 have h1:=qPE (qSV (wF t))
 have h2:10 ^ ((wF t).takeWhile qI).length≤10 ^ 2:=Nat.pow_le_pow_right (by omega) (by omega)
 simp only [Option.getD_some]
 split <;> omega
theorem qNH (s:List UInt8) (hs:s.length≤1000000000):AFn Tryz.prog G 36 [.str s] (.tup [(jQ s).1.enc,.int .i64 (jQ s).2]):=by
 refine AFn.introU tok Tryz.func36 (by kernel_rfl) rfl rfl ?_
 simp only [Tryz.f36,qN,List.map_cons,List.map_nil]
 have hbp:=qUQ s
 have hbl:=qXH s
 have hP:jQ s=match uO ((xT s).dropWhile qI) with
  | none=>jD
  | some (P,r)=>qMT (qOC s) ((xT s).takeWhile qI) P (vX r):=rfl
 rw [hP]
 clear hP
 have hl1:=qBS (G:=G) (xT s)
 have hw1:=qSU (xT s)
 have hw2:=qYB (xT s)
 have hcp:=uE (G:=G) s [45]
 rw [hbp.1,hbp.2] at hcp
 generalize xT s=u at *
 generalize qOC s=ng at *
 generalize u.takeWhile qI=W at *
 generalize u.dropWhile qI=r at *
 have hcr:=uE (G:=G) r [46]
 have hr46:=qFA r 46
 have hcut:kU r [46]=if r.head?=some 46 then r.drop 1 else r:=by unfold kU; rw [hr46]; simp
 have hl2:=qBS (G:=G) (r.drop 1)
 have hv1:=qSU (r.drop 1)
 have hv2:=qYB (r.drop 1)
 rw [List.length_drop] at hv1 hv2
 refine rgn [] [[],[0,2]] ?_
 iterate 2 refine op1 tok ?_
 refine qA (rgn [.nilp,.tup [.str u,.bool ng]] [[],[],[],[],[2,17,18],[],[2,4,5]] ?_)
 iterate 7 refine oq1 tok hcp ?_
 refine qA (rgn [.nilp,.tup [.str W,.str r]] [[],[],[],[],[2,5,22,23],[],[2,4,5,6]] ?_)
 iterate 7 refine oq1 tok hl1 ?_
 refine qA (rgn [] [[]] ?_)
 refine op1 tok ?_
 refine qA ?_
 refine AW.join (α:=List UInt8 × List UInt8) (fun a=>uO r=some (a.1,a.2)∧a.1.length≤s.length∧a.2.length≤s.length) (fun a=>⟨zO 80 [(2,.ptr 2 0),(4,.p (.str a.2)),(5,.p (.bool ng)),(6,.p (.str W)),(7,.p (.str a.1))],[],[(2,.vars 33 [.p (.bool false),.p (.str []),.p (.int .i64 0)])],0⟩) ?_ ?_
 ·
  refine rgn [.nilp,.tup [.str (kU r [46]),.bool (zG r [46])]] [[],[],[],[],[],[2,4,5,6,7,8,28],[2,4,5,6,7,8,9]] ?_
  iterate 7 refine oq1 tok hcr ?_
  refine qA (rgn [] [[2,4,5,6,7,8,29]] ?_)
  refine op1 tok ?_
  refine qA (cnd ?_ ?_)
  ·intro h29
   try simp at h29
   have hh:r.head?=some 46:=by rw [hr46] at h29; simpa using h29
   rw [if_pos hh] at hcut
   rw [hcut]
   have hF:uO r=if (r.drop 1).takeWhile qI=[] then none else some ((r.drop 1).takeWhile qI,(r.drop 1).dropWhile qI):=by unfold uO; rw [if_pos hh]
   rw [hF]
   generalize (r.drop 1).takeWhile qI=P at *
   generalize (r.drop 1).dropWhile qI=q at *
   rw [List.drop_one] at hl2
   refine rgn [.nilp,.tup [.str P,.str q]] [[],[],[],[],[2,5,6,33,34],[],[2,4,5,6,7]] ?_
   iterate 7 refine oq1 tok hl2 ?_
   refine qA (rgn [] [[],[2,4,5,6,7,36]] ?_)
   iterate 2 refine op1 tok ?_
   refine qA (cnd ?_ ?_)
   ·intro h36
    try simp at h36
    rw [if_pos h36]
    refine rgn [] [[],[],[2,3]] ?_
    iterate 3 refine op1 tok ?_
    refine qA ?_
    exact AW.ret (qR (k:=by simp [jD]))
   intro h36
   try simp at h36
   rw [if_neg h36]
   refine AW.skip ?_
   exact ⟨(P,q),⟨rfl,by simp only []; omega,by simp only []; omega⟩,qD (by simp),rfl,by simp,by simp⟩
  intro h29
  try simp at h29
  have hh:¬ r.head?=some 46:=by rw [hr46] at h29; simpa using h29
  have hF:uO r=some ([],r):=by unfold uO; rw [if_neg hh]
  rw [hF]
  refine AW.skip ?_
  exact ⟨([],r),⟨rfl,by simp,by simp only []; omega⟩,qD (by simp),rfl,by simp,by simp⟩
 ·
  rintro ⟨P,q⟩ ⟨hf,hpl,hql⟩
  simp only at hpl hql
  rw [hf]
  simp only
  have hex:=qMQ (G:=G) q (by omega)
  have hrg:=qOL q
  generalize vX q=e at *
  have hix:∀ h:W≠[],W[0]?=some (W.getD 0 0):=fun h=>vK (List.length_pos_iff.2 h)
  refine rgn [.nilp,.tup [.int .i64 (e.getD 0),.bool e.isSome]] [[],[],[],[],[2,5,6,7,41,42],[],[2,5,6,7,10,11]] ?_
  iterate 7 refine oq1 tok hex ?_
  refine qA (AW.seq (rgn [.int .u8 (W.getD 0 0).toNat] [[],[],[],[],[2,5,6,7,10,45,47],[],[],[],[2,5,6,7,10,49,51],[],[],[],[],[2,5,6,7,10,49,53,56],[],[2,5,6,7,10,58]] ?_))
  iterate 16 first | refine op1 tok ?_ (hv:=by first | with_reducible exact True.intro | (first | exact fun h1 h2 h3=>⟨⟨⟨h1,h2⟩,h3⟩,_,hix h2,rfl⟩ | exact fun h1 h2=>⟨⟨h1,h2⟩,fun h3=>⟨⟨h1,h2⟩,h3⟩⟩ | simp; done) | omega | simp | (simp +contextual; omega)) | refine op2 tok ?_ (hv:=by first | with_reducible exact True.intro | (first | exact fun h1 h2 h3=>⟨⟨⟨h1,h2⟩,h3⟩,_,hix h2,rfl⟩ | exact fun h1 h2=>⟨⟨h1,h2⟩,fun h3=>⟨⟨h1,h2⟩,h3⟩⟩ | simp; done) | omega | simp | (simp +contextual; omega))
  refine qA (cnd ?_ ?_)
  ·intro h58
   try simp at h58
   have hbad:qMT ng W P e=jD:=by
    cases e with
    | none=>rfl
    | some up =>
     simp only [qMT]
     rw [if_pos]
     rcases h58 with (h | h) | h
     ·cases h
     ·exact .inl h
     exact .inr ⟨by omega,qYP h.2⟩
   rw [hbad]
   refine rgn [] [[],[],[2,3]] ?_
   iterate 3 refine op1 tok ?_
   refine qA ?_
   exact AW.ret (qR (k:=by simp [jD]))
  intro h58
  try simp at h58
  obtain ⟨up,rfl⟩:∃ up,e=some up:=by
   cases e with
   | none=>exact absurd rfl h58.1.1
   | some up=>exact ⟨up,rfl⟩
  have hend:qMT ng W P (some up)=uK ng (W++P) (P.length-up):=by
   simp only [qMT]; rw [if_neg]
   rintro (h | ⟨h,h'⟩)
   ·exact h58.1.2 h
   refine h58.2 (by omega) ?_
   cases W with
   | nil=>simp at h'
   | cons b W=>simp at h'; subst h'; rfl
  rw [hend]
  simp only [Option.getD_some] at hrg ⊢
  have hWP:(W++P).length≤2000000000:=by simp; omega
  refine AW.skip (rgn [] [[],[],[],[2,5,10,62,63],[],[],[2,5,62,66],[],[2,5,12,13]] ?_)
  iterate 9 refine op1 tok ?_
  refine qA (AW.seq (rgn [] [[],[2,5,12,13,68]] ?_))
  iterate 2 refine op1 tok ?_
  refine qA (cnd ?_ ?_)
  ·intro h68
   try simp at h68
   obtain ⟨z,hz⟩:∃ z:Nat,(z:Int)=up-P.length:=⟨(up-P.length).toNat,by omega⟩
   have hw3:IntKind.i64.wrap (-((P.length:Int)-up))=(z:Int):=by simp [IntKind.wrap,IntKind.bits,IntKind.signed]; omega
   have hrp:=qJB (G:=G) [48] z (by simp; omega)
   rw [qXX] at hrp
   have hL:uK ng (W++P) ((P.length:Int)-up)=xL ng (W++(P++yD z)) 0:=by
    unfold uK; rw [if_pos h68,show (-((P.length:Int)-up)).toNat=z by omega,List.append_assoc]
   have hzl:(yD z).length=z:=by simp [yD]
   rw [hL]
   have hmd:=qPX (G:=G) ng (W++(P++yD z)) 0 (by simp [yD] at hWP ⊢; omega) (by omega)
   refine rgz [.nilp,.str (yD z)] [[],[],[],[2,5,69,72],[],[],[2,5,12,13]] ?_
   iterate 7 refine op1 tok ?_ (hv:=by first | with_reducible exact True.intro | (first | (rw [hw3]; exact hrp) | (simp at hWP; omega); done) | omega | simp | (simp +contextual; omega))
   refine qA (rgn [.nilp,.tup [(xL ng (W++(P++yD z)) 0).1.enc,.int .i64 (xL ng (W++(P++yD z)) 0).2]] [[],[],[],[2,77],[],[],[],[2,3]] ?_)
   iterate 8 refine oq1 tok hmd ?_
   exact qA (AW.ret qR)
  intro h68
  try simp at h68
  obtain ⟨sc,hsc⟩:∃ sc:Nat,(sc:Int)=P.length-up:=⟨((P.length:Int)-up).toNat,by omega⟩
  have hL:uK ng (W++P) ((P.length:Int)-up)=xL ng (W++P) sc:=by
   unfold uK; rw [if_neg (by omega),show ((P.length:Int)-up).toNat=sc by omega]
  rw [hL]
  have hmd:=qPX (G:=G) ng (W++P) sc (by omega) (by omega)
  rw [hsc] at hmd
  refine AW.skip (rgn [.nilp,.tup [(xL ng (W++P) sc).1.enc,.int .i64 (xL ng (W++P) sc).2]] [[],[],[],[2,77],[],[],[],[2,3]] ?_)
  iterate 8 refine oq1 tok hmd ?_
  exact qA (AW.ret qR)
theorem qNG (d:Dc) (hd:vM d=true):AFn Tryz.prog G 48 [d.enc] (.str (qHC d)):=by
 refine AFn.introU tok Tryz.func48 (by kernel_rfl) rfl rfl ?_
 simp only [Tryz.f48,qN,List.map_cons,List.map_nil]
 have hb:=qIX hd
 have hrp:=qJB (G:=G) [48] (d.scale.toNat+1-d.digits.length) (by simp; omega)
 rw [qXX] at hrp
 have hmx:(if (d.digits.length:Int)<d.scale+1 then d.scale+1-d.digits.length else 0)=((d.scale.toNat+1-d.digits.length:Nat):Int):=by split <;> omega
 have hzl:(yD (d.scale.toNat+1-d.digits.length)).length=d.scale.toNat+1-d.digits.length:=by simp [yD]
 have hpl:(uW d).length=d.scale.toNat+1-d.digits.length+d.digits.length:=by simp [uW,yD]
 have hP:qHC d=(if d.neg=true then [45] else [])++(if d.scale=0 then uW d else (uW d).take ((uW d).length-d.scale.toNat)++46::(uW d).drop ((uW d).length-d.scale.toNat)):=rfl
 have hpad:yD (d.scale.toNat+1-d.digits.length)++d.digits=uW d:=rfl
 rw [hP]
 refine rgn [] [[],[1]] ?_
 iterate 2 refine op1 tok ?_
 refine qA ?_
 refine AW.seqRunDrawK tok mixed [1,3] 12 [[1],[6],[7],[1],[9],[10],[8,11],[12],[13],[1],[15],[14,16]] [.nilp,.str (yD (d.scale.toNat+1-d.digits.length))] [] (by kernel_rfl) (by intro C; conv=>lhs; simp) (by rw [hmx]; refine ⟨by omega,by omega,hrp,by omega⟩) (by simp [Sm.sum,Sm.foot,Sm.tch,Sm.refs]; kernel_rfl) (by intro C; conv=>lhs; simp) (by first | with_reducible exact True.intro | omega | simp | (simp +contextual; omega)) ?_
 refine rgn [] [[]] ?_
 refine op1 tok ?_
 refine qA ?_
 refine AW.join (α:=Unit) (fun _=>True) (fun a=>⟨zO 41 [(1,.ptr 1 0),(3,.p (.str (uW d))),(4,.p (.str (if d.neg=true then [45] else [])))],[],[(1,.vars 33 [.p (.bool d.neg),.p (.str d.digits),.p (.int .i64 d.scale)])],0⟩) ?_ ?_
 ·
  refine rgn [] [[],[1,3,4,19]] ?_
  iterate 2 refine op1 tok ?_
  refine qA (cnd ?_ ?_)
  ·intro h19
   try simp at h19
   refine rgz [] [[]] ?_
   refine op1 tok ?_
   refine qA ?_
   exact ⟨(),trivial,qD (by simp [hpad,h19]),rfl,by simp [hpad,h19],by simp [hpad,h19]⟩
  intro h19
  try simp at h19
  refine AW.skip ?_
  exact ⟨(),trivial,qD (by simp [hpad,h19]),rfl,by simp [hpad,h19],by simp [hpad,h19]⟩
 ·
  rintro a hI
  have hsg:(if d.neg=true then [45] else []:List UInt8).length≤1:=by split <;> simp
  generalize (if d.neg=true then [45] else []:List UInt8)=sg at *
  have hk:((uW d).length-d.scale).toNat=(uW d).length-d.scale.toNat:=by omega
  generalize uW d=pd at *
  refine AW.seq (rgn [] [[],[],[1,3,4,22]] ?_)
  iterate 3 refine op1 tok ?_
  refine qA (cnd ?_ ?_)
  ·intro h22
   try simp at h22
   refine rgn [] [[],[],[25],[2]] ?_
   iterate 4 refine op1 tok ?_ (hv:=by first | with_reducible exact True.intro | (omega; done) | omega | simp | (simp +contextual; omega))
   refine qA ?_
   exact AW.ret (qR (k:=by simp [h22]))
  intro h22
  try simp at h22
  refine AW.skip (rgn [] [[],[],[],[],[3,4,30],[3,4,5]] ?_)
  iterate 6 refine op1 tok ?_
  refine qA ?_
  refine AW.seqRunDrawK tok mixed [2] 10 [[4],[3],[5],[32,33],[31,34],[35],[3],[5],[37,38],[36,39]] [] [] (by kernel_rfl) (by intro C; conv=>lhs; simp) (by omega) (by simp [Sm.sum,Sm.foot,Sm.tch,Sm.refs]; kernel_rfl) (by intro C; conv=>lhs; simp) (by first | with_reducible exact True.intro | omega | simp | (simp +contextual; omega)) ?_
  exact AW.ret (qR (k:=by simp [h22,hk]))
def qGD (x:Nd):List UInt8 :=
 if x.op=4 then [40,80,41,46]
 else if x.op=5 then [40,80,41,91]
 else if x.op=6 then [40,80,41,91,93]
 else if x.op=7 then [40,80,32,124,32,80,41]
 else if x.op=8 then [40,80,32,44,32,80,41]
 else if x.op=11 then [40,80,32]++x.text++[32,80,41]
 else if x.op=12 then [40,105,102,32,80,32,116,104,101,110,32,80,32,101,108,115,101,32,80,32,101,110,100,41]
 else if x.op=13 then [40,116,114,121,32,80,41]
 else if x.op=14 then [115,101,97,108,40,80,41]
 else if x.op=20 then [101,114,114,111,114,40,80,41]
 else if x.op=15 then [40,114,101,100,117,99,101,32,80,32,97,115,32,36]++x.text++[32,40,80,59,80,41,41]
 else if x.op=16 then [40,80,32,97,115,32,36]++x.text++[32,124,32,80,41]
 else if x.op=17 then [108,105,109,105,116,40]++Lib.itoa x.n++[59,80,41]
 else if x.op=19 then [101,109,112,116,121]
 else []
def qDS (x:Nd):List UInt8 :=
 if x.n=1 then [110,117,108,108] else if x.n=3 then [116,114,117,101] else if x.n=2 then [102,97,108,115,101] else if x.n=4 then qHC x.num else yT x.text
def uP (ps ks:List (List UInt8)):Nat→List UInt8
 | 0=>[]
 | k+1=>uP ps ks k++(if k=0 then [] else ks.getD (k-1) [])++ps.getD k []
@[simp] theorem qYQ (ps ks:List (List UInt8)):uP ps ks 0=[]:=rfl
def qEI (pat:List UInt8) (ks:List (List UInt8)):List UInt8:=uP (zJ 80 pat) ks (zJ 80 pat).length
def zCT:List (List UInt8)→List (List UInt8)→List (List UInt8)
 | ks,vs=>List.zipWith (fun k v=>yT k++[58]++v) ks vs
def qGG (x:Nd) (ks:List (List UInt8)):List UInt8:=[123]++Lib.join (zCT x.keys ks) [44]++[125]
def qLA (x:Nd) (ks:List (List UInt8)):List UInt8 :=
 if x.op=1 then [46]
 else if x.op=2 then qDS x
 else if x.op=3 then [36]++x.text
 else if x.op=9 then [91]++Lib.join ks []++[93]
 else if x.op=10 then qGG x ks
 else if x.op=18 then (if 0<x.keys.length then x.text++[40]++yT (x.keys.getD 0 [])++[41] else x.text)
 else if x.op=4 then qEI (qGD x) ks++yT x.text
 else if x.op=5 then qEI (qGD x) ks++(Lib.itoa x.n++[93])
 else qEI (qGD x) ks
end Go.Proofs.YtbhhphabggcacaaGreatDoor
namespace Go.Proofs
open Go.Shelf
def Tryz.laysM171_ren:Go.Shelf.Ren:=⟨fun | 171=>29 | 243=>55 | 246=>81 | 283=>104 | 284=>105 | 285=>106 | 286=>107 | 129=>131 | 317=>130 | 318=>132 | 319=>133 | 320=>134 | 337=>147 | 338=>148 | n=>n,fun | 3=>3 | 9=>9 | 2=>2 | 4=>4 | 171=>135 | 0=>0 | 53=>136 | 37=>83 | 5=>5 | 173=>139 | 212=>153 | 51=>133 | 20=>20 | 213=>154 | 46=>94 | 232=>172 | 233=>173 | n=>n,fun | 17=>3 | 18=>6 | 19=>7 | n=>n⟩
theorem Tryz.laysM171:Go.Proofs.LaysM.n171 Tryz.prog Tryz.laysM171_ren:={
 mixed:=by kernel_rfl
 f129:=Tryz.func131.trans (congrArg some (by kernel_rfl))
 f171:=Tryz.func29.trans (congrArg some (by kernel_rfl))
 f243:=Tryz.func55.trans (congrArg some (by kernel_rfl))
 f246:=Tryz.func81.trans (congrArg some (by kernel_rfl))
 f283:=Tryz.func104.trans (congrArg some (by kernel_rfl))
 f284:=Tryz.func105.trans (congrArg some (by kernel_rfl))
 f285:=Tryz.func106.trans (congrArg some (by kernel_rfl))
 f286:=Tryz.func107.trans (congrArg some (by kernel_rfl))
 f317:=Tryz.func130.trans (congrArg some (by kernel_rfl))
 f318:=Tryz.func132.trans (congrArg some (by kernel_rfl))
 f319:=Tryz.func133.trans (congrArg some (by kernel_rfl))
 f320:=Tryz.func134.trans (congrArg some (by kernel_rfl))
 f337:=Tryz.func147.trans (congrArg some (by kernel_rfl))
 f338:=Tryz.func148.trans (congrArg some (by kernel_rfl))
 t0:=Tryz.underlying0
 a0:=Tryz.isAgg0
 z0:=Tryz.sizeOf0
 v0:=Tryz.zeroValue0
 t2:=Tryz.underlying2
 a2:=Tryz.isAgg2
 z2:=Tryz.sizeOf2
 v2:=Tryz.zeroValue2
 t3:=Tryz.underlying3
 a3:=Tryz.isAgg3
 z3:=Tryz.sizeOf3
 v3:=Tryz.zeroValue3
 t4:=Tryz.underlying4
 a4:=Tryz.isAgg4
 z4:=Tryz.sizeOf4
 v4:=Tryz.zeroValue4
 t5:=Tryz.underlying5
 a5:=Tryz.isAgg5
 z5:=Tryz.sizeOf5
 v5:=Tryz.zeroValue5
 t9:=Tryz.underlying9
 a9:=Tryz.isAgg9
 z9:=Tryz.sizeOf9
 v9:=Tryz.zeroValue9
 t20:=Tryz.underlying20
 a20:=Tryz.isAgg20
 z20:=Tryz.sizeOf20
 v20:=Tryz.zeroValue20
 t37:=Tryz.underlying83
 a37:=Tryz.isAgg83
 z37:=Tryz.sizeOf83
 v37:=Tryz.zeroValue83
 t46:=Tryz.underlying94
 a46:=Tryz.isAgg94
 z46:=Tryz.sizeOf94
 v46:=Tryz.zeroValue94
 t51:=Tryz.underlying133
 a51:=Tryz.isAgg133
 z51:=Tryz.sizeOf133
 v51:=Tryz.zeroValue133
 t53:=Tryz.underlying136
 a53:=Tryz.isAgg136
 z53:=Tryz.sizeOf136
 v53:=Tryz.zeroValue136
 t171:=Tryz.underlying135
 a171:=Tryz.isAgg135
 z171:=Tryz.sizeOf135
 v171:=Tryz.zeroValue135
 t173:=Tryz.underlying139
 a173:=Tryz.isAgg139
 z173:=Tryz.sizeOf139
 v173:=Tryz.zeroValue139
 t212:=Tryz.underlying153
 a212:=Tryz.isAgg153
 z212:=Tryz.sizeOf153
 v212:=Tryz.zeroValue153
 t213:=Tryz.underlying154
 a213:=Tryz.isAgg154
 z213:=Tryz.sizeOf154
 t232:=Tryz.underlying172
 a232:=Tryz.isAgg172
 z232:=Tryz.sizeOf172
 v232:=Tryz.zeroValue172
 t233:=Tryz.underlying173
 a233:=Tryz.isAgg173
 z233:=Tryz.sizeOf173
 v233:=Tryz.zeroValue173
 g17:=by kernel_rfl
 g18:=by kernel_rfl
 g19:=by kernel_rfl
 i0:=by kernel_rfl
 i2:=by kernel_rfl
 i3:=by kernel_rfl
 i4:=by kernel_rfl
 i5:=by kernel_rfl
 i9:=by kernel_rfl
 i20:=by kernel_rfl
 i37:=by kernel_rfl
 i46:=by kernel_rfl
 i51:=by kernel_rfl
 i53:=by kernel_rfl
 i171:=by kernel_rfl
 i173:=by kernel_rfl
 i212:=by kernel_rfl
 i232:=by kernel_rfl
 i233:=by kernel_rfl
 m17:=by kernel_rfl
 m18:=by kernel_rfl
 m19:=by kernel_rfl }
end Go.Proofs
namespace Go.Proofs.YtbhhphabggcacaaGreatDoor
open Sy Go
set_option linter.unusedVariables false
variable {G:qM}
def qEQ:List PD:=Lib.pow10Tab.map (PD.int .u64)
def qDW (g:Nat) (G:qM):Prop:=G g=some qEQ
theorem qWH {g : Nat} {M : qS} {w : World} (hG : qDW g G) (hn : Tryz.prog.globalNamed "internal/strconv.uint64pow10" = some g) (hg : GOK G M w) (hmem : ∀ b o v, M b o = some v → w.cell? ⟨b, o, none⟩ = some v) : Lib.TabIs Tryz.prog w "internal/strconv.uint64pow10" .u64 Lib.pow10Tab := by
 obtain ⟨arr,t,q,h1,h2⟩:=hg.2 g qEQ hG rfl
 obtain ⟨h3,h4⟩:=hg.1 g qEQ hG
 unfold Lib.TabIs World.var?
 rw [hn]
 simp only [Option.bind_some,h1]
 congr 1
 have hl:qEQ.length=Lib.pow10Tab.length:=by simp [qEQ]
 refine Array.ext (by simp [h2,hl]) fun j hj1 hj2 => ?_
 have hj:j<Lib.pow10Tab.length:=by simpa using hj2
 have hd:qEQ[j]?=some (.int .u64 (Lib.pow10Tab[j])):=by simp [qEQ,hj]
 obtain ⟨u,hu,_⟩:=h3 j _ hd
 have hr:=h4 j _ u hd hu
 cases hr
 have hc:=hmem _ _ _ hu
 have hw:w.cell? ⟨g,j,none⟩=some arr[j]:=by
  unfold World.cell?
  simp [h1,hj1]
 have e:=Option.some.inj (hw.symm.trans hc)
 rw [e]; simp
theorem qUX {M:qS} {vs:Array Value} {n:Int} (hsz:vs.size=1) (h:∀ (i:Nat) u d,vs[i]?=some u→[PD.int .i64 n][i]?=some d→Rd M u d):vs = #[.int .i64 n] ∧ -9223372036854775808≤n∧n≤9223372036854775807:=by
 obtain ⟨l⟩:=vs
 match l,hsz with
 | [u],_ =>
  have h1:=h 0 u (.int .i64 n) rfl rfl
  cases h1 with
  | int h3 h4=>exact ⟨rfl,by rw [yH] at h3; simpa [wW] using h3,by rw [yA] at h4; simpa [wX] using h4⟩
theorem qVC {g : Nat} (hG : qDW g G) (hn : Tryz.prog.globalNamed "internal/strconv.uint64pow10" = some g) (n : Int) : AFn Tryz.prog G 29 [.int .i64 n] (.str (Lib.itoa n)) := by
 refine AFn.of_calls (kN Tryz.func29 (by kernel_rfl) rfl) fun M w vs hg hmem hsz hrd => ?_
 obtain ⟨rfl,h0,h1⟩:=qUX hsz hrd
 refine (Any.strconv_Itoa Tryz.laysM171 n h0 h1 w (qWH hG hn hg hmem)).mono ?_
 rintro e w' ⟨rfl,k,os,rfl⟩
 have hl:=Lib.itoa_length_le n h0 h1
 exact ⟨_,rfl,.str (by simp) (by simp; omega),Lib.below_grow _ w (Nat.le_refl _) k os⟩
def qHH (g3 g4 g5:Nat):qM:=fun g=>if g=g5 then some qEQ else u8G g3 g4 g
theorem qSP (g3 g4 g5:Nat):qDW g5 (qHH g3 g4 g5):=by simp [qDW,qHH]
theorem qSQ {g3 g4 g5:Nat} (h:g4≠g3) (h3:g3≠g5) (h4:g4≠g5):qNF g3 g4 (qHH g3 g4 g5):=by
 obtain ⟨a,b⟩:=qVV h
 exact ⟨by simp only [qHH]; rw [if_neg h3]; exact a,by simp only [qHH]; rw [if_neg h4]; exact b⟩
theorem qRB:∀ j:Fin 20,(0:Int)≤Lib.pow10Tab.getD j.val 0∧Lib.pow10Tab.getD j.val 0≤18446744073709551615:=by decide
theorem qVS {g3 g4 g5 : Nat} {W : World} (h : Lib.Utf8Tabs g3 g4 W) (hne : g4 ≠ g3) (hn : Tryz.prog.globalNamed "internal/strconv.uint64pow10" = some g5) (ht : Lib.TabIs Tryz.prog W "internal/strconv.uint64pow10" .u64 Lib.pow10Tab) : GOK (qHH g3 g4 g5) (kE W) W := by
 have hu:=qYE h hne
 refine ⟨fun g cs hg => ?_,fun g cs hg hi => ?_⟩
 ·simp only [qHH] at hg
  split at hg
  ·rename_i e; subst e; cases hg
   have key:∀ (j:Nat) d,qEQ[j]?=some d→∃ z:Int,d = .int .u64 z∧0≤z∧z≤18446744073709551615∧kE W g j=some (.int .u64 z):=fun j d hd=>by
    have hj:j<Lib.pow10Tab.length:=by have:=(List.getElem?_eq_some_iff.1 hd).1; simpa [qEQ] using this
    have h20:j<20:=by simpa [Lib.pow10Tab] using hj
    have hb:=qRB ⟨j,h20⟩
    refine ⟨Lib.pow10Tab.getD j 0, ?_,hb.1,hb.2,ht.cell hn j hj⟩
    simp only [qEQ,List.getElem?_map,List.getElem?_eq_getElem hj,Option.map_some,Option.some.injEq] at hd
    rw [← hd,List.getD_eq_getElem?_getD,List.getElem?_eq_getElem hj]; rfl
   refine ⟨fun j d hd => ?_,fun j d u hd hu => ?_⟩
   ·obtain ⟨z,rfl,_,_,hm⟩:=key j d hd; exact ⟨_,hm,rfl⟩
   obtain ⟨z,rfl,h0,h1,hm⟩:=key j d hd
   have:=hu.symm.trans hm
   cases this
   exact .int (by rw [yH]; exact h0) (by rw [yA]; exact h1)
  exact hu.1 g cs hg
 simp only [qHH] at hg
 split at hg
 ·rename_i e; subst e; cases hg
  unfold Lib.TabIs World.var? at ht
  rw [hn] at ht
  simp only [Option.bind_some] at ht
  split at ht
  ·rename_i cs t q hb
   refine ⟨cs,t,q,hb, ?_⟩
   rw [Option.some.inj ht]; simp [qEQ]
  cases ht
 exact hu.2 g cs hg hi
theorem qJI {P : Program} {W : World} {name : String} {k : IntKind} {zs : List Int} {g : Nat} {t e : TypeId} {n : Nat} (hg : P.globalNamed name = some g) (hty : (P.globals[g]?).map (·.type) = some t) (ht : P.underlying t = some (.array n e)) (he : P.underlying e = some (.int k))
  (hce:P.cellsOf e=1) (hct:P.cellsOf t=n) (h:Lib.VarReads P W name (Lib.tabData k zs)):Lib.TabIs P W name k zs:=by
 obtain ⟨g',t',cs,fuel,p,hg',ht',hvar,hd⟩:=h
 obtain rfl:=Option.some.inj (hg.symm.trans hg')
 obtain rfl:=Option.some.inj (hty.symm.trans ht')
 unfold Lib.TabIs
 rw [hvar,← Lib.cells_of_tab ht he hce hct hd]
def qFH (g3 g4 g5 g6 g7:Nat):qM:=fun g=>if g=g6∨g=g7 then some [.err] else qHH g3 g4 g5 g
theorem qST (g3 g4 g5 g6 g7:Nat):qPB g6 g7 (qFH g3 g4 g5 g6 g7):=by simp [qPB,qFH]
theorem qSR {g3 g4 g5 g6 g7:Nat} (h:g5≠g6∧g5≠g7):qDW g5 (qFH g3 g4 g5 g6 g7):=by
 unfold qDW qFH; rw [if_neg (by omega)]; exact qSP g3 g4 g5
theorem qSS {g3 g4 g5 g6 g7:Nat} (h:g4≠g3) (h3:g3≠g5) (h4:g4≠g5) (h5:g3≠g6∧g3≠g7∧g4≠g6∧g4≠g7):qNF g3 g4 (qFH g3 g4 g5 g6 g7):=by
 obtain ⟨a,b⟩:=qSQ h h3 h4
 exact ⟨by simp only [qFH]; rw [if_neg (by omega)]; exact a,by simp only [qFH]; rw [if_neg (by omega)]; exact b⟩
theorem qCS {P:Program} {W:World} {name nm:String} {g:Nat} {t:TypeId} {d:DataW Unit} (hg:P.globalNamed name=some g) (hty:(P.globals[g]?).map (·.type)=some t) (hi0:((P.underlying t).any fun d=>match d with | .interface _=>true | _=>false)=true) (h:Lib.VarReads P W name (.iface nm d)):∃ u v,kE W g 0=some (.iface u v):=by
 obtain ⟨ms,hi⟩:∃ ms,P.underlying t=some (.interface ms):=by
  cases hu:P.underlying t with
  | none=>rw [hu] at hi0; cases hi0
  | some d =>
   rw [hu] at hi0
   cases d <;> first | exact ⟨_,rfl⟩ | cases hi0
 obtain ⟨g',t',cs,fuel,p,hg',ht',hvar,hd⟩:=h
 obtain rfl:=Option.some.inj (hg.symm.trans hg')
 obtain rfl:=Option.some.inj (hty.symm.trans ht')
 obtain ⟨f1,u,v,hcs,_,_⟩:=iface_of_trod hi hd
 refine ⟨u,v, ?_⟩
 have h0:=World.var?_cell hg hvar 0
 obtain ⟨l⟩:=cs
 simp only at hcs
 subst hcs
 show W.cell? ⟨g,0,none⟩=_
 simpa using h0
theorem qVT {g3 g4 g5 g6 g7:Nat} {W:World} (h:GOK (qHH g3 g4 g5) (kE W) W) (e6:∃ u v,kE W g6 0=some (.iface u v)) (e7:∃ u v,kE W g7 0=some (.iface u v)):GOK (qFH g3 g4 g5 g6 g7) (kE W) W:=by
 have key:∀ g,g=g6∨g=g7→∃ u v,kE W g 0=some (.iface u v):=by
  rintro g (rfl | rfl)
  ·exact e6
  exact e7
 refine ⟨fun g cs hg => ?_,fun g cs hg hi => ?_⟩
 ·simp only [qFH] at hg
  split at hg
  ·rename_i e
   cases hg
   obtain ⟨u,v,hm⟩:=key g e
   refine ⟨fun j d hd => ?_,fun j d w hd hw => ?_⟩
   ·match j with
    | 0=>exact ⟨_,hm,rfl⟩
    | j+1=>simp at hd
   match j with
   | 0 =>
    cases hd
    have:=hw.symm.trans hm
    cases this
    exact .err
   | j+1=>simp at hd
  exact h.1 g cs hg
 simp only [qFH] at hg
 split at hg
 ·cases hg; cases hi
 exact h.2 g cs hg hi
set_option maxRecDepth 100000
set_option maxHeartbeats 4000000
set_option linter.unusedSimpArgs false
theorem AW.keepE {P:Program} {c:Code} {Q:Exit→St→Prop} {st st':St} (ks:List Nat) (h:st.keep ks=st') (k:AW P G c Q st'):AW P G c Q st:=AW.keep ks (h ▸ k)
@[simp] def psC (s:PS):List V:=[.p (.sl 6 (s.left.map Tok.enc)),.ms 3,.p (.int .i64 s.deep),.p (.bool s.bad)]
theorem qTX {l:List Tok} (h:0<l.length):l[0]?=some (l.headD qBM):=by
 cases l with
 | nil=>cases h
 | cons t l=>rfl
@[simp] theorem qZH (ok:Bool) (s:PS):(qU ok s).left=s.left:=rfl
@[simp] theorem qYO (ok:Bool) (s:PS):(qU ok s).nodes=s.nodes:=rfl
@[simp] theorem qZI (ok:Bool) (s:PS):(qU ok s).deep=s.deep:=rfl
@[simp] theorem zAZ (ok:Bool) (s:PS):(qU ok s).bad=(s.bad || !ok):=rfl
@[simp] theorem zAX (x:Nd) (s:PS):(wC x s).2.left=s.left:=rfl
@[simp] theorem zAY (x:Nd) (s:PS):(wC x s).2.deep=s.deep:=rfl
@[simp] theorem zBJ (x:Nd) (s:PS):(wC x s).2.bad=s.bad:=rfl
@[simp] theorem qZG (x:Nd) (s:PS):(wC x s).2.nodes=s.nodes++[x]:=rfl
@[simp] theorem zCR (x:Nd) (s:PS):(wC x s).1=(s.nodes.length:Nat):=rfl
theorem kS (s:PS) (ok:Bool):AX Tryz.prog G 47 [.ptr 2 0,.p (.bool ok)] [(2,.vars 42 (psC s)),(3,.row 36 8 (s.nodes.map Nd.enc))] (.tuple []) [2,3] [(2,.vars 42 (psC (qU ok s))),(3,.row 36 8 ((qU ok s).nodes.map Nd.enc))]:=by
 refine AX.introU tok 900 Tryz.func47 (by kernel_rfl) rfl rfl ?_
 simp only [Tryz.f47,qN,List.map_cons,List.map_nil]
 refine rgz [] [[],[],[],[],[1,4,8],[],[],[],[4,12],[],[],[15]] ?_
 iterate 6 refine op1 tok ?_
 iterate 2 refine op2 tok ?_
 iterate 4 refine op1 tok ?_
 refine qA ?_
 exact qUB
theorem qPP (s:PS):AX Tryz.prog G 74 [.ptr 2 0] [(2,.vars 42 (psC s)),(3,.row 36 8 (s.nodes.map Nd.enc))] (.agg (kD s).cells) [2,3] [(2,.vars 42 (psC s)),(3,.row 36 8 (s.nodes.map Nd.enc))]:=by
 refine AX.introU tok 900 Tryz.func74 (by kernel_rfl) rfl rfl ?_
 simp only [Tryz.f74,qN,List.map_cons,List.map_nil]
 refine rgn [] [[]] ?_
 refine op1 tok ?_
 refine qA (AW.seq (rgn [] [[],[],[],[],[0,2,7],[],[],[],[],[0,2,7,12],[],[0,2,14]] ?_))
 iterate 5 refine op1 tok ?_
 iterate 6 refine op2 tok ?_
 refine op1 tok ?_
 refine qA (cnd ?_ ?_)
 ·intro h14
  try simp at h14
  rw [show kD s=qBM from by rcases h14 with h | h <;> simp [kD,h]]
  refine rgn [] [[],[2]] ?_
  iterate 2 refine op1 tok ?_
  refine qA ?_
  exact AW.ret (qP (k:=by simp [qBM]))
 intro h14
 try simp at h14
 rw [show kD s=s.left.headD qBM from by simp [kD,h14.1]]
 have hix:=qTX (l:=s.left) (List.length_pos_iff.2 h14.2)
 generalize s.left.headD qBM=t at *
 refine AW.skip (rgn [t.enc] [[],[],[],[2,19],[],[],[2]] ?_)
 iterate 7 refine op1 tok ?_ (hv:=by first | with_reducible exact True.intro | (first | (simp [hix]; done) | (simp [hix]; omega) | (simp; exact List.length_pos_iff.2 h14.2); done) | omega | simp | (simp +contextual; omega))
 refine qA ?_
 exact AW.ret qP
theorem qJS (s:PS) (x:Nd) (hn:s.nodes.length≤1000000):AX Tryz.prog G 43 [.ptr 2 0,.p x.enc] [(2,.vars 42 (psC s)),(3,.row 36 8 (s.nodes.map Nd.enc))] (.p (.int .i64 (wC x s).1)) [2] [(2,.vars 42 (psC (wC x s).2)),(3,.row 36 8 ((wC x s).2.nodes.map Nd.enc))]:=by
 refine AX.introU tok 900 Tryz.func43 (by kernel_rfl) rfl rfl ?_
 simp only [Tryz.f43,qN,List.map_cons,List.map_nil]
 refine rgn [] [[],[0,3]] ?_
 iterate 2 refine op1 tok ?_
 refine qA ?_
 refine AW.seqDrawS tok mixed 11 [[0],[0],[6],[7],[8],[3],[10],[9,11],[5],[13],[14,12]] [x.enc,x.enc] [] (by kernel_rfl) ?_
 iterate 11 refine d1 ?_
 refine DGo.nil (by kernel_rfl) ⟨by kernel_rfl, ?_⟩
 refine qE.nil ?_
 refine AW.keepE [0] (by conv=>lhs; simp) ?_
 refine AW.pinsTo [2] (by simp) rfl ?_
 refine AW.renE 912 3 (by simp) (by conv=>lhs; simp) ?_
 refine rgn [] [[],[],[],[18],[],[],[4]] ?_
 iterate 7 refine op1 tok ?_
 refine qA ?_
 exact AW.ret qP
theorem yO (s:PS) (x:Nd) (hkn:x.keys=[]) (hvn:x.kids=[]) (hn:s.nodes.length≤1000000):AX Tryz.prog G 43 [.ptr 2 0,.agg [.p (.int .i64 x.op),.p (.int .i64 x.n),.p (.str x.text),.p (.bool x.num.neg),.p (.str x.num.digits),.p (.int .i64 x.num.scale),.nilsl,.nilsl]] [(2,.vars 42 (psC s)),(3,.row 36 8 (s.nodes.map Nd.enc))] (.p (.int .i64 (wC x s).1)) [2] [(2,.vars 42 (psC (wC x s).2)),(3,.row 36 8 ((wC x s).2.nodes.map Nd.enc))]:=by
 refine AX.introU tok 900 Tryz.func43 (by kernel_rfl) rfl rfl ?_
 simp only [Tryz.f43,qN,List.map_cons,List.map_nil]
 refine rgn [] [[],[0,3]] ?_
 iterate 2 refine op1 tok ?_
 refine qA ?_
 refine AW.seqDrawS tok mixed 11 [[0],[0],[6],[7],[8],[3],[10],[9,11],[5],[13],[14,12]] [x.enc,x.enc] [] (by kernel_rfl) ?_
 iterate 11 refine d1 ?_ (hv:=by first | with_reducible exact True.intro | ((simp [hkn,hvn]); done) | omega | simp | (simp +contextual; omega))
 refine DGo.nil (by kernel_rfl) ⟨by kernel_rfl, ?_⟩
 refine qE.nil ?_
 refine AW.keepE [0] (by conv=>lhs; simp) ?_
 refine AW.pinsTo [2] (by simp) rfl ?_
 refine AW.renE 912 3 (by simp) (by conv=>lhs; simp) ?_
 refine rgn [] [[],[],[],[18],[],[],[4]] ?_
 iterate 7 refine op1 tok ?_
 refine qA ?_
 exact AW.ret qP
theorem vG (s:PS) (x:Nd) (hkn:x.keys=[]) (hn:s.nodes.length≤1000000):AX Tryz.prog G 43 [.ptr 2 0,.agg [.p (.int .i64 x.op),.p (.int .i64 x.n),.p (.str x.text),.p (.bool x.num.neg),.p (.str x.num.digits),.p (.int .i64 x.num.scale),.nilsl,.p (.sl 1 (x.kids.map (PD.int .i64)))]] [(2,.vars 42 (psC s)),(3,.row 36 8 (s.nodes.map Nd.enc))] (.p (.int .i64 (wC x s).1)) [2] [(2,.vars 42 (psC (wC x s).2)),(3,.row 36 8 ((wC x s).2.nodes.map Nd.enc))]:=by
 refine AX.introU tok 900 Tryz.func43 (by kernel_rfl) rfl rfl ?_
 simp only [Tryz.f43,qN,List.map_cons,List.map_nil]
 refine rgn [] [[],[0,3]] ?_
 iterate 2 refine op1 tok ?_
 refine qA ?_
 refine AW.seqDrawS tok mixed 11 [[0],[0],[6],[7],[8],[3],[10],[9,11],[5],[13],[14,12]] [x.enc,x.enc] [] (by kernel_rfl) ?_
 iterate 11 refine d1 ?_ (hv:=by first | with_reducible exact True.intro | ((simp [hkn]); done) | omega | simp | (simp +contextual; omega))
 refine DGo.nil (by kernel_rfl) ⟨by kernel_rfl, ?_⟩
 refine qE.nil ?_
 refine AW.keepE [0] (by conv=>lhs; simp) ?_
 refine AW.pinsTo [2] (by simp) rfl ?_
 refine AW.renE 912 3 (by simp) (by conv=>lhs; simp) ?_
 refine rgn [] [[],[],[],[18],[],[],[4]] ?_
 iterate 7 refine op1 tok ?_
 refine qA ?_
 exact AW.ret qP
theorem qRF (s:PS) (x:Nd) (hvn:x.kids=[]) (hn:s.nodes.length≤1000000):AX Tryz.prog G 43 [.ptr 2 0,.agg [.p (.int .i64 x.op),.p (.int .i64 x.n),.p (.str x.text),.p (.bool x.num.neg),.p (.str x.num.digits),.p (.int .i64 x.num.scale),.p (.sl 1 (x.keys.map PD.str)),.nilsl]] [(2,.vars 42 (psC s)),(3,.row 36 8 (s.nodes.map Nd.enc))] (.p (.int .i64 (wC x s).1)) [2] [(2,.vars 42 (psC (wC x s).2)),(3,.row 36 8 ((wC x s).2.nodes.map Nd.enc))]:=by
 refine AX.introU tok 900 Tryz.func43 (by kernel_rfl) rfl rfl ?_
 simp only [Tryz.f43,qN,List.map_cons,List.map_nil]
 refine rgn [] [[],[0,3]] ?_
 iterate 2 refine op1 tok ?_
 refine qA ?_
 refine AW.seqDrawS tok mixed 11 [[0],[0],[6],[7],[8],[3],[10],[9,11],[5],[13],[14,12]] [x.enc,x.enc] [] (by kernel_rfl) ?_
 iterate 11 refine d1 ?_ (hv:=by first | with_reducible exact True.intro | ((simp [hvn]); done) | omega | simp | (simp +contextual; omega))
 refine DGo.nil (by kernel_rfl) ⟨by kernel_rfl, ?_⟩
 refine qE.nil ?_
 refine AW.keepE [0] (by conv=>lhs; simp) ?_
 refine AW.pinsTo [2] (by simp) rfl ?_
 refine AW.renE 912 3 (by simp) (by conv=>lhs; simp) ?_
 refine rgn [] [[],[],[],[18],[],[],[4]] ?_
 iterate 7 refine op1 tok ?_
 refine qA ?_
 exact AW.ret qP
end Go.Proofs.YtbhhphabggcacaaGreatDoor
