import Derived.Test.YtdojfdaglbphlaaGreatDoorM4
import Derived.Test.YtdojfdaglbphlaaGreatDoorM3
import Derived.Test.YtdojfdaglbphlaaGreatDoorM1
import Derived.RangeFuncBox
import Derived.RangeFuncLeaves
import Derived.Shelf.Abstract
import Derived.WalkKit
import Derived.OwnWalkIn
import Derived.TacticsInMore
import Derived.LoopNIn
import Derived.LoopIn
import Derived.Maps.AppendAt
import Derived.Shelf.Sort.Plain
import Derived.Test.YtdojfdaglbphlaaGreatDoorProg
import Derived.Lib.ValidU
import Derived.Lib.LaidU8T
import Derived.Shelf.Unicode.DecodeAny
import Derived.Shelf.Small.Strs
import Derived.Shelf.Strings.Repeat
import Derived.Shelf.Strings.Builder1
import Derived.Shelf.Slices.In.SortNone
import Derived.Sort.OwnSorted
import Derived.Laws.RangeString
import Derived.Lib.RuneCount
import Derived.Lib.Repeat
import Derived.Lib.ValidLaws
import Derived.Shelf.Unicode.ValidAny
namespace Go.Proofs.YtdojfdaglbphlaaGreatDoor
open Go Go.RowKit Go.Shelf Go.Maps Go.Sort
attribute [local go_sem] Oper.semAt_some
def qJV {α:Type} (f:Nat→α) (k:Nat):List α:=(List.range k).map f
theorem qRT {α:Type} (f:Nat→α) (k:Nat):qJV f (k+1)=qJV f k++[f k]:=by simp [qJV,List.range_succ]
theorem qXO {α:Type} (f:Nat→α) (k:Nat):(qJV f k).length=k:=by simp [qJV]
theorem qRS (zs:List (List UInt8)) {k:Nat} (hk:k≤zs.length):qJV (fun j=>zs[j]?.getD []) k=zs.take k:=by
 apply List.ext_getElem
 ·simp [qJV,hk]
 intro i h1 h2
 have:i<zs.length:=by simp [qJV] at h1; omega
 simp [qJV,this]
theorem zKO (zs:List (List UInt8)):qJV (fun j=>zs[j]?.getD []) zs.length=zs:=by rw [qRS zs (Nat.le_refl _),List.take_length]
set_option maxRecDepth 100000 in
set_option maxHeartbeats 2000000 in
theorem zBW (F : Fence) (n : Nat) (h7 : F.fn 209) (hro : F.round = none) (hn : 1 ≤ n) (l Bs n₀ b off len cap : Nat) (zs : List (List UInt8)) (hreach : len * 16 ≤ 140737488351232) (hb : b < n₀) (J Jx : List (List UInt8) → World → Prop)
  (hY:∀ pre x W,J pre W→pre.length<len→YieldAt F (n-1) Tryz.prog l #[encStr x] W fun e W' =>
   (e = .returned (.bool true)∧J (pre++[x]) W'∧Below n₀ W W')∨(e = .returned (.bool false)∧Jx (pre++[x]) W'))
  (W:World) (hBs:W.cell? ⟨Bs,0,none⟩=some (.slice (some ⟨b,off,none⟩) len cap)) (hc:∀ j,j<len→W.cell? ⟨b,off+j,none⟩=some (encStr (zs[j]?.getD []))) (h0:J [] W) :
  CallsIn F n Tryz.prog 209 #[.func (.yield l) #[] #[],.pointer (some ⟨Bs,0,none⟩)] W fun e W'=>(∃ v,e = .returned v) ∧
   ((∃ ys,ys=qJV (fun j=>zs[j]?.getD []) len∧J ys W')∨(∃ pre,(∃ k,k≤len∧pre=qJV (fun j=>zs[j]?.getD []) k)∧Jx pre W')):=by
 refine callsIn_of_wp Tryz.func209 rfl h7 ?_ hro
 simp only [Tryz.ntmps209,List.size_toArray,List.length_cons,List.length_nil,Nat.reduceAdd,Nat.reduceSub,Array.replicate_succ,Array.replicate_zero,List.push_toArray,List.append_toArray,List.nil_append,List.cons_append]
 gi_wp2
 gi_loopw [7] (fun i wr=>∃ k:Nat,k≤len∧i = .int .i64 k∧J (qJV (fun j=>zs[j]?.getD []) k) wr∧Below n₀ W wr)
  (fun i _=>len-(intOf i).toNat)
 case atStart=>exact ⟨0,Nat.zero_le _,rfl,h0,Below.refl _ _⟩
 case round =>
  obtain ⟨k,hk,rfl,hJs,hnx⟩:=hrel
  have hcx:k<len→wr.cell? ⟨b,off+k,none⟩=some (encStr (zs[k]?.getD [])):=fun h=>(hnx.cell (p:=⟨b,off+k,none⟩) hb).trans (hc k h)
  by_cases hlt:k<len
  ·obtain ⟨fn,tmps,assign,body,hy,hR⟩:=hY _ (zs[k]?.getD []) wr hJs (by rw [qXO]; exact hlt)
   have hcx':=hcx hlt
   gi_wp2
   refine hR.mono ?_
   rintro e W3 (⟨rfl,hJ3,hk3⟩ | ⟨rfl,hJx3⟩)
   ·gi_wp2
    go_roundw
    case rel=>exact ⟨k+1,by omega,by simp,by rw [qRT]; exact hJ3,hnx.trans hk3⟩
    case measure=>simp [intOf]; omega
   gi_wp2
   refine bodyPost_ret (results_none rfl _ _ _) rfl ?_
   exact ⟨⟨_,rfl⟩,.inr ⟨_,⟨k+1,by omega,(qRT _ _).symm⟩,hJx3⟩⟩
  obtain rfl:k=len:=by omega
  gi_wp2
  go_end0
  exact ⟨⟨_,rfl⟩,.inl ⟨_,rfl,hJs⟩⟩
def zBJ (n₀:Nat) (W:World) (sv:Value) (zs:List (List UInt8)):Prop :=
 (zs=[]∧∃ a c,sv = .slice a 0 c)∨∃ b off cap,sv = .slice (some ⟨b,off,none⟩) zs.length cap∧b<n₀∧∀ j,j<zs.length→W.cell? ⟨b,off+j,none⟩=some (encStr (zs[j]?.getD []))
theorem zBJ.below {n₀:Nat} {A B:World} (h:Below n₀ A B) {sv:Value} {zs:List (List UInt8)}:zBJ n₀ A sv zs→zBJ n₀ B sv zs
 | .inl e => .inl e
 | .inr ⟨b,off,cap,e,hb,hc⟩ => .inr ⟨b,off,cap,e,hb,fun j hj=>(h.cell (p:=⟨b,off+j,none⟩) hb).trans (hc j hj)⟩
set_option maxRecDepth 100000 in
set_option maxHeartbeats 1000000 in
theorem qND (F : Fence) (n : Nat) (h7 : F.fn 209) (hro : F.round = none) (l Bs : Nat) (a : Option Addr) (c : Nat) (J : List (List UInt8) → World → Prop) (W : World) (hBs : W.cell? ⟨Bs, 0, none⟩ = some (.slice a 0 c)) (h0 : J [] W) :
  CallsIn F n Tryz.prog 209 #[.func (.yield l) #[] #[],.pointer (some ⟨Bs,0,none⟩)] W fun e W'=>(∃ v,e = .returned v)∧J [] W':=by
 refine callsIn_of_wp Tryz.func209 rfl h7 ?_ hro
 simp only [Tryz.ntmps209,List.size_toArray,List.length_cons,List.length_nil,Nat.reduceAdd,Nat.reduceSub,Array.replicate_succ,Array.replicate_zero,List.push_toArray,List.append_toArray,List.nil_append,List.cons_append]
 gi_wp2
 gi_loopw [7] (fun i wr=>i = .int .i64 0∧J [] wr) (fun _ _=>0)
 case atStart=>exact ⟨rfl,h0⟩
 case round =>
  obtain ⟨rfl,hJs⟩:=hrel
  gi_wp2
  go_end0
  exact ⟨⟨_,rfl⟩,hJs⟩
theorem qUP (F : Fence) (n : Nat) (h7 : F.fn 209) (hro : F.round = none) (hn : 1 ≤ n) (Bs n₀ : Nat) (sv : Value) (zs : List (List UInt8)) (hreach : zs.length * 16 ≤ 140737488351232) (w : World) (hBs : Bs < w.heap.size) (hn₀ : n₀ ≤ w.heap.size)
  (hc:w.cell? ⟨Bs,0,none⟩=some sv) (hI:zBJ n₀ w sv zs) :
  SeqStopsK F n Tryz.prog 209 #[.pointer (some ⟨Bs,0,none⟩)] (fun x:List UInt8 => #[encStr x]) (Below n₀) (fun ys=>ys=zs) (fun pre=>pre <+: zs) zs.length w:=fun l J Jx W hW _ _ hY h0=>by
 have hc':=(hW.cell (p:=⟨Bs,0,none⟩) hBs).trans hc
 rcases hI.below (hW.mono hn₀) with ⟨rfl,a,c,rfl⟩ | ⟨b,off,cap,rfl,hb,hcs⟩
 ·exact (qND F n h7 hro l Bs a c J W hc' h0).mono fun e W' ⟨he,hj⟩=>⟨he,.inl ⟨_,rfl,hj⟩⟩
 refine (zBW F n h7 hro hn l Bs n₀ b off zs.length cap zs hreach hb J Jx hY W hc' hcs h0).mono ?_
 rintro e W' ⟨he,⟨ys,rfl,hj⟩ | ⟨pre,⟨k,hk,rfl⟩,hj⟩⟩
 ·exact ⟨he,.inl ⟨_,zKO zs,hj⟩⟩
 exact ⟨he,.inr ⟨_,by rw [qRS zs hk]; exact List.take_prefix _ _,hj⟩⟩
theorem zPY:(Tryz.prog.info? 9).map (fun i=>(i.zero,i.size,i.bytes))=some (some (.string .empty),1,16):=by kernel_rfl
set_option maxRecDepth 100000 in
set_option maxHeartbeats 2000000 in
theorem qWR (F : Fence) (n : Nat) (h3 : F.fn 230) (h5 : F.fn 209) (hro : F.round = none) (hn : 3 ≤ n) (Bs : Nat) (sv : Value) (zs : List (List UInt8)) (hlen : zs.length ≤ maxLen) (hbytes : zs.length * 16 ≤ 140737488351232) (w : World)
  (hBs:Bs<w.heap.size) (hc0:w.cell? ⟨Bs,0,none⟩=some sv) (hI:zBJ w.heap.size w sv zs) :
  CallsIn F n Tryz.prog 230 #[.slice none 0 0,.func (.func 209) #[] #[.pointer (some ⟨Bs,0,none⟩)]] w fun e W'=>∃ v,e = .returned v∧W'.ownsRow w.heap.size 9 1 v zs.length (zs.map encStr)∧Below w.heap.size w W':=by
 have h1:1≤n:=by omega
 obtain ⟨i0,hi,hz0,hz1,hz2⟩:=info_parts zPY
 refine callsIn_of_wp_marks Tryz.func230 rfl h3 ?_ hro
 simp only [Tryz.ntmps230,List.size_toArray,List.length_cons,List.length_nil,Nat.reduceAdd,Nat.reduceSub,Array.replicate_succ,Array.replicate_zero,List.push_toArray,List.append_toArray,List.nil_append,List.cons_append]
 gi_wp2
 have bO:=Boxed.new w 27 (.slice none 0 0)
 have hB0:Below w.heap.size w (w.alloc (.cells #[.slice none 0 0] 27)):=(Below.refl _ w).alloc (Nat.le_refl _) _
 refine wpIn_rangeFunc_ownG hro h1 (gf:=209) (lb := #[.pointer (some ⟨Bs,0,none⟩)]) rfl h5 (enters_of Tryz.func209 (by kernel_rfl) rfl)
  (qUP F (n-1) h5 hro (by omega) Bs w.heap.size sv zs hbytes _ (by simp; omega) (by simp) ((hB0.cell (p:=⟨Bs,0,none⟩) hBs).trans hc0) (hI.below hB0)) belowK_t (belowK_b (by simp)) (Below.refl _ _) (fun _=>rfl)
  (fun pre W=>(∃ v,Boxed W w.heap.size 27 v∧W.ownsRow w.heap.size 9 1 v pre.length (pre.map encStr)∧True)∧Below w.heap.size w W)
  (fun _ _ _=>False)
  (OwnFrom.and (Own.from (holdsRow_own w.heap.size w.heap.size 27 9 1 (fun pre:List (List UInt8)=>pre.length) (fun pre=>pre.map encStr) (fun _ _=>True)) _) (ownFrom_below (Nat.le_refl _) (by simp)))
  (fun _ _ _ _ _ hs _ _=>hs)
  ⟨⟨_,bO,World.ownsRow_nil _ _ _ _,trivial⟩,hB0⟩
  (fun x=>{ tmps := #[.slice none 0 0,.func (.func 209) #[] #[.pointer (some ⟨Bs,0,none⟩)],.pointer (some ⟨w.heap.size,0,none⟩),undef,.slice none 0 0,encStr x,.func (.func 209) #[] #[.pointer (some ⟨Bs,0,none⟩)],encStr x,undef,undef,undef,undef,undef],defers:=[] }) ?assign ?body ?done ?stop
 case assign =>
  intro l x W K hK
  gi_wp2
  exact hK
 case body =>
  rintro l pre x W ⟨⟨v,hv,hrow,_⟩,hB⟩ hlt
  have hc:=hv.cell
  gi_wp2_with (gi_at_builtin; refine wpListIn_append_own _ rfl _ _ 27 rfl w.heap.size 9 i0 (.string .empty) 1 16 Tryz.underlying27 hi hz0 hz1 hz2 rfl (by decide) _ _ _ rfl (hrow.alloc _) ⟨W.heap.size,0,none⟩ 1 1 [encStr x] rfl rfl (cell_one_new _ _ _) (by simp [Value.oneCell']) (by omega) (by omega) (by have:=hB.size; simp; omega) ?_; intro v' w1 hown' hgrow _; obtain ⟨g',cap',rfl⟩:=ownsRow_succ hown'; obtain ⟨hv1,hv2,hr2,hk2,hb2⟩:=hv.appended (by decide) hrow hB.size (Nat.le_refl _) hown' hgrow; have hc1:=hv1.cell; have hf1:=hv1.frozen)
  exact ⟨hk2.from _,hb2,⟨_,hv2,by simpa using hr2,trivial⟩,hB.trans hb2⟩
 case done =>
  rintro D ys W hD rfl ⟨⟨v,hv,hrow,_⟩,hB⟩ hK
  have hc:=hv.cell
  gi_wp2
  refine ⟨by simp,.inl ⟨_,_,rfl,run_takeDeferred hK, ?_⟩⟩
  exact ⟨_,results_tmp rfl _ _ _,v,rfl,ownsRow_putObj hrow _ hK rfl,hB.trans (belowK_b (w:=w) (Nat.le_refl _) W D _ _ (by simp at hD; omega) hK rfl rfl)⟩
 case stop =>
  rintro D c pre W _ _ h _
  exact h.elim
set_option maxRecDepth 100000 in
set_option maxHeartbeats 2000000 in
theorem zDS (F : Fence) (n : Nat) (h2 : F.fn 207) (h3 : F.fn 230) (h5 : F.fn 209) (hro : F.round = none) (hn : 4 ≤ n) (Bs : Nat) (sv : Value) (zs : List (List UInt8)) (hlen : zs.length ≤ maxLen) (hbytes : zs.length * 16 ≤ 140737488351232) (w : World)
  (hBs:Bs<w.heap.size) (hc0:w.cell? ⟨Bs,0,none⟩=some sv) (hI:zBJ w.heap.size w sv zs) :
  CallsIn F n Tryz.prog 207 #[.func (.func 209) #[] #[.pointer (some ⟨Bs,0,none⟩)]] w fun e W'=>∃ v,e = .returned v∧W'.ownsRow w.heap.size 9 1 v zs.length (zs.map encStr)∧Below w.heap.size w W':=by
 have h1:1≤n:=by omega
 refine callsIn_of_wp Tryz.func207 rfl h2 ?_ hro
 simp only [Tryz.ntmps207,List.size_toArray,List.length_cons,List.length_nil,Nat.reduceAdd,Nat.reduceSub,Array.replicate_succ,Array.replicate_zero,List.push_toArray,List.append_toArray,List.nil_append,List.cons_append]
 gi_wp2_with (gi_at_call 230; refine (qWR F (n-1) h3 h5 hro (by omega) Bs sv zs hlen hbytes _ hBs hc0 hI).mono ?_; rintro e W ⟨v,rfl,hrow,hb⟩)
 go_ret
 exact ⟨v,rfl,hrow,hb⟩
end Go.Proofs.YtdojfdaglbphlaaGreatDoor
namespace Go.Proofs.YtdojfdaglbphlaaGreatDoor
open Sy Go
namespace Sy
variable {P:Program} {G:qR}
theorem AFn.of_calls {f : FuncId} {args : List PD} {r : PD} (hc : qBK P f) (h : ∀ (M : zG) (w : World) (vs : Array Value), GOK G M w → (∀ b o v, M b o = some v → w.cell? ⟨b, o, none⟩ = some v) → vs.size = args.length →
  (∀ (i:Nat) u d,vs[i]?=some u→args[i]?=some d→Rd M u d)→Calls P f vs w fun e w'=>∃ v,e = .returned v∧Rd M v r∧RowKit.Below w.heap.size w w'):AFn P G f args r:=by
 refine ⟨hc,fun M w vs hg hmem hsz hrd=>(h M w vs hg hmem hsz hrd).mono ?_⟩
 rintro e w' ⟨v,rfl,hv,hb⟩
 refine ⟨v,M,rfl,hv,fun b o u hu => ?_,fun _ _ _ h=>h,fun _ _ _=>rfl,hb⟩
 have h1:=hmem b o u hu
 exact (World.cell?_of_block (w:=w) (hb.block b (jP h1))).trans h1
theorem uX {f : FuncId} {fn : Func} {c : Code} (hf : P.funcs[f]? = some fn) (hn : (fn.name == "runtime.NumGoroutine") = false) (hb : fn.body = some c) : qBK P f := ⟨fn, c, hf, hn, hb⟩
end Sy
variable {G:qR}
end Go.Proofs.YtdojfdaglbphlaaGreatDoor
namespace Go.Proofs
open Go.Shelf
def Tryz.lays106_ren:Go.Shelf.Ren:=⟨fun | 106=>104 | 213=>160 | 265=>206 | n=>n,fun | 9=>9 | 3=>3 | n=>n,fun | n=>n⟩
theorem Tryz.lays106:Go.Proofs.Lays.n106 Tryz.prog Tryz.lays106_ren:={
 mixed:=by kernel_rfl
 f106:=Tryz.func104.trans (congrArg some (by kernel_rfl))
 f213:=Tryz.func160.trans (congrArg some (by kernel_rfl))
 f265:=Tryz.func206.trans (congrArg some (by kernel_rfl))
 t3:=Tryz.underlying3
 a3:=Tryz.isAgg3
 z3:=Tryz.sizeOf3
 v3:=Tryz.zeroValue3
 t9:=Tryz.underlying9
 a9:=Tryz.isAgg9
 z9:=Tryz.sizeOf9
 v9:=Tryz.zeroValue9 }
def Tryz.lays105_ren:Go.Shelf.Ren:=⟨fun | 105=>99 | 212=>152 | 99=>153 | 165=>154 | 166=>155 | 170=>156 | 169=>157 | 263=>201 | 264=>202 | 206=>203 | 240=>204 | 241=>205 | 276=>228 | 277=>229 | n=>n,fun | 9=>9 | 3=>3 | 4=>4 | 20=>20 | 0=>0 | 46=>158 | 109=>159 | 5=>5 | 72=>163 | 76=>167 | 51=>208 | 146=>209 | 53=>24 | 148=>211 | 70=>161 | 37=>107 | 75=>166 | 127=>213 | 164=>232 | 80=>101 | n=>n,fun | n=>n⟩
theorem Tryz.lays105:Go.Proofs.Lays.n105 Tryz.prog Tryz.lays105_ren:={
 mixed:=by kernel_rfl
 f99:=Tryz.func153.trans (congrArg some (by kernel_rfl))
 f105:=Tryz.func99.trans (congrArg some (by kernel_rfl))
 f165:=Tryz.func154.trans (congrArg some (by kernel_rfl))
 f166:=Tryz.func155.trans (congrArg some (by kernel_rfl))
 f169:=Tryz.func157.trans (congrArg some (by kernel_rfl))
 f170:=Tryz.func156.trans (congrArg some (by kernel_rfl))
 f206:=Tryz.func203.trans (congrArg some (by kernel_rfl))
 f212:=Tryz.func152.trans (congrArg some (by kernel_rfl))
 f240:=Tryz.func204.trans (congrArg some (by kernel_rfl))
 f241:=Tryz.func205.trans (congrArg some (by kernel_rfl))
 f263:=Tryz.func201.trans (congrArg some (by kernel_rfl))
 f264:=Tryz.func202.trans (congrArg some (by kernel_rfl))
 f276:=Tryz.func228.trans (congrArg some (by kernel_rfl))
 f277:=Tryz.func229.trans (congrArg some (by kernel_rfl))
 t0:=Tryz.underlying0
 a0:=Tryz.isAgg0
 z0:=Tryz.sizeOf0
 v0:=Tryz.zeroValue0
 t3:=Tryz.underlying3
 a3:=Tryz.isAgg3
 z3:=Tryz.sizeOf3
 v3:=Tryz.zeroValue3
 t4:=Tryz.underlying4
 a4:=Tryz.isAgg4
 z4:=Tryz.sizeOf4
 v4:=Tryz.zeroValue4
 t5:=Tryz.underlying5
 a5:=Tryz.isAgg5
 z5:=Tryz.sizeOf5
 v5:=Tryz.zeroValue5
 t9:=Tryz.underlying9
 a9:=Tryz.isAgg9
 z9:=Tryz.sizeOf9
 v9:=Tryz.zeroValue9
 t20:=Tryz.underlying20
 a20:=Tryz.isAgg20
 z20:=Tryz.sizeOf20
 v20:=Tryz.zeroValue20
 t37:=Tryz.underlying107
 a37:=Tryz.isAgg107
 z37:=Tryz.sizeOf107
 v37:=Tryz.zeroValue107
 t46:=Tryz.underlying158
 a46:=Tryz.isAgg158
 z46:=Tryz.sizeOf158
 v46:=Tryz.zeroValue158
 t51:=Tryz.underlying208
 a51:=Tryz.isAgg208
 z51:=Tryz.sizeOf208
 v51:=Tryz.zeroValue208
 t53:=Tryz.underlying24
 a53:=Tryz.isAgg24
 z53:=Tryz.sizeOf24
 v53:=Tryz.zeroValue24
 t70:=Tryz.underlying161
 a70:=Tryz.isAgg161
 z70:=Tryz.sizeOf161
 v70:=Tryz.zeroValue161
 t72:=Tryz.underlying163
 a72:=Tryz.isAgg163
 z72:=Tryz.sizeOf163
 v72:=Tryz.zeroValue163
 t75:=Tryz.underlying166
 a75:=Tryz.isAgg166
 z75:=Tryz.sizeOf166
 v75:=Tryz.zeroValue166
 t76:=Tryz.underlying167
 a76:=Tryz.isAgg167
 z76:=Tryz.sizeOf167
 v76:=Tryz.zeroValue167
 t109:=Tryz.underlying159
 a109:=Tryz.isAgg159
 z109:=Tryz.sizeOf159
 v109:=Tryz.zeroValue159
 t127:=Tryz.underlying213
 a127:=Tryz.isAgg213
 z127:=Tryz.sizeOf213
 v127:=Tryz.zeroValue213
 t146:=Tryz.underlying209
 a146:=Tryz.isAgg209
 z146:=Tryz.sizeOf209
 v146:=Tryz.zeroValue209
 t148:=Tryz.underlying211
 a148:=Tryz.isAgg211
 z148:=Tryz.sizeOf211
 v148:=Tryz.zeroValue211
 t164:=Tryz.underlying232
 a164:=Tryz.isAgg232
 z164:=Tryz.sizeOf232
 v164:=Tryz.zeroValue232 }
def Tryz.lays190_ren:Go.Shelf.Ren:=⟨fun | 190=>208 | 125=>232 | 258=>231 | 128=>258 | 129=>241 | 302=>249 | 303=>250 | 304=>251 | 305=>252 | 306=>253 | 307=>254 | 308=>255 | 309=>256 | 310=>257 | 333=>269 | 329=>270 | 330=>271 | 334=>272 | 335=>273 | 336=>210 | 344=>277 | n=>n,fun | 31=>27 | 9=>9 | 3=>3 | 46=>158 | 0=>0 | 51=>208 | 53=>24 | 4=>4 | 183=>254 | 182=>253 | 131=>206 | 5=>5 | 218=>267 | 222=>271 | 228=>276 | 229=>139 | n=>n,fun | n=>n⟩
theorem Tryz.lays190:Go.Proofs.Lays.n190 Tryz.prog Tryz.lays190_ren:={
 mixed:=by kernel_rfl
 f125:=Tryz.func232.trans (congrArg some (by kernel_rfl))
 f128:=Tryz.func258.trans (congrArg some (by kernel_rfl))
 f129:=Tryz.func241.trans (congrArg some (by kernel_rfl))
 f190:=Tryz.func208.trans (congrArg some (by kernel_rfl))
 f258:=Tryz.func231.trans (congrArg some (by kernel_rfl))
 f302:=Tryz.func249.trans (congrArg some (by kernel_rfl))
 f303:=Tryz.func250.trans (congrArg some (by kernel_rfl))
 f304:=Tryz.func251.trans (congrArg some (by kernel_rfl))
 f305:=Tryz.func252.trans (congrArg some (by kernel_rfl))
 f306:=Tryz.func253.trans (congrArg some (by kernel_rfl))
 f307:=Tryz.func254.trans (congrArg some (by kernel_rfl))
 f308:=Tryz.func255.trans (congrArg some (by kernel_rfl))
 f309:=Tryz.func256.trans (congrArg some (by kernel_rfl))
 f310:=Tryz.func257.trans (congrArg some (by kernel_rfl))
 f329:=Tryz.func270.trans (congrArg some (by kernel_rfl))
 f330:=Tryz.func271.trans (congrArg some (by kernel_rfl))
 f333:=Tryz.func269.trans (congrArg some (by kernel_rfl))
 f334:=Tryz.func272.trans (congrArg some (by kernel_rfl))
 f335:=Tryz.func273.trans (congrArg some (by kernel_rfl))
 f336:=Tryz.func210.trans (congrArg some (by kernel_rfl))
 f344:=Tryz.func277.trans (congrArg some (by kernel_rfl))
 t0:=Tryz.underlying0
 a0:=Tryz.isAgg0
 z0:=Tryz.sizeOf0
 v0:=Tryz.zeroValue0
 t3:=Tryz.underlying3
 a3:=Tryz.isAgg3
 z3:=Tryz.sizeOf3
 v3:=Tryz.zeroValue3
 t4:=Tryz.underlying4
 a4:=Tryz.isAgg4
 z4:=Tryz.sizeOf4
 v4:=Tryz.zeroValue4
 t5:=Tryz.underlying5
 a5:=Tryz.isAgg5
 z5:=Tryz.sizeOf5
 v5:=Tryz.zeroValue5
 t9:=Tryz.underlying9
 a9:=Tryz.isAgg9
 z9:=Tryz.sizeOf9
 v9:=Tryz.zeroValue9
 t31:=Tryz.underlying27
 a31:=Tryz.isAgg27
 z31:=Tryz.sizeOf27
 v31:=Tryz.zeroValue27
 t46:=Tryz.underlying158
 a46:=Tryz.isAgg158
 z46:=Tryz.sizeOf158
 v46:=Tryz.zeroValue158
 t51:=Tryz.underlying208
 a51:=Tryz.isAgg208
 z51:=Tryz.sizeOf208
 v51:=Tryz.zeroValue208
 t53:=Tryz.underlying24
 a53:=Tryz.isAgg24
 z53:=Tryz.sizeOf24
 v53:=Tryz.zeroValue24
 t131:=Tryz.underlying206
 a131:=Tryz.isAgg206
 z131:=Tryz.sizeOf206
 v131:=Tryz.zeroValue206
 t182:=Tryz.underlying253
 a182:=Tryz.isAgg253
 z182:=Tryz.sizeOf253
 v182:=Tryz.zeroValue253
 t183:=Tryz.underlying254
 a183:=Tryz.isAgg254
 z183:=Tryz.sizeOf254
 v183:=Tryz.zeroValue254
 t218:=Tryz.underlying267
 a218:=Tryz.isAgg267
 z218:=Tryz.sizeOf267
 v218:=Tryz.zeroValue267
 t222:=Tryz.underlying271
 a222:=Tryz.isAgg271
 z222:=Tryz.sizeOf271
 v222:=Tryz.zeroValue271
 t228:=Tryz.underlying276
 a228:=Tryz.isAgg276
 z228:=Tryz.sizeOf276
 v228:=Tryz.zeroValue276
 t229:=Tryz.underlying139
 a229:=Tryz.isAgg139
 z229:=Tryz.sizeOf139
 v229:=Tryz.zeroValue139 }
def Tryz.lays169_ren:Go.Shelf.Ren:=⟨fun | 169=>157 | n=>n,fun | 70=>161 | 9=>9 | 0=>0 | 72=>163 | 37=>107 | 127=>213 | 3=>3 | 5=>5 | n=>n,fun | n=>n⟩
theorem Tryz.lays169:Go.Proofs.Lays.n169 Tryz.prog Tryz.lays169_ren:={
 mixed:=by kernel_rfl
 f169:=Tryz.func157.trans (congrArg some (by kernel_rfl))
 t0:=Tryz.underlying0
 a0:=Tryz.isAgg0
 z0:=Tryz.sizeOf0
 v0:=Tryz.zeroValue0
 t3:=Tryz.underlying3
 a3:=Tryz.isAgg3
 z3:=Tryz.sizeOf3
 v3:=Tryz.zeroValue3
 t9:=Tryz.underlying9
 a9:=Tryz.isAgg9
 z9:=Tryz.sizeOf9
 v9:=Tryz.zeroValue9
 t37:=Tryz.underlying107
 a37:=Tryz.isAgg107
 z37:=Tryz.sizeOf107
 v37:=Tryz.zeroValue107
 t70:=Tryz.underlying161
 a70:=Tryz.isAgg161
 z70:=Tryz.sizeOf161
 v70:=Tryz.zeroValue161
 t72:=Tryz.underlying163
 a72:=Tryz.isAgg163
 z72:=Tryz.sizeOf163
 v72:=Tryz.zeroValue163
 t127:=Tryz.underlying213
 a127:=Tryz.isAgg213
 z127:=Tryz.sizeOf213
 v127:=Tryz.zeroValue213 }
end Go.Proofs
namespace Go.Proofs.YtdojfdaglbphlaaGreatDoor
open Sy Go
variable {G:qR}
theorem zOW {M:zG} {vs:Array Value} {s t:List UInt8} (hsz:vs.size=2) (h:∀ (i:Nat) u d,vs[i]?=some u→[PD.str s,PD.str t][i]?=some d→Rd M u d):∃ a b:ByteArray,vs = #[.string a,.string b]∧a.data.toList=s∧b.data.toList=t:=by
 obtain ⟨l⟩:=vs
 match l,hsz with
 | [u,v],_ =>
  have h1:=h 0 u (.str s) rfl rfl
  have h2:=h 1 v (.str t) rfl rfl
  cases h1 with
  | @str a _ ha _ =>
  cases h2 with
  | @str b _ hb _=>exact ⟨a,b,rfl,ha,hb⟩
theorem zDZ {M:zG} {vs:Array Value} {s:List UInt8} {n:Int} (hsz:vs.size=2) (h:∀ (i:Nat) u d,vs[i]?=some u→[PD.str s,PD.int .i64 n][i]?=some d→Rd M u d):∃ a:ByteArray,vs = #[.string a,.int .i64 n]∧a.data.toList=s∧n≤9223372036854775807:=by
 obtain ⟨l⟩:=vs
 match l,hsz with
 | [u,v],_ =>
  have h1:=h 0 u (.str s) rfl rfl
  have h2:=h 1 v (.int .i64 n) rfl rfl
  cases h1 with
  | @str a _ ha _ =>
  cases h2 with
  | int h3 h4=>exact ⟨a,rfl,ha,by rw [vX] at h4; exact h4⟩
theorem zEE (a b:List UInt8):AFn Tryz.prog G 104 [.str a,.str b] (.int .i64 (Lib.compareBytes a b)):=by
 refine AFn.of_calls (uX Tryz.func104 (by kernel_rfl) rfl) fun M w vs hg hmem hsz hrd => ?_
 obtain ⟨x,y,rfl,rfl,rfl⟩:=zOW hsz hrd
 refine (Any.strings_Compare Tryz.lays106 x y w).mono ?_
 rintro e w' ⟨rfl,rfl⟩
 have hb : -1≤Lib.compareBytes x.data.toList y.data.toList∧Lib.compareBytes x.data.toList y.data.toList≤1:=by
  generalize x.data.toList=l; generalize y.data.toList=m
  induction l generalizing m with
  | nil=>cases m <;> simp [Lib.compareBytes]
  | cons a l ih =>
   cases m with
   | nil=>simp [Lib.compareBytes]
   | cons b m =>
    simp only [Lib.compareBytes]
    split
    ·omega
    split
    ·omega
    exact ih m
 exact ⟨_,rfl,.int (by rw [uM]; simp only [jF]; omega) (by rw [vX]; simp only [jG]; omega),RowKit.Below.refl _ _⟩
theorem qRK:Builder.Extra Tryz.prog Tryz.lays105_ren where
 sizeBuilder:=by kernel_rfl
 liesBuilder:=by kernel_rfl
 t5:=Tryz.underlying5
 a5:=Tryz.isAgg5
 z5:=Tryz.sizeOf5
 v5:=Tryz.zeroValue5
 infoByte:=by kernel_rfl
 cellsByte:=by kernel_rfl
 sizeByte:=by kernel_rfl
 neB5:=by decide
theorem qDO (s:List UInt8) (n:Nat) (h:s.length * n≤140737488355328):AFn Tryz.prog G 99 [.str s,.int .i64 n] (.str (Lib.repeatL s n)):=by
 refine AFn.of_calls (uX Tryz.func99 (by kernel_rfl) rfl) fun M w vs hg hmem hsz hrd => ?_
 obtain ⟨x,rfl,rfl,hn⟩:=zDZ hsz hrd
 refine (Any.strings_Repeat Tryz.lays105 qRK x n w (by omega) (by rw [xI rfl]; exact h)).mono ?_
 rintro e w' ⟨rfl,hb⟩
 refine ⟨_,rfl,.str (by simp) ?_,hb⟩
 rw [Lib.repeatL_length,Nat.mul_comm]; simp only [maxLen]; omega
open Sy Go Go.RowKit Go.Shelf Go.Maps Go.Sort
attribute [local go_sem] Oper.semAt_some
set_option linter.unusedSimpArgs false
set_option linter.unusedVariables false
def zL (ks:List (List UInt8)):List (List UInt8):=ks.mergeSort fun x y=>decide (x≤y)
theorem uF (ks:List (List UInt8)):(zL ks).length=ks.length:=List.length_mergeSort _
set_option maxRecDepth 100000 in
set_option maxHeartbeats 2000000 in
theorem qUX (Bs : Nat) (sv : Value) (zs : List (List UInt8)) (hlen : zs.length ≤ maxLen) (hbytes : zs.length * 16 ≤ 140737488351232) (w : World) (hBs : Bs < w.heap.size) (hc0 : w.cell? ⟨Bs, 0, none⟩ = some sv) (hI : zBJ w.heap.size w sv zs) :
  Calls Tryz.prog 162 #[.func (.func 209) #[] #[.pointer (some ⟨Bs,0,none⟩)]] w fun e W'=>∃ v,e = .returned v∧W'.ownsRow w.heap.size 9 1 v zs.length ((zL zs).map encStr)∧Below w.heap.size w W':=by
 refine (callsIn_wide (n:=6)).1 ?_
 have h1:1≤6:=by omega
 refine callsIn_of_wp Tryz.func162 rfl trivial ?_ rfl
 simp only [Tryz.ntmps162,List.size_toArray,List.length_cons,List.length_nil,Nat.reduceAdd,Nat.reduceSub,Array.replicate_succ,Array.replicate_zero,List.push_toArray,List.append_toArray,List.nil_append,List.cons_append]
 gi_wp2_with (refine ⟨trivial, ?_⟩; gi_at_call 207; refine (zDS Fence.wide 5 trivial trivial trivial rfl (by omega) Bs sv zs hlen hbytes _ hBs hc0 hI).mono ?_; rintro e W ⟨v,rfl,hrow,hb⟩)
 rcases hrow.2 with ⟨rfl,hz⟩ | ⟨gb,cap,cur,rfl,hbase,hgb,r1,r2,r3,r4⟩
 ·have hss:zs=[]:=List.eq_nil_of_length_eq_zero hz
  subst hss
  gi_wp2_with (refine ⟨trivial, ?_⟩; gi_at_call 208; refine (callsIn_wide.2 (Any.slices_Sort_string_none Tryz.lays190 none 0 W)).mono ?_; rintro e w' ⟨rfl,rfl⟩)
  go_ret
  exact ⟨.slice none 0 0,rfl,by simpa [zL] using hrow,hb⟩
 have hH:Holds encStr W gb 0 zs.toArray:=holds_of_block hgb (by simpa using r4)
 have hgl:gb<W.heap.size:=(Array.getElem?_eq_some_iff.1 hgb).1
 have cS:=Any.slices_Sort_string Tryz.lays190 gb 0 cap zs W hH hgl (by omega)
 gi_wp2_with (refine ⟨trivial, ?_⟩; gi_at_call 208; refine (callsIn_wide.2 cS).mono ?_; rintro e w' ⟨rfl,nn,os,rfl⟩)
 go_ret
 exact ⟨_,rfl,ownsRow_sorted (by simp) hbase hgb r1 r2 r3,hb.grown (grownBy_sorted _) hb.size (fun j hj=>by cases hj; exact hbase)⟩
theorem zJI {ba:ByteArray} {s:List UInt8} (h:ba.data.toList=s):Value.string ba=encStr s:=by
 subst h; rfl
theorem zPX {M:zG} {w:World} {u:Value} {ks:List (List UInt8)} (hmem:∀ b o v,M b o=some v→w.cell? ⟨b,o,none⟩=some v) (h:Rd M u (.sl 1 (ks.map PD.str))):zBJ w.heap.size w u ks∧ks.length≤maxLen∧∀ s∈ks,s.length≤maxLen:=by
 cases h with
 | @sl a n c _ _ b o hn hnc hcm ha h5 h6 h7 =>
 rw [List.length_map] at hn
 by_cases hk:ks=[]
 ·subst hk; simp at hn; subst hn; exact ⟨.inl ⟨rfl,a,c,rfl⟩,by simp,by simp⟩
 have hpos:0<ks.length:=List.length_pos_iff.2 hk
 obtain rfl:=ha (by omega)
 subst hn
 have hcell:∀ j,j<ks.length→w.cell? ⟨b,o+j,none⟩=some (encStr (ks[j]?.getD []))∧(ks[j]?.getD []).length≤maxLen:=fun j hj=>by
  have hg:(ks.map PD.str)[j]?=some (.str ks[j]):=by simp [hj]
  obtain ⟨u,hu,_⟩:=h6 j _ 0 hg (by omega)
  have h8:=h7 j _ 0 _ u hg rfl hu
  cases h8 with
  | @str ba _ hba hl =>
  have:=hmem _ _ _ hu
  simp only [Nat.mul_one,Nat.add_zero] at this
  refine ⟨by rw [this,zJI hba]; simp [hj],by simpa [hj] using hl⟩
 refine ⟨.inr ⟨b,o,c,rfl,jP (hcell 0 hpos).1,fun j hj=>(hcell j hj).1⟩,by omega,fun s hs => ?_⟩
 obtain ⟨j,hj,rfl⟩:=List.mem_iff_getElem.1 hs
 have:=(hcell j hj).2
 simpa [hj] using this
theorem zHI (i : Nat) (ks : List (List UInt8)) (hb : ks.length * 16 ≤ 140737488351232) : AX Tryz.prog G 162 [.func (.func 209) [] [.ptr i 0]] [(i, .vars 27 [.p (.sl 1 (ks.map PD.str))])]
  (.p (.sl 1 ((zL ks).map PD.str))) [] []:=by
 refine ⟨uX Tryz.func162 (by kernel_rfl) rfl,fun M μ w vs hg rel => ?_⟩
 have hsz:vs.size=1:=rel.slots.1
 obtain ⟨l⟩:=vs
 match l,hsz with
 | [u],_ =>
 have hu:=rel.slots.2 0 u _ rfl rfl
 cases hu with
 | @func _ fa ca _ _ h1 h2 h3 h4 =>
 obtain rfl:fa = #[]:=Array.eq_empty_of_size_eq_zero h1
 obtain ⟨c⟩:=ca
 match c,h2,h4 with
 | [q],_,h4 =>
 have hq:=h4 0 q _ rfl rfl
 cases hq with
 | @ptr _ _ b hblk =>
 have hbx:=rel.box i (.vars 27 [.p (.sl 1 (ks.map PD.str))]) (List.mem_singleton.2 rfl)
 cases hbx with
 | @vars _ _ b' arr g0 g1 g2 g3 g4 =>
 rw [hblk] at g0
 cases g0
 obtain ⟨al⟩:=arr
 match al,g2,g1,g4 with
 | [sv],_,g1,g4 =>
 have hsv:=(g4 0 sv _ rfl rfl).p_inv
 obtain ⟨hS,hlen,hsl⟩:=zPX rel.mem hsv
 have hbl:b<w.heap.size:=(Array.getElem?_eq_some_iff.1 g1).1
 refine (qUX b sv ks hlen hb w hbl (by simp [World.cell?,g1]) hS).mono ?_
 rintro e w' ⟨v,rfl,hrow,hbel⟩
 have hkeep:∀ b o v,M b o=some v→w'.cell? ⟨b,o,none⟩=some v:=fun b o v hv=>by
  have h:=rel.mem b o v hv
  exact (World.cell?_of_block (w:=w) (hbel.block b (jP h))).trans h
 have base : ∀ M' : zG, (∀ b o v, M b o = some v → M' b o = some v) → (∀ b o v, M' b o = some v → w'.cell? ⟨b, o, none⟩ = some v) → (∀ b o, b < w.heap.size → M' b o = M b o) → Rd M' v (.sl 1 ((zL ks).map PD.str)) →
   ∃ v_1 M' μ',Ending.returned v=Ending.returned v_1∧Rel ⟨w.heap.size,w,M,μ,yP μ [(i,.vars 27 [.p (.sl 1 (ks.map PD.str))])]⟩ M' μ' ⟨[.p (.sl 1 ((zL ks).map PD.str))],[],[],0⟩ #[v_1] w':=by
  intro M' hM hmem hold hrd
  refine ⟨v,M',μ,rfl,hmem,hM,fun b o hb=>hold b o (by have:¬ w.heap.size≤b:=fun e=>hb (.inl e); omega),⟨rfl,fun k u x hu hx => ?_⟩,fun i hi=>by simp at hi,fun i b hi=>by simp at hi,by simp,fun i j b hi=>by simp [qO] at hi,fun i b hi=>by simp [qO] at hi,hbel.size, ?_⟩
  ·cases k with
   | zero=>simp at hu hx; subst hu; subst hx; exact .p hrd
   | succ k=>simp at hu
  exact ⟨hbel.os,hbel.tape,hbel.output,hbel.size,fun k hk=>hbel.block k (by have:¬ w.heap.size≤k:=fun e=>hk (.inl e); omega)⟩
 have hsk:=uF ks
 rcases hrow.2 with ⟨rfl,hz⟩ | ⟨gb,cap,cur,rfl,hbase,hgb,r1,r2,r3,r4⟩
 ·have hks:ks=[]:=List.eq_nil_of_length_eq_zero hz
  subst hks
  refine base M (fun _ _ _ h=>h) hkeep (fun _ _ _=>rfl) ?_
  exact .sl 0 0 (by simp [zL]) (Nat.le_refl _) (by simp [maxLen]) (fun h=>(h rfl).elim) (fun i e h=>by simp [zL] at h) (fun i e j h=>by simp [zL] at h) (fun i e j d u h=>by simp [zL] at h)
 have hcell:∀ j,w'.cell? ⟨gb,j,none⟩=cur[j]?:=fun j=>zR hgb
 let M2:zG:=fun b o=>if b=gb∧o<ks.length then cur[o]? else M b o
 have hlt:∀ b o v,M b o=some v→b<w.heap.size:=fun b o v hv=>jP (rel.mem b o v hv)
 have hcur:∀ j,j<ks.length→cur[j]?=some (encStr ((zL ks)[j]?.getD [])):=fun j hj=>by
  have h5:(cur.toList.take (ks.length * 1))[j]?=((zL ks).map encStr)[j]?:=by rw [r4]
  rw [List.getElem?_take_of_lt (by omega)] at h5
  rw [← Array.getElem?_toList,h5]; simp [show j<(zL ks).length by omega]
 have hM2:∀ o,o<ks.length→M2 gb o=cur[o]?:=fun o ho=>if_pos ⟨rfl,ho⟩
 refine base M2 (fun b o v hv => ?_) (fun b o v hv => ?_) (fun b o hb => ?_) ?_
 ·have:=hlt b o v hv
  show (if b=gb∧o<ks.length then cur[o]? else M b o)=some v
  rw [if_neg (by omega)]; exact hv
 ·have hv':(if b=gb∧o<ks.length then cur[o]? else M b o)=some v:=hv
  split at hv'
  ·rename_i h; rw [h.1,hcell]; exact hv'
  exact hkeep b o v hv'
 ·show (if b=gb∧o<ks.length then cur[o]? else M b o)=M b o
  rw [if_neg (by omega)]
 refine .sl gb 0 (by simp [hsk]) r1 r2 (fun _=>rfl) (fun j e he => ?_) (fun j e k he hk => ?_) (fun j e k d u he hd hu => ?_)
 ·simp at he; obtain ⟨s,_,rfl⟩:=he; rfl
 ·have hj:j<ks.length:=by have:=(List.getElem?_eq_some_iff.1 he).1; simp [hsk] at this; exact this
  obtain rfl:k=0:=by omega
  refine ⟨_,by simp only [Nat.mul_one,Nat.add_zero,Nat.zero_add]; rw [hM2 j hj,hcur j hj],rfl⟩
 have hj:j<ks.length:=by have:=(List.getElem?_eq_some_iff.1 he).1; simp [hsk] at this; exact this
 have hjs:j<(zL ks).length:=by omega
 simp [hjs] at he
 subst he
 cases k with
 | succ k=>simp [PD.cells] at hd
 | zero =>
  simp [PD.cells] at hd
  subst hd
  simp at hu
  rw [hM2 j hj,hcur j hj] at hu
  simp [hjs] at hu
  subst hu
  refine .str (by simp [encStr]) ?_
  exact hsl _ ((List.mergeSort_perm ks _).mem_iff.1 (List.getElem_mem hjs))
end Go.Proofs.YtdojfdaglbphlaaGreatDoor
namespace Go.Proofs.YtdojfdaglbphlaaGreatDoor
open Sy Go
set_option maxRecDepth 100000
set_option linter.unusedSimpArgs false
set_option linter.unusedVariables false
structure Dc where
 neg:Bool
 digits:List UInt8
 scale:Int
 deriving DecidableEq
@[simp] def Dc.enc (d:Dc):PD := .agg [.bool d.neg,.str d.digits,.int .i64 d.scale]
inductive Val where
 | mk (kind mask:Int) (num:Dc) (text:List UInt8) (keys:List (List UInt8)) (kids:List Val) (code:Int)
def Val.kind:Val→Int
 | .mk k _ _ _ _ _ _=>k
def Val.mask:Val→Int
 | .mk _ m _ _ _ _ _=>m
def Val.num:Val→Dc
 | .mk _ _ n _ _ _ _=>n
def Val.text:Val→List UInt8
 | .mk _ _ _ t _ _ _=>t
def Val.keys:Val→List (List UInt8)
 | .mk _ _ _ _ ks _ _=>ks
def Val.kids:Val→List Val
 | .mk _ _ _ _ _ vs _=>vs
def Val.code:Val→Int
 | .mk _ _ _ _ _ _ c=>c
@[simp] theorem Val.kind_mk (k m:Int) (n:Dc) (t:List UInt8) (ks:List (List UInt8)) (vs:List Val) (c:Int):(Val.mk k m n t ks vs c).kind=k:=rfl
@[simp] theorem Val.mask_mk (k m:Int) (n:Dc) (t:List UInt8) (ks:List (List UInt8)) (vs:List Val) (c:Int):(Val.mk k m n t ks vs c).mask=m:=rfl
@[simp] theorem Val.num_mk (k m:Int) (n:Dc) (t:List UInt8) (ks:List (List UInt8)) (vs:List Val) (c:Int):(Val.mk k m n t ks vs c).num=n:=rfl
@[simp] theorem Val.text_mk (k m:Int) (n:Dc) (t:List UInt8) (ks:List (List UInt8)) (vs:List Val) (c:Int):(Val.mk k m n t ks vs c).text=t:=rfl
@[simp] theorem Val.keys_mk (k m:Int) (n:Dc) (t:List UInt8) (ks:List (List UInt8)) (vs:List Val) (c:Int):(Val.mk k m n t ks vs c).keys=ks:=rfl
@[simp] theorem Val.kids_mk (k m:Int) (n:Dc) (t:List UInt8) (ks:List (List UInt8)) (vs:List Val) (c:Int):(Val.mk k m n t ks vs c).kids=vs:=rfl
@[simp] theorem Val.code_mk (k m:Int) (n:Dc) (t:List UInt8) (ks:List (List UInt8)) (vs:List Val) (c:Int):(Val.mk k m n t ks vs c).code=c:=rfl
mutual
def Val.enc:Val→PD
 | .mk k m n t ks vs c => .agg [.int .i64 k,.int .u64 m,.bool n.neg,.str n.digits,.int .i64 n.scale,.str t,.sl 1 (ks.map PD.str),.sl 9 (Val.encL vs),.int .i64 c]
def Val.encL:List Val→List PD
 | []=>[]
 | v::vs=>Val.enc v::Val.encL vs
end
def dc0:Dc:=⟨false,[],0⟩
def zEY:Val := .mk 1 0 dc0 [] [] [] 0
theorem Val.encL_map:∀ l,Val.encL l=l.map Val.enc
 | []=>by simp only [Val.encL,List.map_nil]
 | v::vs=>by simp only [Val.encL,List.map_cons,Val.encL_map vs]
@[simp] theorem Val.enc_def (v:Val):v.enc = .agg [.int .i64 v.kind,.int .u64 v.mask,.bool v.num.neg,.str v.num.digits,.int .i64 v.num.scale,.str v.text,.sl 1 (v.keys.map PD.str),.sl 9 (v.kids.map Val.enc),.int .i64 v.code]:=by
 cases v; simp only [Val.enc,Val.encL_map,Val.kind,Val.mask,Val.num,Val.text,Val.keys,Val.kids,Val.code]
mutual
def Val.sz:Val→Nat
 | .mk _ _ _ _ _ vs _=>1+Val.szL vs
def Val.szL:List Val→Nat
 | []=>0
 | v::vs=>Val.sz v+Val.szL vs
end
theorem Val.szL_mem {k:Val}:∀ {l:List Val},k∈l→Val.sz k≤Val.szL l
 | v::vs,h=>by
  simp only [Val.szL]
  rcases List.mem_cons.1 h with rfl | h
  ·omega
  have:=Val.szL_mem h; omega
theorem Val.sz_kid {v k:Val} (h:k∈v.kids):Val.sz k<Val.sz v:=by
 cases v; simp only [Val.kids] at h; simp only [Val.sz]; have:=Val.szL_mem h; omega
theorem Val.induct {p:Val→Prop} (h:∀ v,(∀ k∈v.kids,p k)→p v) (v:Val):p v:=by
 have key:∀ n v,Val.sz v=n→p v:=by
  intro n
  induction n using Nat.strongRecOn with
  | _ n ih=>intro v hv; exact h v fun k hk=>ih _ (hv ▸ Val.sz_kid hk) k rfl
 exact key _ v rfl
theorem Val.ext {a b:Val} (h1:a.kind=b.kind) (h2:a.mask=b.mask) (h3:a.num=b.num) (h4:a.text=b.text) (h5:a.keys=b.keys) (h6:a.kids=b.kids) (h7:a.code=b.code):a=b:=by
 cases a; cases b; simp_all [Val.kind,Val.mask,Val.num,Val.text,Val.keys,Val.kids,Val.code]
theorem Dc.ext' {a b:Dc} (h1:a.neg=b.neg) (h2:a.digits=b.digits) (h3:a.scale=b.scale):a=b:=by cases a; cases b; simp_all
set_option maxHeartbeats 4000000
variable {G:qR}
def xG (a b:Int):Int:=if a<b then -1 else if b<a then 1 else 0
def wW (a b:List UInt8):Int:=if Op.bytesLess a b=true then -1 else if a=b then 0 else 1
def zX {α:Type} (p:α→α→Int):List α→List α→Int
 | [],[]=>0
 | [],_::_ => -1
 | _::_,[]=>1
 | x::xs,y::ys=>if p x y≠0 then p x y else zX p xs ys
theorem zFE (a:Int):AFn Tryz.prog G 159 [.int .i64 a] (.bool false):=by
 refine AFn.introU tok Tryz.func159 (by kernel_rfl) rfl rfl ?_
 simp only [Tryz.f159,qI,List.map_cons,List.map_nil]
 refine rgn [] [[0]] ?_
 refine op1 tok ?_
 refine qA (rgn [] [[],[],[],[2]] ?_)
 iterate 4 refine op1 tok ?_
 exact qA (AW.ret qG)
theorem zFF (a:Int):AFn Tryz.prog G 161 [.int .i64 a] (.bool false):=by
 refine AFn.introU tok Tryz.func161 (by kernel_rfl) rfl rfl ?_
 simp only [Tryz.f161,qI,List.map_cons,List.map_nil]
 refine rgn [] [[0]] ?_
 refine op1 tok ?_
 refine qA (rgn [] [[],[],[],[2]] ?_)
 iterate 4 refine op1 tok ?_
 exact qA (AW.ret qG)
theorem zFD (a:List UInt8):AFn Tryz.prog G 210 [.str a] (.bool false):=by
 refine AFn.introU tok Tryz.func210 (by kernel_rfl) rfl rfl ?_
 simp only [Tryz.f210,qI,List.map_cons,List.map_nil]
 refine rgn [] [[0]] ?_
 refine op1 tok ?_
 refine qA (rgn [] [[],[],[],[2]] ?_)
 iterate 4 refine op1 tok ?_
 exact qA (AW.ret qG)
theorem zRI (a b:Int):AFn Tryz.prog G 102 [.int .i64 a,.int .i64 b] (.int .i64 (xG a b)):=by
 refine AFn.introU tok Tryz.func102 (by kernel_rfl) rfl rfl ?_
 simp only [Tryz.f102,qI,List.map_cons,List.map_nil]
 refine rgn [] [[0,1]] ?_
 refine op1 tok ?_
 refine qA (rgn [.nilp,.bool false] [[],[],[0,1,5]] ?_)
 iterate 3 refine op1 tok ?_ (hv:=by first | with_reducible exact True.intro | (exact zFE a; done) | omega | simp | (simp +contextual; omega))
 refine qA (rgn [.nilp,.bool false] [[],[],[0,1,5,6]] ?_)
 iterate 3 refine op1 tok ?_ (hv:=by first | with_reducible exact True.intro | (exact zFE b; done) | omega | simp | (simp +contextual; omega))
 refine qA (AW.seq (rgn [] [[0,1,6,11]] ?_))
 refine op1 tok ?_
 refine qA (cnd ?_ ?_)
 ·intro h11
  try simp at h11
 intro h11
 try simp at h11
 refine AW.skip (AW.seq (rgn [] [[0,1,13]] ?_))
 refine op1 tok ?_
 refine qA (cnd ?_ ?_)
 ·intro h13
  try simp at h13
 intro h13
 try simp at h13
 refine AW.skip (AW.seq (rgn [] [[],[],[0,1,16]] ?_))
 iterate 3 refine op1 tok ?_
 refine qA (cnd ?_ ?_)
 ·intro h16
  try simp at h16
  refine rgn [] [[]] ?_
  refine op1 tok ?_
  refine qA ?_
  exact AW.ret (qG (k:=by simp [xG,h16]))
 intro h16
 try simp at h16
 refine AW.skip (AW.seq (rgn [] [[],[],[19]] ?_))
 iterate 3 refine op1 tok ?_
 refine qA (cnd ?_ ?_)
 ·intro h19
  try simp at h19
  refine rgn [] [[]] ?_
  refine op1 tok ?_
  refine qA ?_
  exact AW.ret (qG (k:=by simp [xG,h19]; omega))
 intro h19
 try simp at h19
 refine AW.skip (rgn [] [[]] ?_)
 refine op1 tok ?_
 refine qA ?_
 exact AW.ret (qG (k:=by simp [xG]; omega))
theorem zRJ (a b:Int):AFn Tryz.prog G 106 [.int .i64 a,.int .i64 b] (.int .i64 (xG a b)):=by
 refine AFn.introU tok Tryz.func106 (by kernel_rfl) rfl rfl ?_
 simp only [Tryz.f106,qI,List.map_cons,List.map_nil]
 refine rgn [] [[0,1]] ?_
 refine op1 tok ?_
 refine qA (rgn [.nilp,.bool false] [[],[],[0,1,5]] ?_)
 iterate 3 refine op1 tok ?_ (hv:=by first | with_reducible exact True.intro | (exact zFF a; done) | omega | simp | (simp +contextual; omega))
 refine qA (rgn [.nilp,.bool false] [[],[],[0,1,5,6]] ?_)
 iterate 3 refine op1 tok ?_ (hv:=by first | with_reducible exact True.intro | (exact zFF b; done) | omega | simp | (simp +contextual; omega))
 refine qA (AW.seq (rgn [] [[0,1,6,11]] ?_))
 refine op1 tok ?_
 refine qA (cnd ?_ ?_)
 ·intro h11
  try simp at h11
 intro h11
 try simp at h11
 refine AW.skip (AW.seq (rgn [] [[0,1,13]] ?_))
 refine op1 tok ?_
 refine qA (cnd ?_ ?_)
 ·intro h13
  try simp at h13
 intro h13
 try simp at h13
 refine AW.skip (AW.seq (rgn [] [[],[],[0,1,16]] ?_))
 iterate 3 refine op1 tok ?_
 refine qA (cnd ?_ ?_)
 ·intro h16
  try simp at h16
  refine rgn [] [[]] ?_
  refine op1 tok ?_
  refine qA ?_
  exact AW.ret (qG (k:=by simp [xG,h16]))
 intro h16
 try simp at h16
 refine AW.skip (AW.seq (rgn [] [[],[],[19]] ?_))
 iterate 3 refine op1 tok ?_
 refine qA (cnd ?_ ?_)
 ·intro h19
  try simp at h19
  refine rgn [] [[]] ?_
  refine op1 tok ?_
  refine qA ?_
  exact AW.ret (qG (k:=by simp [xG,h19]; omega))
 intro h19
 try simp at h19
 refine AW.skip (rgn [] [[]] ?_)
 refine op1 tok ?_
 refine qA ?_
 exact AW.ret (qG (k:=by simp [xG]; omega))
theorem zRH (a b:List UInt8):AFn Tryz.prog G 164 [.str a,.str b] (.int .i64 (wW a b)):=by
 refine AFn.introU tok Tryz.func164 (by kernel_rfl) rfl rfl ?_
 simp only [Tryz.f164,qI,List.map_cons,List.map_nil]
 refine rgn [] [[0,1]] ?_
 refine op1 tok ?_
 refine qA (rgn [.nilp,.bool false] [[],[],[0,1,5]] ?_)
 iterate 3 refine op1 tok ?_ (hv:=by first | with_reducible exact True.intro | (exact zFD a; done) | omega | simp | (simp +contextual; omega))
 refine qA (rgn [.nilp,.bool false] [[],[],[0,1,5,6]] ?_)
 iterate 3 refine op1 tok ?_ (hv:=by first | with_reducible exact True.intro | (exact zFD b; done) | omega | simp | (simp +contextual; omega))
 refine qA (AW.seq (rgn [] [[0,1,6,11]] ?_))
 refine op1 tok ?_
 refine qA (cnd ?_ ?_)
 ·intro h11
  try simp at h11
 intro h11
 try simp at h11
 refine AW.skip (AW.seq (rgn [] [[0,1,13]] ?_))
 refine op1 tok ?_
 refine qA (cnd ?_ ?_)
 ·intro h13
  try simp at h13
 intro h13
 try simp at h13
 refine AW.skip (AW.seq (rgn [] [[],[],[0,1,16]] ?_))
 iterate 3 refine op1 tok ?_
 refine qA (cnd ?_ ?_)
 ·intro h16
  try simp at h16
  refine rgn [] [[]] ?_
  refine op1 tok ?_
  refine qA ?_
  exact AW.ret (qG (k:=by simp [wW,h16]))
 intro h16
 try simp at h16
 refine AW.skip (AW.seq (rgn [] [[],[],[19]] ?_))
 iterate 3 refine op1 tok ?_
 refine qA (cnd ?_ ?_)
 ·intro h19
  try simp at h19
  refine rgn [] [[]] ?_
  refine op1 tok ?_
  refine qA ?_
  exact AW.ret (qG (k:=by simp [wW,h19]))
 intro h19
 try simp at h19
 have hab:a=b:=h19 h16
 subst hab
 refine AW.skip (rgn [] [[]] ?_)
 refine op1 tok ?_
 refine qA ?_
 exact AW.ret (qG (k:=by simp [wW,h16]))
theorem zOK {α:Type} (p:α→α→Int) (l:List α):zX p l []=if l=[] then 0 else 1:=by cases l <;> simp [zX]
theorem qTY {α:Type} {p:α→α→Int} {l m:List α} {k:Nat} {x y:α} (hx:l[k]?=some x) (hy:m[k]?=some y):zX p (l.drop k) (m.drop k)=if p x y≠0 then p x y else zX p (l.drop (k+1)) (m.drop (k+1)):=by
 obtain ⟨h1,rfl⟩:=List.getElem?_eq_some_iff.1 hx
 obtain ⟨h2,rfl⟩:=List.getElem?_eq_some_iff.1 hy
 rw [List.drop_eq_getElem_cons h1,List.drop_eq_getElem_cons h2]; rfl
theorem qTX {α:Type} {p:α→α→Int} {l m:List α} {k:Nat} (h1:k<l.length) (h2:m.length≤k):zX p (l.drop k) (m.drop k)=1:=by
 rw [List.drop_eq_nil_of_le h2,zOK,if_neg (by intro h; have:=congrArg List.length h; simp at this; omega)]
theorem zAX {α:Type} {p:α→α→Int} {l m:List α} {k:Nat} (h1:l.length≤k) (hk:k≤l.length) (h2:k≤m.length):zX p (l.drop k) (m.drop k)=if l.length<m.length then -1 else 0:=by
 rw [List.drop_eq_nil_of_le h1]
 by_cases h:k<m.length
 ·rw [List.drop_eq_getElem_cons h,if_pos (by omega)]; rfl
 rw [List.drop_eq_nil_of_le (by omega),if_neg (by omega)]; rfl
theorem zOJ (l m:List (List UInt8)):AFn Tryz.prog G 109 [.sl 1 (l.map PD.str),.sl 1 (m.map PD.str)] (.int .i64 (zX wW l m)):=by
 refine AFn.introU tok Tryz.func109 (by kernel_rfl) rfl rfl ?_
 simp only [Tryz.f109,qI,List.map_cons,List.map_nil]
 refine rgn [] [[0,1]] ?_
 refine op1 tok ?_
 refine qA (AW.seq (rgn [] [[],[],[]] ?_))
 iterate 3 refine op1 tok ?_
 refine qA (AW.block ?_)
 refine AW.intFactU (i:=10) rfl (by decide) ?_; intro hlen; simp at hlen
 refine AW.loop (α:=Nat) (fun k=>k≤l.length∧k≤m.length∧zX wW l m=zX wW (l.drop k) (m.drop k)) (fun k=>⟨qV 36 [(0,.p (.sl 1 (l.map PD.str))),(1,.p (.sl 1 (m.map PD.str))),(9,.p (.sl 1 (l.map PD.str))),(10,.p (.int .i64 l.length)),(11,.p (.int .i64 k))],[],[],0⟩) (fun k=>l.length-k) (0) ⟨by omega,by omega,rfl⟩ ⟨qB (by simp),rfl,by simp,by simp⟩ ?_
 rintro k ⟨hk,hkm,hall⟩
 refine rgn [] [[]] ?_
 refine op1 tok ?_
 refine qA (AW.seq (cnd ?_ ?_))
 ·intro h12
  try simp at h12
  obtain ⟨x,hx⟩:∃ x,l[k]?=some x:=⟨l[k],by simp [h12]⟩
  refine AW.skip (AW.seq (AW.block (rgn [.str x] [[],[],[],[],[0,1,5,6,9,10,11]] ?_)))
  iterate 5 refine op1 tok ?_ (hv:=by first | with_reducible exact True.intro | (simp [hx]; done) | omega | simp | (simp +contextual; omega))
  refine qA (AW.seq (rgn [] [[],[],[],[0,1,5,6,9,10,11,19]] ?_))
  iterate 4 refine op1 tok ?_
  refine qA (cnd ?_ ?_)
  ·intro h19
   try simp at h19
   have hR:zX wW l m=1:=by rw [hall]; exact qTX (by omega) (by omega)
   refine rgn [] [[]] ?_
   refine op1 tok ?_
   refine qA ?_
   exact AW.ret (qG (k:=by simp [hR]))
  intro h19
  try simp at h19
  obtain ⟨y,hy⟩:∃ y,m[k]?=some y:=⟨m[k]'(by omega),by simp [show k<m.length by omega]⟩
  have hst:=qTY (p:=wW) hx hy
  refine AW.skip (rgn [.str y] [[],[],[],[0,1,6,9,10,11,23],[0,1,6,7,9,10,11]] ?_)
  iterate 5 refine op1 tok ?_ (hv:=by first | with_reducible exact True.intro | (simp [hy]; done) | omega | simp | (simp +contextual; omega))
  refine qA (rgn [.nilp,.int .i64 (wW x y)] [[],[],[0,1,9,10,11,26],[0,1,8,9,10,11]] ?_)
  iterate 4 refine op1 tok ?_ (hv:=by first | with_reducible exact True.intro | (exact zRH x y; done) | omega | simp | (simp +contextual; omega))
  refine qA (rgn [] [[],[0,1,8,9,10,11,28]] ?_)
  iterate 2 refine op1 tok ?_
  refine qA (cnd ?_ ?_)
  ·intro h28
   try simp at h28
   have hR:zX wW l m=wW x y:=by rw [hall,hst,if_pos h28]
   refine rgn [] [[],[4]] ?_
   iterate 2 refine op1 tok ?_
   refine qA ?_
   exact AW.ret (qG (k:=by simp [hR]))
  intro h28
  try simp at h28
  have hnx:zX wW l m=zX wW (l.drop (k+1)) (m.drop (k+1)):=by rw [hall,hst,if_neg (by omega)]
  refine AW.skip (rgz [] [[],[0,1,9,10,11]] ?_)
  iterate 2 refine op1 tok ?_
  refine qA ?_
  exact ⟨k+1,⟨by omega,by omega,hnx⟩,by omega,qB (by simp),rfl,by simp,by simp⟩
 intro h12
 try simp at h12
 have hE:=zAX (p:=wW) (l:=l) (m:=m) (k:=k) (by omega) hk hkm
 rw [← hall] at hE
 refine AW.exit ?_
 simp
 refine AW.seq (rgn [] [[],[],[],[32,34],[35]] ?_)
 iterate 5 refine op1 tok ?_
 refine qA (cnd ?_ ?_)
 ·intro h35
  try simp at h35
  have hR:zX wW l m = -1:=by rw [hE,if_pos (by omega)]
  refine rgn [] [[]] ?_
  refine op1 tok ?_
  refine qA ?_
  exact AW.ret (qG (k:=by simp [hR]))
 intro h35
 try simp at h35
 have hR:zX wW l m=0:=by rw [hE,if_neg (by omega)]
 refine AW.skip (rgn [] [[]] ?_)
 refine op1 tok ?_
 refine qA ?_
 exact AW.ret (qG (k:=by simp [hR]))
theorem zAV (l m:List Val) (g:FuncId) (p:Val→Val→Int) (hg:∀ x∈l, ∀ y∈m,AFn Tryz.prog G g [x.enc,y.enc] (.int .i64 (p x y))):AFn Tryz.prog G 105 [.sl 9 (l.map Val.enc),.sl 9 (m.map Val.enc),.fn g] (.int .i64 (zX p l m)):=by
 refine AFn.introU tok Tryz.func105 (by kernel_rfl) rfl rfl ?_
 simp only [Tryz.f105,qI,List.map_cons,List.map_nil]
 refine rgn [] [[0,1,2]] ?_
 refine op1 tok ?_
 refine qA (AW.seq (rgn [] [[],[],[]] ?_))
 iterate 3 refine op1 tok ?_
 refine qA (AW.block ?_)
 refine AW.intFactU (i:=12) rfl (by decide) ?_; intro hlen; simp at hlen
 refine AW.loop (α:=Nat) (fun k=>k≤l.length∧k≤m.length∧zX p l m=zX p (l.drop k) (m.drop k)) (fun k=>⟨qV 39 [(0,.p (.sl 9 (l.map Val.enc))),(1,.p (.sl 9 (m.map Val.enc))),(2,.p (.fn g)),(11,.p (.sl 9 (l.map Val.enc))),(12,.p (.int .i64 l.length)),(13,.p (.int .i64 k))],[],[],0⟩) (fun k=>l.length-k) (0) ⟨by omega,by omega,rfl⟩ ⟨qB (by simp),rfl,by simp,by simp⟩ ?_
 rintro k ⟨hk,hkm,hall⟩
 refine rgn [] [[]] ?_
 refine op1 tok ?_
 refine qA (AW.seq (cnd ?_ ?_))
 ·intro h14
  try simp at h14
  obtain ⟨x,hx⟩:∃ x,l[k]?=some x:=⟨l[k],by simp [h14]⟩
  refine AW.skip (AW.seq (AW.block (rgn [x.enc] [[],[],[],[],[],[0,1,2,7,8,11,12,13]] ?_)))
  iterate 6 refine op1 tok ?_ (hv:=by first | with_reducible exact True.intro | (simp [hx]; done) | omega | simp | (simp +contextual; omega))
  refine qA (AW.seq (rgn [] [[],[],[],[0,1,2,7,8,11,12,13,21]] ?_))
  iterate 4 refine op1 tok ?_
  refine qA (cnd ?_ ?_)
  ·intro h21
   try simp at h21
   have hR:zX p l m=1:=by rw [hall]; exact qTX (by omega) (by omega)
   refine rgn [] [[]] ?_
   refine op1 tok ?_
   refine qA ?_
   exact AW.ret (qG (k:=by simp [hR]))
  intro h21
  try simp at h21
  obtain ⟨y,hy⟩:∃ y,m[k]?=some y:=⟨m[k]'(by omega),by simp [show k<m.length by omega]⟩
  have hst:=qTY (p:=p) hx hy
  have hgv:=hg x (List.mem_of_getElem? hx) y (List.mem_of_getElem? hy)
  refine AW.skip (rgn [y.enc] [[],[],[],[0,1,2,8,11,12,13,25],[],[0,1,2,8,9,11,12,13]] ?_)
  iterate 6 refine op1 tok ?_ (hv:=by first | with_reducible exact True.intro | (simp [hy]; done) | omega | simp | (simp +contextual; omega))
  refine qA (rgn [.tup [x.enc,y.enc],.int .i64 (p x y)] [[],[],[],[0,1,2,11,12,13,29],[0,1,2,10,11,12,13]] ?_)
  iterate 5 refine op1 tok ?_ (hv:=by first | with_reducible exact True.intro | ((simp at hgv ⊢; exact hgv); done) | omega | simp | (simp +contextual; omega))
  refine qA (rgn [] [[],[0,1,2,10,11,12,13,31]] ?_)
  iterate 2 refine op1 tok ?_
  refine qA (cnd ?_ ?_)
  ·intro h31
   try simp at h31
   have hR:zX p l m=p x y:=by rw [hall,hst,if_pos h31]
   refine rgn [] [[],[6]] ?_
   iterate 2 refine op1 tok ?_
   refine qA ?_
   exact AW.ret (qG (k:=by simp [hR]))
  intro h31
  try simp at h31
  have hnx:zX p l m=zX p (l.drop (k+1)) (m.drop (k+1)):=by rw [hall,hst,if_neg (by omega)]
  refine AW.skip (rgz [] [[],[0,1,2,11,12,13]] ?_)
  iterate 2 refine op1 tok ?_
  refine qA ?_
  exact ⟨k+1,⟨by omega,by omega,hnx⟩,by omega,qB (by simp),rfl,by simp,by simp⟩
 intro h14
 try simp at h14
 have hE:=zAX (p:=p) (l:=l) (m:=m) (k:=k) (by omega) hk hkm
 rw [← hall] at hE
 refine AW.exit ?_
 simp
 refine AW.seq (rgn [] [[],[],[],[35,37],[38]] ?_)
 iterate 5 refine op1 tok ?_
 refine qA (cnd ?_ ?_)
 ·intro h38
  try simp at h38
  have hR:zX p l m = -1:=by rw [hE,if_pos (by omega)]
  refine rgn [] [[]] ?_
  refine op1 tok ?_
  refine qA ?_
  exact AW.ret (qG (k:=by simp [hR]))
 intro h38
 try simp at h38
 have hR:zX p l m=0:=by rw [hE,if_neg (by omega)]
 refine AW.skip (rgn [] [[]] ?_)
 refine op1 tok ?_
 refine qA ?_
 exact AW.ret (qG (k:=by simp [hR]))
def zJF (ks:List (List UInt8)) (s:List UInt8):Int:=if s∈ks then (ks.idxOf s:Int) else -1
theorem zQY (l:List (List UInt8)) (s:List UInt8):AFn Tryz.prog G 137 [.sl 1 (l.map PD.str),.str s] (.int .i64 (zJF l s)):=by
 refine AFn.introU tok Tryz.func137 (by kernel_rfl) rfl rfl ?_
 simp only [Tryz.f137,qI,List.map_cons,List.map_nil]
 refine rgn [] [[0,1]] ?_
 refine op1 tok ?_
 refine qA (AW.seq (rgn [] [[],[],[0,1,7,8]] ?_))
 iterate 3 refine op1 tok ?_
 refine qA (AW.block ?_)
 refine AW.intFactU (i:=7) rfl (by decide) ?_; intro hlen; simp at hlen
 refine AW.loop (α:=Nat) (fun k=>k≤l.length∧s ∉ l.take k) (fun k=>⟨qV 19 [(0,.p (.sl 1 (l.map PD.str))),(1,.p (.str s)),(7,.p (.int .i64 l.length)),(8,.p (.int .i64 k))],[],[],0⟩) (fun k=>l.length-k) (0) ⟨by omega,by simp⟩ ⟨qB (by simp),rfl,by simp,by simp⟩ ?_
 rintro k ⟨hk,hno⟩
 refine rgn [] [[]] ?_
 refine op1 tok ?_
 refine qA (AW.seq (cnd ?_ ?_))
 ·intro h9
  try simp at h9
  obtain ⟨x,hx⟩:∃ x,l[k]?=some x:=⟨l[k],by simp [h9]⟩
  refine AW.skip (AW.seq (AW.block (rgn [] [[],[0,1,5,7,8]] ?_)))
  iterate 2 refine op1 tok ?_
  refine qA (rgn [.str x] [[],[],[],[],[],[0,1,5,7,8,16]] ?_)
  iterate 6 refine op1 tok ?_ (hv:=by first | with_reducible exact True.intro | (simp [hx]; done) | omega | simp | (simp +contextual; omega))
  refine qA (cnd ?_ ?_)
  ·intro h16
   try simp at h16
   have hR:zJF l s=k:=by
    have hm:s∈l:=by rw [h16]; exact List.mem_of_getElem? hx
    unfold zJF; rw [if_pos hm]
    have:l.idxOf s=k:=by
     obtain ⟨h1,h2⟩:=List.getElem?_eq_some_iff.1 hx
     have h3:=List.take_append_drop k l
     rw [← h3,List.idxOf_append,if_neg hno,List.drop_eq_getElem_cons h1,h2,h16,List.idxOf_cons_self]
     simp; omega
    rw [this]
   refine rgn [] [[],[4]] ?_
   iterate 2 refine op1 tok ?_
   refine qA ?_
   exact AW.ret (qG (k:=by simp [hR]))
  intro h16
  try simp at h16
  refine AW.skip (rgz [] [[],[0,1,7,8]] ?_)
  iterate 2 refine op1 tok ?_
  refine qA ?_
  exact ⟨k+1,⟨by omega,by rw [List.take_add_one,hx]; simp; exact ⟨hno,h16⟩⟩,by omega,qB (by simp),rfl,by simp,by simp⟩
 intro h9
 try simp at h9
 have hR:zJF l s = -1:=by rw [List.take_of_length_le h9] at hno; unfold zJF; rw [if_neg hno]
 refine AW.exit ?_
 simp
 refine rgn [] [[]] ?_
 refine op1 tok ?_
 refine qA ?_
 exact AW.ret (qG (k:=by simp [hR]))
theorem zTY (a b:Int):AFn Tryz.prog G 108 [.sl 1 [.int .i64 a,.int .i64 b]] (.int .i64 (if a≠0 then a else b)):=by
 refine AFn.introU tok Tryz.func108 (by kernel_rfl) rfl rfl ?_
 simp only [Tryz.f108,qI,List.map_cons,List.map_nil]
 refine rgn [] [[0]] ?_
 refine op1 tok ?_
 refine qA (rgn [] [[]] ?_)
 refine op1 tok ?_
 refine qA (AW.seq (rgn [] [[],[],[3,6,7,8]] ?_))
 iterate 3 refine op1 tok ?_
 refine qA (AW.block ?_)
 refine AW.loop (α:=Nat) (fun k=>k≤2∧(1≤k→a=0)∧(2≤k→b=0)) (fun k=>⟨qV 18 [(3,.p (.int .i64 0)),(6,.p (.sl 1 [.int .i64 a,.int .i64 b])),(7,.p (.int .i64 2)),(8,.p (.int .i64 k))],[],[],0⟩) (fun k=>2-k) (0) ⟨by omega,by omega,by omega⟩ ⟨qB (by simp),rfl,by simp,by simp⟩ ?_
 rintro k ⟨hk,h1,h2⟩
 refine rgn [] [[]] ?_
 refine op1 tok ?_
 refine qA (AW.seq (cnd ?_ ?_))
 ·intro h9
  try simp at h9
  have hel:[a,b][k]?=some (if k=0 then a else b):=by
   match k,h9 with
   | 0,_=>rfl
   | 1,_=>rfl
  have helP:[PD.int .i64 a,PD.int .i64 b][k]?=some (.int .i64 (if k=0 then a else b)):=by
   match k,h9 with
   | 0,_=>rfl
   | 1,_=>rfl
  refine AW.skip (AW.seq (AW.block (rgn [.int .i64 (if k=0 then a else b)] [[],[],[3,5,6,7,8]] ?_)))
  iterate 3 refine op1 tok ?_ (hv:=by first | with_reducible exact True.intro | (first | exact helP | simp [helP]; done) | omega | simp | (simp +contextual; omega))
  refine qA (rgn [] [[],[],[3,5,6,7,8,14]] ?_)
  iterate 3 refine op1 tok ?_
  refine qA (cnd ?_ ?_)
  ·intro h14
   try simp at h14
   have hR:(if a≠0 then a else b)=(if k=0 then a else b):=by
    by_cases hk0:k=0
    ·subst hk0; simp at h14 ⊢; intro e; exact absurd e h14
    rw [if_neg hk0,if_neg (by simp; exact h1 (by omega))]
   rw [hR]
   refine rgn [] [[],[2]] ?_
   iterate 2 refine op1 tok ?_
   exact qA (AW.ret qG)
  intro h14
  try simp at h14
  have e1:1≤k+1→a=0:=by
   intro _
   by_cases hk0:k=0
   ·simpa [hk0] using h14
   exact h1 (by omega)
  have e2:2≤k+1→b=0:=by
   intro h
   rw [if_neg (by omega)] at h14; exact h14
  refine AW.skip (rgz [] [[],[3,6,7,8]] ?_)
  iterate 2 refine op1 tok ?_
  refine qA ?_
  exact ⟨k+1,⟨by omega,e1,e2⟩,by omega,qB (by simp),rfl,by simp,by simp⟩
 intro h9
 try simp at h9
 have ha:a=0:=h1 (by omega)
 have hb:b=0:=h2 (by omega)
 subst ha hb
 refine AW.exit ?_
 simp
 refine rgn [] [[],[2]] ?_
 iterate 2 refine op1 tok ?_
 exact qA (AW.ret qG)
theorem qQC {s:List UInt8} {pos:Nat} (h:pos<s.length):1≤(qBG s pos).2:=Lib.decode_width_pos _ _ (by simpa [ByteArray.size] using h)
theorem qEJ {s:List UInt8} {pos:Nat} (h:pos<s.length) (ha:(s.getD pos 0).toNat<128):qBG s pos=((s.getD pos 0).toNat,1):=by
 have hs:pos<(⟨s.toArray⟩:ByteArray).size:=by simpa [ByteArray.size] using h
 have e:(⟨s.toArray⟩:ByteArray)[pos]'hs=s.getD pos 0:=by simp [List.getD_eq_getElem?_getD,h]; rfl
 unfold qBG
 rw [decode_ascii _ _ hs (by rw [e]; exact ha),e]
theorem zOF {s:List UInt8} {pos:Nat} (h:pos<s.length) (ha:128≤(s.getD pos 0).toNat):128≤(qBG s pos).1:=by
 have e:((⟨s.toArray⟩:ByteArray).get! (pos+0)).toNat=(s.getD pos 0).toNat:=by
  simp [ByteArray.get!,List.getD_eq_getElem?_getD,h]
 unfold qBG Utf8.decode
 simp only [e]
 rw [if_neg (by omega)]
 split
 ·split
  ·simp only [ge_iff_le] at *; omega
  simp [Utf8.runeError]
 split
 ·split
  ·rename_i hc; simp only [ge_iff_le,Bool.and_eq_true,decide_eq_true_eq] at hc; omega
  simp [Utf8.runeError]
 split
 ·split
  ·rename_i hc; simp only [ge_iff_le,Bool.and_eq_true,decide_eq_true_eq] at hc; omega
  simp [Utf8.runeError]
 simp [Utf8.runeError]
def qPM (p:Int→Bool) (s:List UInt8):Nat→Nat→Int
 | 0,_ => -1
 | f+1,pos=>if pos<s.length then (if p (qBG s pos).1 then (pos:Int) else qPM p s f (pos+(qBG s pos).2)) else -1
def qCH (p:Int→Bool) (s:List UInt8):Int:=qPM p s (s.length+1) 0
theorem qTN (p:Int→Bool) (s:List UInt8):∀ (f g pos:Nat),s.length<pos+f→s.length<pos+g→qPM p s f pos=qPM p s g pos
 | 0,0,_,_,_=>rfl
 | 0,g+1,pos,h,_=>by simp only [qPM]; rw [if_neg (by omega)]
 | f+1,0,pos,_,h=>by simp only [qPM]; rw [if_neg (by omega)]
 | f+1,g+1,pos,hf,hg=>by
  simp only [qPM]
  by_cases h:pos<s.length
  ·rw [if_pos h,if_pos h]
   split
   ·rfl
   have:=qQC h
   exact qTN p s f g _ (by omega) (by omega)
  rw [if_neg h,if_neg h]
def qET (p:Int→Bool) (s:List UInt8) (pos:Nat):Int:=qPM p s (s.length+1-pos) pos
theorem qTO {p:Int→Bool} {s:List UInt8} {pos:Nat} (h:¬ pos<s.length):qET p s pos = -1:=by
 unfold qET; cases hf:s.length+1-pos with
 | zero=>rfl
 | succ f=>simp only [qPM]; rw [if_neg h]
theorem qKQ {p:Int→Bool} {s:List UInt8} {pos:Nat} (h:pos<s.length) (hp:p (qBG s pos).1=true):qET p s pos=pos:=by
 unfold qET; rw [show s.length+1-pos=(s.length-pos)+1 by omega]; simp only [qPM]; rw [if_pos h,if_pos hp]
theorem qPN {p:Int→Bool} {s:List UInt8} {pos:Nat} (h:pos<s.length) (hp:p (qBG s pos).1=false):qET p s pos=qET p s (pos+(qBG s pos).2):=by
 unfold qET; rw [show s.length+1-pos=(s.length-pos)+1 by omega]; simp only [qPM]
 have:=qQC h
 rw [if_pos h,if_neg (by simp [hp])]; exact qTN p s _ _ _ (by omega) (by omega)
theorem qTL (p:Int→Bool) (s:List UInt8):qCH p s=qET p s 0:=by simp [qCH,qET]
theorem qMA {p:Int→Bool} (hbig:∀ n:Int,128≤n→p n=true) (s:List UInt8):∀ (f pos:Nat),f=s.length-pos→pos≤s.length→qET p s pos=if (s.drop pos).all (fun b => !p b.toNat) then -1 else ((pos+((s.drop pos).takeWhile fun b => !p b.toNat).length:Nat):Int)
 | 0,pos,hf,hp=>by
  rw [qTO (by omega),List.drop_eq_nil_of_le (by omega)]; simp
 | f+1,pos,hf,hp=>by
  have hlt:pos<s.length:=by omega
  have hd:s.drop pos=s.getD pos 0::s.drop (pos+1):=by
   rw [List.drop_eq_getElem_cons hlt]; congr 1; simp [List.getD_eq_getElem?_getD,hlt]
  rw [hd]
  have hda0:=fun h=>qEJ (s:=s) (pos:=pos) hlt h
  have hdb0:=fun h=>zOF (s:=s) (pos:=pos) hlt h
  clear hd
  generalize s.getD pos 0=c at *
  by_cases ha:c.toNat<128
  ·have hda:=hda0 ha
   cases hpb:p ((c.toNat:Nat):Int) with
   | true=>rw [qKQ hlt (by rw [hda]; exact hpb)]; simp [hpb]
   | false =>
    rw [qPN hlt (by rw [hda]; exact hpb),hda,qMA hbig s f (pos+1) (by omega) (by omega)]
    simp only [List.all_cons,hpb,Bool.not_false,Bool.true_and,List.takeWhile_cons,if_true,List.length_cons]
    split <;> first | rfl | (congr 1; omega)
  have hb:=hdb0 (by omega)
  rw [qKQ hlt (hbig _ (by omega))]
  have:p ((c.toNat:Nat):Int)=true:=hbig _ (by omega)
  simp [this]
theorem qWB {p:Int→Bool} (hbig:∀ n:Int,128≤n→p n=true) (s:List UInt8):qCH p s=if s.all (fun b => !p b.toNat) then -1 else (((s.takeWhile fun b => !p b.toNat).length:Nat):Int):=by
 rw [qTL,qMA hbig s _ 0 rfl (by omega)]; simp
theorem qWA (s:List UInt8) (g:FuncId) (p:Int→Bool) (hg:∀ n:Int,AFn Tryz.prog G g [.int .i32 n] (.bool (p n))):AFn Tryz.prog G 248 [.str s,.fn g,.bool true] (.int .i64 (qCH p s)):=by
 refine AFn.introU tok Tryz.func248 (by kernel_rfl) rfl rfl ?_
 simp only [Tryz.f248,qI,List.map_cons,List.map_nil]
 refine rgn [] [[0,1,2]] ?_
 refine op1 tok ?_
 refine qA (AW.seq (rgn [] [[],[1,2,10]] ?_))
 iterate 2 refine op1 tok ?_
 refine qA (AW.block ?_)
 refine AW.loop (α:=Nat) (fun pos=>qET p s pos=qCH p s) (fun pos=>⟨qV 21 [(1,.p (.fn g)),(2,.p (.bool true)),(10,.it 10)],[],[(10,.iter s pos)],0⟩) (fun pos=>s.length-pos) (0) (qTL p s).symm ⟨qB (by simp),rfl,by simp,by simp⟩ ?_
 rintro pos hi
 have hpos:pos<s.length→1≤(qBG s pos).2:=qQC
 by_cases hs2:pos<s.length
 ·
  refine rgn [.bool true] [[],[]] ?_
  iterate 2 refine oq1 tok hs2 ?_
  refine qA (AW.seq (cnd ?_ ?_))
  ·intro h12
   try simp at h12
   refine AW.skip (AW.block (rgn [] [[],[],[],[1,2,7,8,10]] ?_))
   iterate 4 refine op1 tok ?_
   refine qA (rgn [.nilp,.bool (p (qBG s pos).1)] [[],[],[],[],[1,2,7,10,19]] ?_)
   iterate 5 refine op1 tok ?_ (hv:=by first | with_reducible exact True.intro | (exact hg _; done) | omega | simp | (simp +contextual; omega))
   refine qA (cnd ?_ ?_)
   ·intro h19
    try simp at h19
    have hI:qCH p s=pos:=by rw [← hi,qKQ hs2 (by simpa using h19)]
    refine rgn [] [[],[6]] ?_
    iterate 2 refine op1 tok ?_
    refine qA ?_
    exact AW.ret (qG (k:=by simp [hI]))
   intro h19
   try simp at h19
   have hnx:qET p s (pos+(qBG s pos).2)=qCH p s:=by rw [← qPN hs2 (by simpa using h19)]; exact hi
   refine AW.skip ?_
   exact ⟨pos+(qBG s pos).2,hnx,by have:=hpos hs2; omega,qB (by simp),rfl,by simp,by simp⟩
  intro h12
  try simp at h12
 ·
  refine rgn [.bool false] [[],[]] ?_
  iterate 2 refine oq1 tok hs2 ?_
  refine qA (AW.seq (cnd ?_ ?_))
  ·intro h12
   try simp at h12
  intro h12
  try simp at h12
  refine AW.exit ?_
  simp
  refine rgn [] [[]] ?_
  refine op1 tok ?_
  refine qA ?_
  exact AW.ret (qG (k:=by simp [← hi,qTO hs2]))
theorem qWZ (s:List UInt8) (g:FuncId) (p:Int→Bool) (hg:∀ n:Int,AFn Tryz.prog G g [.int .i32 n] (.bool (p n))):AFn Tryz.prog G 226 [.str s,.fn g] (.int .i64 (qCH p s)):=by
 refine AFn.introU tok Tryz.func226 (by kernel_rfl) rfl rfl ?_
 simp only [Tryz.f226,qI,List.map_cons,List.map_nil]
 refine rgn [] [[0,1]] ?_
 refine op1 tok ?_
 refine qA (rgn [.nilp,.int .i64 (qCH p s)] [[],[],[7],[4]] ?_)
 iterate 4 refine op1 tok ?_ (hv:=by first | with_reducible exact True.intro | (exact qWA s g p hg; done) | omega | simp | (simp +contextual; omega))
 exact qA (AW.ret qG)
def kX (n:Int):Bool:=decide (48≤n) && decide (n≤57)
def qH (b:UInt8):Bool:=kX b.toNat
def qGV (D:List UInt8):Nat:=D.foldl (fun n c=>n * 10+(c.toNat-48)) 0
theorem zOA (n:Int):AFn Tryz.prog G 52 [.int .u8 n] (.bool (kX n)):=by
 refine AFn.introU tok Tryz.func52 (by kernel_rfl) rfl rfl ?_
 simp only [Tryz.f52,qI,List.map_cons,List.map_nil]
 refine rgn [] [[0]] ?_
 refine op1 tok ?_
 refine qA (rgn [] [[],[],[],[],[5,7],[],[2]] ?_)
 iterate 3 refine op1 tok ?_
 iterate 2 refine op2 tok ?_
 iterate 2 refine op1 tok ?_
 refine qA ?_
 exact AW.ret (qG (k:=by simp [kX]))
def qW (s:List UInt8) (i:Nat):Int:=((s.getD i 0).toNat:Int)
theorem xZ {s:List UInt8} {i:Nat} (h:i<s.length):s[i]?=some (s.getD i 0):=by simp [List.getD_eq_getElem?_getD,h]
def wR (s:List UInt8) (k:Nat):Nat:=((s.drop k).takeWhile fun b=>kX b.toNat).length
theorem qAH {p:UInt8→Bool}:∀ {l:List UInt8} {n:Nat},n≤(l.takeWhile p).length→((n<(l.takeWhile p).length)↔∃ b,l[n]?=some b∧p b=true)
 | [],n,h=>by simp at h; subst h; simp
 | a::l,n,h=>by
  rw [List.takeWhile_cons] at h ⊢
  by_cases ha:p a=true
  ·rw [if_pos ha] at h ⊢
   cases n with
   | zero=>simp [ha]
   | succ n=>simpa using qAH (l:=l) (n:=n) (by simpa using h)
  rw [if_neg ha] at h ⊢
  simp at h; subst h
  simp [ha]
theorem qVB {s:List UInt8} {k n:Nat} (h:n≤wR s k):n<wR s k↔(k+n<s.length∧kX (qW s (k+n))=true):=by
 unfold wR at h ⊢
 rw [qAH h]
 constructor
 ·rintro ⟨b,hb,hd⟩
  rw [List.getElem?_drop] at hb
  have:=(List.getElem?_eq_some_iff.1 hb).1
  refine ⟨this, ?_⟩
  rw [qW,List.getD_eq_getElem?_getD,hb]; exact hd
 rintro ⟨h1,h2⟩
 exact ⟨s.getD (k+n) 0,by rw [List.getElem?_drop]; exact xZ h1,h2⟩
theorem qVC (s:List UInt8) (k:Nat):wR s k≤s.length:=by
 unfold wR
 have:=(List.takeWhile_sublist (l:=s.drop k) fun b:UInt8=>kX b.toNat).length_le
 simp at this; omega
theorem zTI (s:List UInt8) (k:Nat) (hs:s.length≤1000000) (hk:k≤1000000):AFn Tryz.prog G 72 [.str s,.int .i64 k] (.int .i64 (wR s k)):=by
 refine AFn.introU tok Tryz.func72 (by kernel_rfl) rfl rfl ?_
 simp only [Tryz.f72,qI,List.map_cons,List.map_nil]
 refine rgn [] [[0,1]] ?_
 refine op1 tok ?_
 refine qA (rgn [] [[]] ?_)
 refine op1 tok ?_
 refine qA (AW.seq (AW.block ?_))
 refine AW.loop (α:=Nat) (fun n=>n≤wR s k) (fun n=>⟨qV 23 [(0,.p (.str s)),(1,.p (.int .i64 k)),(5,.p (.int .i64 n))],[],[],0⟩) (fun n=>wR s k-n) (0) (by omega) ⟨qB (by simp),rfl,by simp,by simp⟩ ?_
 rintro n hn
 have hrl:=qVC s k
 have hlt:=qVB hn
 have hd:=zOA (G:=G) (qW s (k+n))
 have hix:k+n<s.length→s[((k:Int)+n).toNat]?=some (s.getD (k+n) 0):=fun h=>by rw [show ((k:Int)+n).toNat=k+n by omega]; exact xZ h
 refine AW.seq (rgn [.int .u8 (qW s (k+n)),.nilp,.bool (kX (qW s (k+n)))] [[],[],[],[],[],[0,1,5,11],[],[],[],[],[],[0,1,5,12,17],[],[0,1,5,19]] ?_)
 iterate 7 refine op1 tok ?_ (hv:=by first | with_reducible exact True.intro | (first | exact fun h=>⟨h,by omega,_,hix (by omega),rfl⟩ | simp [hd]; done) | omega | simp | (simp +contextual; omega))
 iterate 6 refine op2 tok ?_ (hv:=by first | with_reducible exact True.intro | (first | exact fun h=>⟨h,by omega,_,hix (by omega),rfl⟩ | simp [hd]; done) | omega | simp | (simp +contextual; omega))
 refine op1 tok ?_ (hv:=by first | with_reducible exact True.intro | (first | exact fun h=>⟨h,by omega,_,hix (by omega),rfl⟩ | simp [hd]; done) | omega | simp | (simp +contextual; omega))
 refine qA (cnd ?_ ?_)
 ·intro h19
  try simp at h19
  have hlt':=hlt.2 ⟨by omega,h19.2⟩
  refine AW.skip (AW.block (rgz [] [[],[],[0,1,5]] ?_))
  iterate 3 refine op1 tok ?_
  refine qA ?_
  exact ⟨n+1,by omega,by omega,qB (by simp),rfl,by simp,by simp⟩
 intro h19
 try simp at h19
 have hge:n=wR s k:=by
  refine Nat.le_antisymm hn (Nat.not_lt.1 fun h => ?_)
  have:=hlt.1 h
  have:=h19 (by omega)
  simp_all
 subst hge
 refine AW.exit ?_
 simp
 refine rgn [] [[],[4]] ?_
 iterate 2 refine op1 tok ?_
 exact qA (AW.ret qG)
def qL (n:Nat):List UInt8:=List.replicate n 48
theorem qCN (n:Int) (hn:n≤1000000):AFn Tryz.prog G 73 [.int .i64 n] (.str (qL n.toNat)):=by
 refine AFn.introU tok Tryz.func73 (by kernel_rfl) rfl rfl ?_
 simp only [Tryz.f73,qI,List.map_cons,List.map_nil]
 refine rgn [] [[0]] ?_
 refine op1 tok ?_
 refine qA (rgn [] [[]] ?_)
 refine op1 tok ?_
 refine qA (AW.seq (rgn [] [[]] ?_))
 refine op1 tok ?_
 refine qA (AW.block ?_)
 refine AW.loop (α:=Nat) (fun k=>k≤n.toNat) (fun k=>⟨qV 13 [(0,.p (.int .i64 n)),(3,.p (.str (qL k))),(4,.p (.int .i64 k))],[],[],0⟩) (fun k=>n.toNat-k) (0) (by omega) ⟨qB (by simp [qL]),rfl,by simp,by simp⟩ ?_
 rintro k hk
 refine AW.seq (rgn [] [[],[],[0,3,4,7]] ?_)
 iterate 3 refine op1 tok ?_
 refine qA (cnd ?_ ?_)
 ·intro h7
  try simp at h7
  refine AW.skip (AW.seq (AW.block (rgz [] [[],[],[0,3,4]] ?_)))
  iterate 3 refine op1 tok ?_ (hv:=by first | with_reducible exact True.intro | (simp [qL]; omega; done) | omega | simp | (simp +contextual; omega))
  refine qA (rgz [] [[],[],[0,3,4]] ?_)
  iterate 3 refine op1 tok ?_
  refine qA ?_
  exact ⟨k+1,by omega,by omega,qB (by simp [qL,List.replicate_succ']),rfl,by simp [qL,List.replicate_succ'],by simp [qL,List.replicate_succ']⟩
 intro h7
 try simp at h7
 have hkn:k=n.toNat:=by omega
 subst hkn
 refine AW.exit ?_
 simp
 refine rgn [] [[],[2]] ?_
 iterate 2 refine op1 tok ?_
 exact qA (AW.ret qG)
def qQ (s:List UInt8):List UInt8:=s.dropWhile (· == 48)
def kP (d:List UInt8):Nat→List UInt8 × Nat
 | 0=>(d,0)
 | k+1=>if d.getLast?=some 48 then kP d.dropLast k else (d,k+1)
def yX (neg:Bool) (digits:List UInt8) (scale:Nat):Dc × Int :=
 let x:=kP (qQ digits) scale
 if x.1=[] then (⟨false,[48],0⟩,0) else if 60<x.1.length∨60<x.2 then (⟨false,[],0⟩,3) else (⟨neg,x.1,x.2⟩,0)
theorem qGA {d:List UInt8} (h:0<d.length):qW d (d.length-1)=48↔d.getLast?=some 48:=by
 rw [List.getLast?_eq_getElem?,qW,List.getD_eq_getElem?_getD,xZ (by omega)]
 simp only [Option.getD_some,Option.some.injEq]
 constructor
 ·intro h2; exact UInt8.toNat_inj.1 (by have:((d.getD (d.length-1) 0).toNat:Int)=48:=h2; show (d.getD (d.length-1) 0).toNat=48; omega)
 intro h2; rw [h2]; rfl
theorem qAP (d:List UInt8):d.take (d.length-1)=d.dropLast:=(List.dropLast_eq_take).symm
theorem qWY (neg:Bool) (digits:List UInt8) (scale:Nat) (hd:digits.length≤1000000) (hs:scale≤1000000):AFn Tryz.prog G 74 [.bool neg,.str digits,.int .i64 scale] (.tup [(yX neg digits scale).1.enc,.int .i64 (yX neg digits scale).2]):=by
 refine AFn.introU tok Tryz.func74 (by kernel_rfl) rfl rfl ?_
 simp only [Tryz.f74,qI,List.map_cons,List.map_nil]
 refine rgn [] [[],[0,1,2,6]] ?_
 iterate 2 refine op1 tok ?_
 refine qA (AW.seq (AW.block ?_))
 refine AW.loop (α:=List UInt8) (fun r=>qQ r=qQ digits∧r.length≤digits.length) (fun r=>⟨qV 55 [(0,.p (.bool neg)),(1,.p (.str r)),(2,.p (.int .i64 scale)),(6,.ptr 6 0)],[],[(6,.vars 26 [.p (.bool false),.p (.str []),.p (.int .i64 0)])],0⟩) (fun r=>r.length) (digits) ⟨rfl,Nat.le_refl _⟩ ⟨qB (by simp),rfl,by simp,by simp⟩ ?_
 rintro r ⟨hr,hrl⟩
 have hix:0<r.length→r[0]?=some (r.getD 0 0):=fun h=>xZ h
 refine AW.seq (rgn [.int .u8 (qW r 0)] [[],[],[],[],[],[0,1,2,6,11,13],[],[0,1,2,6,15]] ?_)
 iterate 4 refine op1 tok ?_ (hv:=by first | with_reducible exact True.intro | (first | exact fun h=>⟨h,_,hix (by omega),rfl⟩ | simp; done) | omega | simp | (simp +contextual; omega))
 iterate 3 refine op2 tok ?_ (hv:=by first | with_reducible exact True.intro | (first | exact fun h=>⟨h,_,hix (by omega),rfl⟩ | simp; done) | omega | simp | (simp +contextual; omega))
 refine op1 tok ?_ (hv:=by first | with_reducible exact True.intro | (first | exact fun h=>⟨h,_,hix (by omega),rfl⟩ | simp; done) | omega | simp | (simp +contextual; omega))
 refine qA (cnd ?_ ?_)
 ·intro h15
  try simp at h15
  obtain ⟨b,r,rfl⟩:∃ b r',r=b::r':=by
   cases r with
   | nil=>simp at h15
   | cons b r=>exact ⟨b,r,rfl⟩
  have hb:b=48:=UInt8.toNat_inj.1 (by have h9:(b.toNat:Int)=48:=h15.2; show b.toNat=48; omega)
  have hr':qQ r=qQ digits:=by rw [← hr]; simp [qQ,hb]
  simp at hrl
  refine AW.skip (AW.block (rgz [] [[],[],[0,1,2,6]] ?_))
  iterate 3 refine op1 tok ?_
  refine qA ?_
  exact ⟨r,⟨hr',by omega⟩,by simp,qB (by simp),rfl,by simp,by simp⟩
 intro h15
 try simp at h15
 have hr':qQ digits=r:=by
  rw [← hr]
  cases r with
  | nil=>rfl
  | cons b r =>
   have hb:b≠48:=by rintro rfl; simp [qW] at h15
   simp [qQ,hb]
 have hN:yX neg digits scale=(if (kP r scale).1=[] then (⟨false,[48],0⟩,0) else if 60<(kP r scale).1.length∨60<(kP r scale).2 then (⟨false,[],0⟩,3) else (⟨neg,(kP r scale).1,(kP r scale).2⟩,0)):=by simp only [yX,hr']
 rw [hN]
 clear hN hix h15 hr hr'
 refine AW.exit ?_
 simp
 refine AW.seq (AW.block ?_)
 refine AW.loop (α:=List UInt8 × Nat) (fun a=>kP r scale=kP a.1 a.2∧a.2≤scale∧a.1.length≤digits.length) (fun a=>⟨qV 55 [(0,.p (.bool neg)),(1,.p (.str a.1)),(2,.p (.int .i64 a.2)),(6,.ptr 6 0)],[],[(6,.vars 26 [.p (.bool false),.p (.str []),.p (.int .i64 0)])],0⟩) (fun a=>a.2) ((r,scale)) ⟨rfl,Nat.le_refl _,hrl⟩ ⟨qB (by simp),rfl,by simp,by simp⟩ ?_
 rintro ⟨d,k⟩ ⟨ht,hk,hdl⟩
 simp only at ht hk hdl
 have hix:0<d.length→d[d.length-1]?=some (d.getD (d.length-1) 0):=fun h=>xZ (by omega)
 refine AW.seq (rgn [.int .u8 (qW d (d.length-1))] [[],[],[],[],[],[0,1,2,6,20,23],[],[],[],[],[0,1,2,6,25,26,28],[],[],[0,1,2,6,25,31],[0,1,2,6,32]] ?_)
 iterate 15 first | refine op1 tok ?_ (hv:=by first | with_reducible exact True.intro | (first | exact fun h1 h2=>⟨⟨h1,h2⟩,by omega,by omega⟩ | exact fun h1 h2=>⟨⟨h1,h2⟩,by omega,_,hix h2,rfl⟩ | simp; done) | omega | simp | (simp +contextual; omega)) | refine op2 tok ?_ (hv:=by first | with_reducible exact True.intro | (first | exact fun h1 h2=>⟨⟨h1,h2⟩,by omega,by omega⟩ | exact fun h1 h2=>⟨⟨h1,h2⟩,by omega,_,hix h2,rfl⟩ | simp; done) | omega | simp | (simp +contextual; omega))
 refine qA (cnd ?_ ?_)
 ·intro h32
  try simp at h32
  obtain ⟨k,rfl⟩:∃ k',k=k'+1:=⟨k-1,by omega⟩
  have hl:=(qGA h32.1.2).1 h32.2
  have ht':kP r scale=kP d.dropLast k:=by rw [ht]; simp only [kP]; rw [if_pos hl]
  refine AW.skip (AW.block (rgn [] [[],[],[],[],[0,2,6,37],[0,1,2,6]] ?_))
  iterate 6 refine op1 tok ?_
  refine qA (rgz [] [[],[],[0,1,2,6]] ?_)
  iterate 3 refine op1 tok ?_
  refine qA ?_
  exact ⟨(d.dropLast,k),⟨ht',by simp only []; omega,by simp; omega⟩,by simp,qB (by simp [qAP]),rfl,by simp [qAP],by simp [qAP]⟩
 intro h32
 try simp at h32
 have htl:kP d k=(d,k):=by
  cases k with
  | zero=>rfl
  | succ k =>
   simp only [kP]
   rw [if_neg]
   intro hl
   have hpos:0<d.length:=by cases d with
    | nil=>simp at hl
    | cons=>simp
   have:=(qGA hpos).2 hl
   simp [hpos,this] at h32
 rw [ht,htl]
 refine AW.exit ?_
 simp
 refine AW.seq (rgn [] [[],[0,1,2,6,41]] ?_)
 iterate 2 refine op1 tok ?_
 refine qA (cnd ?_ ?_)
 ·intro h41
  try simp at h41
  subst h41
  refine rgn [] [[],[],[6,7]] ?_
  iterate 3 refine op1 tok ?_
  exact qA (AW.ret qG)
 intro h41
 try simp at h41
 refine AW.skip (AW.seq (rgn [] [[],[],[],[],[],[0,1,2,6,46,48],[0,1,2,6,49]] ?_))
 iterate 4 refine op1 tok ?_
 iterate 2 refine op2 tok ?_
 refine op1 tok ?_
 refine qA (cnd ?_ ?_)
 ·intro h49
  try simp at h49
  have hbig:60<d.length∨60<k:=by omega
  refine rgn [] [[],[],[6,7]] ?_
  iterate 3 refine op1 tok ?_
  refine qA ?_
  exact AW.ret (qG (k:=by simp [h41,hbig]))
 intro h49
 try simp at h49
 have hbig:¬ (60<d.length∨60<k):=by omega
 refine AW.skip (rgn [] [[],[],[],[6,54],[],[6,7]] ?_)
 iterate 6 refine op1 tok ?_
 refine qA ?_
 exact AW.ret (qG (k:=by simp [h41,hbig]))
def qCC (n:Int):Bool:=decide (n<48) || decide (57<n)
theorem zMH (n:Int):AFn Tryz.prog G 227 [.int .i32 n] (.bool (qCC n)):=by
 refine AFn.introU tok Tryz.func227 (by kernel_rfl) rfl rfl ?_
 simp only [Tryz.f227,qI,List.map_cons,List.map_nil]
 refine rgn [] [[0]] ?_
 refine op1 tok ?_
 refine qA (rgn [] [[],[],[],[],[5,7],[],[2]] ?_)
 iterate 3 refine op1 tok ?_
 iterate 2 refine op2 tok ?_
 iterate 2 refine op1 tok ?_
 refine qA ?_
 exact AW.ret (qG (k:=by simp [qCC]))
theorem zIF (b:UInt8):qCC b.toNat = !qH b:=by
 rw [Bool.eq_iff_iff]; simp [qCC,qH,kX]
def zO (d:Dc):Bool:=d.digits.all qH && decide (1≤d.digits.length∧d.digits.length≤60∧0≤d.scale∧d.scale≤60) &&
 (if d.digits=[48] then decide (d.scale=0) && !d.neg else decide (qW d.digits 0≠48) && (decide (d.scale=0) || decide (qW d.digits (d.digits.length-1)≠48)))
theorem zJN {d : Dc} (h : 1 ≤ d.digits.length ∧ d.digits.length ≤ 60 ∧ 0 ≤ d.scale ∧ d.scale ≤ 60) (ha : d.digits.all qH = true) :
  zO d=(if d.digits=[48] then decide (d.scale=0) && !d.neg else decide (qW d.digits 0≠48) && (decide (d.scale=0) || decide (qW d.digits (d.digits.length-1)≠48))):=by
 unfold zO; rw [ha,show decide (1≤d.digits.length∧d.digits.length≤60∧0≤d.scale∧d.scale≤60)=true by simpa using h]; simp
def qE (s:List UInt8):Nat:=s.foldl (fun n b=>n * 10+(b.toNat-48)) 0
def dv (b:UInt8):Nat:=b.toNat-48
theorem zK (b:UInt8):qH b=true↔48≤b.toNat∧b.toNat≤57:=by simp [qH,kX]; omega
theorem qNH (s:List UInt8):∀ n,s.foldl (fun n b=>n * 10+(b.toNat-48)) n=n * 10 ^ s.length+qE s:=by
 induction s with
 | nil=>intro n; simp [qE]
 | cons b s ih =>
  intro n
  have e:qE (b::s)=(b.toNat-48) * 10 ^ s.length+qE s:=by unfold qE; rw [List.foldl_cons,ih]; simp [qE]
  rw [List.foldl_cons,ih,e,List.length_cons,Nat.pow_succ,Nat.add_mul,Nat.mul_assoc,Nat.mul_comm 10,Nat.add_assoc]
theorem wY (b:UInt8) (s:List UInt8):qE (b::s)=(b.toNat-48) * 10 ^ s.length+qE s:=by
 unfold qE; rw [List.foldl_cons,qNH]; simp [qE]
theorem wP (s t:List UInt8):qE (s++t)=qE s * 10 ^ t.length+qE t:=by
 unfold qE; rw [List.foldl_append,qNH]; rfl
theorem kN (s:List UInt8) (b:UInt8):qE (s++[b])=qE s * 10+(b.toNat-48):=by rw [wP]; simp [qE]
theorem wB {s:List UInt8} (h:s.all qH=true):qE s<10 ^ s.length:=by
 induction s with
 | nil=>simp [qE]
 | cons b s ih =>
  simp only [List.all_cons,Bool.and_eq_true] at h
  have h1:=(zK b).1 h.1
  have h2:=ih h.2
  rw [wY,List.length_cons,Nat.pow_succ]
  have:b.toNat-48≤9:=by omega
  have:=Nat.mul_le_mul_right (10 ^ s.length) this
  omega
theorem qGF (n:Nat):Lib.repeatL [48] n=List.replicate n 48:=by
 induction n with
 | zero=>rfl
 | succ n ih=>simp [Lib.repeatL,ih,List.replicate_succ]
theorem jL (n:Nat):qE (List.replicate n 48)=0:=by
 induction n with
 | zero=>rfl
 | succ n ih=>rw [List.replicate_succ,wY,ih]; simp
theorem jA (s:List UInt8) (n:Nat):qE (s++List.replicate n 48)=qE s * 10 ^ n:=by rw [wP,jL]; simp
theorem wX {s:List UInt8} (h:s.all qH=true) (n:Nat):(s++List.replicate n 48).all qH=true:=by
 rw [List.all_append,h]
 have:(List.replicate n (48:UInt8)).all qH=true:=List.all_eq_true.2 fun b hb=>by rw [(List.mem_replicate.1 hb).2]; rfl
 rw [this]; rfl
def qK:Nat:=1000000000
def qP:List Nat→Nat
 | []=>0
 | x::xs=>x+qK * qP xs
def okL (l:List Nat):Prop:=∀ x∈l,x<qK
def yO (l:List Nat):List Nat:=(l.reverse.dropWhile (· == 0)).reverse
def qEB (s:List UInt8) (e:Nat):Nat:=qE ((s.take e).drop (e-9))
def qFQ (s:List UInt8):Nat→Nat→List Nat
 | 0,_=>[]
 | f+1,e=>if 0<e then qEB s e::qFQ s f (e-9) else []
theorem qLX (s:List UInt8):∀ (f g e:Nat),e≤f→e≤g→qFQ s f e=qFQ s g e
 | 0,0,_,_,_=>rfl
 | 0,g+1,e,h,_=>by simp only [qFQ]; rw [if_neg (by omega)]
 | f+1,0,e,_,h=>by simp only [qFQ]; rw [if_neg (by omega)]
 | f+1,g+1,e,h1,h2=>by
  simp only [qFQ]
  split
  ·rw [qLX s f g _ (by omega) (by omega)]
  rfl
def qAZ (s:List UInt8) (e:Nat):List Nat:=qFQ s e e
theorem qGQ {s:List UInt8} {e:Nat} (h:0<e):qAZ s e=qEB s e::qAZ s (e-9):=by
 unfold qAZ
 rw [show e=(e-1)+1 by omega]
 simp only [qFQ]
 rw [if_pos (by omega),qLX s (e-1) (e-1+1-9) _ (by omega) (by omega)]
theorem xX (s:List UInt8):qAZ s 0=[]:=rfl
theorem qDM {s:List UInt8} (h:s.all qH=true) (n:Nat):(s.take n).all qH=true:=by
 rw [List.all_eq_true] at h ⊢; exact fun b hb=>h b (List.mem_of_mem_take hb)
theorem qDN {s:List UInt8} (h:s.all qH=true) (n:Nat):(s.drop n).all qH=true:=by
 rw [List.all_eq_true] at h ⊢; exact fun b hb=>h b (List.mem_of_mem_drop hb)
theorem zIV {s:List UInt8} (h:s.all qH=true) (e:Nat):qEB s e<qK:=by
 have h1:=wB (qDN (qDM h e) (e-9))
 have h2:((s.take e).drop (e-9)).length≤9:=by simp; omega
 have:=Nat.pow_le_pow_right (n:=10) (by omega) h2
 unfold qEB qK; omega
theorem qZS {s:List UInt8} (h:s.all qH=true):∀ (f e:Nat),e≤f→okL (qAZ s e)
 | 0,e,he=>by rw [show e=0 by omega,xX]; intro x hx; cases hx
 | f+1,e,he=>by
  by_cases hp:0<e
  ·rw [qGQ hp]
   intro x hx
   rcases List.mem_cons.1 hx with rfl | hx
   ·exact zIV h e
   exact qZS h f (e-9) (by omega) x hx
  rw [show e=0 by omega,xX]; intro x hx; cases hx
theorem qTD {s:List UInt8} (h:s.all qH=true):∀ (f e:Nat),e≤f→e≤s.length→qP (qAZ s e)=qE (s.take e)
 | 0,e,he,_=>by rw [show e=0 by omega,xX]; rfl
 | f+1,e,he,hs=>by
  by_cases hp:0<e
  ·rw [qGQ hp]
   simp only [qP]
   rw [qTD h f (e-9) (by omega) (by omega)]
   have e1:s.take e=s.take (e-9)++(s.take e).drop (e-9):=by
    have h2:=List.take_append_drop (e-9) (s.take e)
    rw [List.take_take,Nat.min_eq_left (by omega)] at h2
    exact h2.symm
   have e2:qE (s.take e)=qE (s.take (e-9)) * 10 ^ ((s.take e).drop (e-9)).length+qEB s e:=by
    rw [e1,wP,← e1]; rfl
   rw [e2]
   by_cases h9:9≤e
   ·have:((s.take e).drop (e-9)).length=9:=by simp; omega
    rw [this]; unfold qK; omega
   rw [show e-9=0 by omega]; simp [qE]
  rw [show e=0 by omega,xX]; rfl
theorem qBP (l:List Nat) (x:Nat):yO (l++[x])=if x=0 then yO l else l++[x]:=by
 unfold yO
 rw [List.reverse_append]
 simp only [List.reverse_cons,List.reverse_nil,List.nil_append,List.singleton_append,List.dropWhile_cons]
 by_cases h:x=0
 ·simp [h]
 simp [h]
theorem jQ (l:List Nat) (x:Nat):qP (l++[x])=qP l+qK ^ l.length * x:=by
 induction l with
 | nil=>simp [qP]
 | cons a l ih=>simp only [List.cons_append,qP,ih,List.length_cons,Nat.pow_succ,Nat.mul_add]; rw [Nat.add_assoc,Nat.mul_comm (qK ^ l.length) qK,Nat.mul_assoc]
theorem qUY {p:List Nat→Prop} (h0:p []) (h1:∀ l x,p l→p (l++[x])) (l:List Nat):p l:=by
 have:∀ r:List Nat,p r.reverse:=by
  intro r
  induction r with
  | nil=>exact h0
  | cons a r ih=>rw [List.reverse_cons]; exact h1 _ _ ih
 simpa using this l.reverse
theorem qDS (l:List Nat):qP (yO l)=qP l:=by
 refine qUY (p:=fun l=>qP (yO l)=qP l) rfl (fun l x ih => ?_) l
 rw [qBP]
 split
 ·rename_i h; rw [ih,jQ,h]; simp
 rfl
theorem qGI {l:List Nat} (h:okL l):okL (yO l):=by
 intro x hx
 unfold yO at hx
 rw [List.mem_reverse] at hx
 exact h x (List.mem_reverse.1 ((List.dropWhile_sublist _).subset hx))
def qMK (l:List Nat):Prop:=okL l∧l.getLast?≠some 0
theorem zCA {l:List Nat} (h:okL l):qMK (yO l):=by
 refine ⟨qGI h, ?_⟩
 refine qUY (p:=fun l=>(yO l).getLast?≠some 0) (by simp [yO]) (fun l x ih => ?_) l
 rw [qBP]
 split
 ·exact ih
 rename_i h; simp; exact h
theorem qFR {l:List Nat} (h:okL l):qP l<qK ^ l.length:=by
 induction l with
 | nil=>simp [qP]
 | cons a l ih =>
  have h1:=h a (by simp)
  have h2:=ih fun x hx=>h x (by simp [hx])
  simp only [qP,List.length_cons,Nat.pow_succ]
  have:qK * (qP l+1)≤qK * qK ^ l.length:=Nat.mul_le_mul_left _ h2
  rw [Nat.mul_comm (qK ^ l.length)]
  rw [Nat.mul_add] at this; omega
theorem zMW {l:List Nat} (h:l≠[]) (hc:l.getLast?≠some 0):qK ^ (l.length-1)≤qP l:=by
 have hs:l=l.dropLast++[l.getLast h]:=(List.dropLast_concat_getLast h).symm
 have hx:l.getLast h≠0:=fun e=>hc (by rw [← e]; exact List.getLast?_eq_some_getLast h)
 have hv:qP l=qP l.dropLast+qK ^ l.dropLast.length * l.getLast h:=by
  conv=>lhs; rw [hs]
  exact jQ _ _
 rw [hv,List.length_dropLast]
 have:qK ^ (l.length-1) * 1≤qK ^ (l.length-1) * l.getLast h:=Nat.mul_le_mul_left _ (by omega)
 omega
theorem qPD {l m:List Nat} (hl:qMK l) (hm:qMK m) (h:l.length<m.length):qP l<qP m:=by
 have h1:=qFR hl.1
 have h2:=zMW (l:=m) (by rintro rfl; simp at h) hm.2
 have h3:qK ^ l.length≤qK ^ (m.length-1):=Nat.pow_le_pow_right (by decide) (by omega)
 omega
def vN (l m:List Nat):Nat→Int
 | 0=>0
 | i+1=>if l.getD i 0=m.getD i 0 then vN l m i else if l.getD i 0<m.getD i 0 then -1 else 1
def xU (l m:List Nat):Int:=if l.length≠m.length then (l.length:Int)-m.length else vN l m l.length
theorem qHJ {l:List Nat} {i:Nat} (h:i<l.length):l.take (i+1)=l.take i++[l.getD i 0]:=by
 rw [List.take_succ_eq_append_getElem h]; simp [List.getD_eq_getElem?_getD,h]
theorem qLK {l m : List Nat} (hl : okL l) (hm : okL m) (hlen : l.length = m.length) : ∀ i, i ≤ l.length →
  vN l m i=if qP (l.take i)<qP (m.take i) then -1 else if qP (l.take i)=qP (m.take i) then 0 else 1
 | 0,_=>by simp [vN,qP]
 | i+1,hi=>by
  have h1:=qFR (l:=l.take i) fun x hx=>hl x (List.mem_of_mem_take hx)
  have h2:=qFR (l:=m.take i) fun x hx=>hm x (List.mem_of_mem_take hx)
  have e1:(l.take i).length=i:=by simp; omega
  have e2:(m.take i).length=i:=by simp; omega
  rw [e1] at h1
  rw [e2] at h2
  rw [qHJ (by omega),qHJ (by omega),jQ,jQ,e1,e2]
  simp only [vN]
  by_cases h:l.getD i 0=m.getD i 0
  ·rw [if_pos h,qLK hl hm hlen i (by omega),h]
   have a1:(qP (l.take i)+qK ^ i * m.getD i 0<qP (m.take i)+qK ^ i * m.getD i 0)=(qP (l.take i)<qP (m.take i)):=propext (by omega)
   have a2:(qP (l.take i)+qK ^ i * m.getD i 0=qP (m.take i)+qK ^ i * m.getD i 0)=(qP (l.take i)=qP (m.take i)):=propext (by omega)
   simp only [a1,a2]
  rw [if_neg h]
  by_cases h3:l.getD i 0<m.getD i 0
  ·rw [if_pos h3]
   have:=Nat.mul_le_mul_left (qK ^ i) (show l.getD i 0+1≤m.getD i 0 by omega)
   rw [Nat.mul_add,Nat.mul_one] at this
   rw [if_pos (by omega)]
  rw [if_neg h3]
  have:=Nat.mul_le_mul_left (qK ^ i) (show m.getD i 0+1≤l.getD i 0 by omega)
  rw [Nat.mul_add,Nat.mul_one] at this
  rw [if_neg (by omega),if_neg (by omega)]
def sgn (n:Int):Int:=if n<0 then -1 else if n=0 then 0 else 1
theorem qLV {l m:List Nat} (hl:qMK l) (hm:qMK m):sgn (xU l m)=sgn ((qP l:Int)-qP m):=by
 unfold xU
 by_cases h:l.length=m.length
 ·rw [if_neg (by omega),qLK hl.1 hm.1 h l.length (Nat.le_refl _),List.take_length,h,List.take_length]
  unfold sgn
  split
  ·rw [if_pos (by omega),if_pos (by omega)]
  split
  ·rw [if_neg (by omega),if_pos rfl,if_neg (by omega),if_pos (by omega)]
  rw [if_neg (by omega),if_neg (by omega),if_neg (by omega),if_neg (by omega)]
 rw [if_pos h]
 unfold sgn
 rcases Nat.lt_or_gt_of_ne h with h1 | h1
 ·have:=qPD hl hm h1
  rw [if_pos (by omega),if_pos (by omega)]
 have:=qPD hm hl h1
 rw [if_neg (by omega),if_neg (by omega),if_neg (by omega),if_neg (by omega)]
theorem qVS (l m:List Nat) (h1:l.length≤1000000) (h2:m.length≤1000000) : -1000000≤xU l m∧xU l m≤1000000:=by
 unfold xU
 split
 ·omega
 have:∀ i, -1≤vN l m i∧vN l m i≤1:=by
  intro i
  induction i with
  | zero=>simp [vN]
  | succ i ih => simp only [vN]; split; · exact ih
                 ·split <;> omega
 have:=this l.length; omega
def jN (s:List UInt8):List Nat:=yO (qAZ s s.length)
theorem qDA {s:List UInt8} (h:s.all qH=true):qMK (jN s):=zCA (qZS h _ _ (Nat.le_refl _))
theorem qCZ {s:List UInt8} (h:s.all qH=true):qP (jN s)=qE s:=by
 unfold jN; rw [qDS,qTD h _ _ (Nat.le_refl _) (Nat.le_refl _),List.take_length]
theorem qTE (s:List UInt8):∀ (f e:Nat),e≤f→(qAZ s e).length≤e
 | 0,e,he=>by rw [show e=0 by omega,xX]; simp
 | f+1,e,he=>by
  by_cases hp:0<e
  ·rw [qGQ hp]; have:=qTE s f (e-9) (by omega); simp; omega
  rw [show e=0 by omega,xX]; simp
theorem qFL (s:List UInt8):(jN s).length≤s.length:=by
 have h1:(jN s).length≤(qAZ s s.length).length:=by
  unfold jN yO; rw [List.length_reverse]; have:=(List.dropWhile_sublist (fun x:Nat=>x == 0) (l:=(qAZ s s.length).reverse)).length_le; simpa using this
 have:=qTE s _ s.length (Nat.le_refl _); omega
@[simp] def zQ (n:Nat):PD := .int .u64 n
theorem qML (l:List Nat):AFn Tryz.prog G 144 [.sl 1 (l.map zQ)] (.sl 1 ((yO l).map zQ)):=by
 refine AFn.introU tok Tryz.func144 (by kernel_rfl) rfl rfl ?_
 simp only [Tryz.f144,qI,List.map_cons,List.map_nil]
 refine rgn [] [[0]] ?_
 refine op1 tok ?_
 refine qA (AW.seq (AW.block ?_))
 refine AW.loop (α:=List Nat) (fun r=>yO r=yO l) (fun r=>⟨qV 21 [(0,.p (.sl 1 (r.map zQ)))],[],[],0⟩) (fun r=>r.length) (l) rfl ⟨qB (by simp),rfl,by simp,by simp⟩ ?_
 rintro r hr
 refine AW.slFactU (i:=0) rfl (by decide) ?_
 intro hlen
 simp at hlen
 have hlast:0<r.length→r[r.length-1]?=some (r.getD (r.length-1) 0):=fun h=>by simp [List.getD_eq_getElem?_getD,show r.length-1<r.length by omega]
 refine AW.seq (rgn [.int .u64 (r.getD (r.length-1) 0:Nat)] [[],[],[],[],[],[],[0,6,7,9],[],[],[0,6,12],[],[0,14]] ?_)
 iterate 4 refine op1 tok ?_ (hv:=by first | with_reducible exact True.intro | ((intro h; refine ⟨h,by omega,_,hlast h, ?_⟩; simp); done) | omega | simp | (simp +contextual; omega))
 iterate 7 refine op2 tok ?_ (hv:=by first | with_reducible exact True.intro | ((intro h; refine ⟨h,by omega,_,hlast h, ?_⟩; simp); done) | omega | simp | (simp +contextual; omega))
 refine op1 tok ?_ (hv:=by first | with_reducible exact True.intro | ((intro h; refine ⟨h,by omega,_,hlast h, ?_⟩; simp); done) | omega | simp | (simp +contextual; omega))
 refine qA (cnd ?_ ?_)
 ·intro h14
  try simp at h14
  obtain ⟨s,x,rfl⟩:∃ s x,r=s++[x]:=⟨r.dropLast,r.getLast (by rintro rfl; simp at h14),(List.dropLast_concat_getLast _).symm⟩
  simp at h14
  subst h14
  have hr':yO s=yO l:=by rw [← hr,qBP]; simp
  have hsl:(s.length:Int)≤9223372036854775807:=by simp at hlen; omega
  refine AW.skip (AW.block (rgz [] [[],[],[],[],[19],[0]] ?_))
  iterate 6 refine op1 tok ?_
  refine qA ?_
  exact ⟨s,hr',by simp,qB (by simp),rfl,by simp,by simp⟩
 intro h14
 try simp at h14
 have hN:yO r=r:=by
  refine qUY (p:=fun r=>(0<r.length→¬ r.getD (r.length-1) 0=0)→yO r=r) (fun _=>rfl) (fun s x _ h => ?_) r (fun h=>by have:=h14 h; simpa using this)
  have:=h (by simp)
  rw [qBP,if_neg (by simpa using this)]
 rw [← hr,hN]
 refine AW.exit ?_
 simp
 refine rgn [] [[],[2]] ?_
 iterate 2 refine op1 tok ?_
 exact qA (AW.ret qG)
theorem yT {x:Int} (h0:0≤x) (h1:x<18446744073709551616):IntKind.u64.wrap x=x:=by simp [IntKind.wrap,IntKind.bits,IntKind.signed]; omega
theorem qBO {x:Int} (h0:0≤x) (h1:x<256):IntKind.u8.wrap x=x:=by simp [IntKind.wrap,IntKind.bits,IntKind.signed]; omega
theorem qOS (s:List UInt8) (hs:s.all qH=true) (hl:s.length≤1000000):AFn Tryz.prog G 88 [.str s] (.sl 1 ((jN s).map zQ)):=by
 refine AFn.introU tok Tryz.func88 (by kernel_rfl) rfl rfl ?_
 simp only [Tryz.f88,qI,List.map_cons,List.map_nil]
 refine rgn [] [[0]] ?_
 refine op1 tok ?_
 refine qA (rgn [] [[]] ?_)
 refine op1 tok ?_
 refine qA (AW.seq (rgn [] [[],[],[0,3,4]] ?_))
 iterate 3 refine op1 tok ?_
 refine qA (AW.block ?_)
 refine AW.beginE 3 36 24 1 (by simp) (by simp) (by conv=>lhs; simp) ?_
 refine AW.loop (α:=Int × List Nat) (fun a=>a.1≤s.length ∧ -9<a.1∧a.2.length≤s.length-a.1.toNat∧a.2++qAZ s a.1.toNat=qAZ s s.length) (fun a=>⟨qV 39 [(0,.p (.str s)),(3,.ms 36),(4,.p (.int .i64 a.1))],[],[(36,.row 24 1 (a.2.map zQ))],0⟩) (fun a=>a.1.toNat) (((s.length:Int),[])) ⟨by simp,by simp only []; omega,by simp,by simp⟩ ⟨qB (by simp),rfl,by simp,by simp⟩ ?_
 rintro ⟨e,acc⟩ ⟨h1,h2,hal,h3⟩
 simp only at h1 h2 h3 hal
 refine AW.seq (rgn [] [[],[0,3,4,11]] ?_)
 iterate 2 refine op1 tok ?_
 refine qA (cnd ?_ ?_)
 ·intro h11
  try simp at h11
  obtain ⟨n,rfl⟩:∃ n:Nat,e=n:=⟨e.toNat,by omega⟩
  obtain ⟨c,hc⟩:∃ c,c=(s.take n).drop (n-9):=⟨_,rfl⟩
  have hcd:c.all qH=true:=by rw [hc]; exact qDN (qDM hs n) _
  have hcl:c.length≤9:=by rw [hc]; simp; omega
  have hvc:qE c=qEB s n:=by rw [hc]; rfl
  have hmx:(if 9<(n:Int) then (n:Int)-9 else 0).toNat=n-9:=by split <;> omega
  refine AW.skip (AW.seq (AW.block (rgn [] [[]] ?_)))
  refine op1 tok ?_
  refine qA (AW.seq (rgn [] [[],[],[],[],[],[0,3,4,5,19],[],[],[0,3,4,5,20,21,22]] ?_))
  iterate 9 refine op1 tok ?_
  refine qA (AW.block ?_)
  refine AW.loop (α:=Nat) (fun k=>k≤c.length) (fun k=>⟨qV 39 [(0,.p (.str s)),(3,.ms 36),(4,.p (.int .i64 n)),(5,.p (.int .u64 (qE (c.take k):Nat))),(20,.p (.sl 1 (qM c))),(21,.p (.int .i64 c.length)),(22,.p (.int .i64 k))],[],[(36,.row 24 1 (acc.map zQ))],0⟩) (fun k=>c.length-k) (0) (by omega) ⟨qB (by simp [hmx,hc,qE]),rfl,by simp,by simp⟩ ?_
  rintro k hk
  have hck:=wB (qDM hcd k)
  have hck2:(c.take k).length≤8→qE (c.take k)<100000000:=fun h=>Nat.lt_of_lt_of_le hck (Nat.pow_le_pow_right (n:=10) (by omega) h)
  have hix:∀ k:Nat,k<c.length→c[k]?=some (c.getD k 0):=fun k h=>xZ h
  refine rgn [] [[]] ?_
  refine op1 tok ?_
  refine qA (AW.seq (cnd ?_ ?_))
  ·intro h23
   try simp at h23
   have hdk:=(zK _).1 (List.all_eq_true.1 hcd _ (List.mem_of_getElem? (hix k h23)))
   have hv8:qE (c.take k)<100000000:=hck2 (by simp; omega)
   have hsn:qE (c.take (k+1))=qE (c.take k) * 10+((c.getD k 0).toNat-48):=by rw [List.take_add_one,hix k h23]; exact kN _ _
   have hbk:qW c k=((c.getD k 0).toNat:Int):=rfl
   have hw1:IntKind.u8.wrap (qW c k-48)=qW c k-48:=qBO (by omega) (by omega)
   have hw2:IntKind.u64.wrap ((qE (c.take k):Int) * 10)=(qE (c.take k):Int) * 10:=yT (by omega) (by omega)
   have hw3:IntKind.u64.wrap ((qE (c.take k):Int) * 10+(qW c k-48))=(qE (c.take (k+1)):Int):=by rw [yT (by omega) (by omega),hsn]; omega
   refine AW.skip (AW.seq (AW.block (rgn [.int .u8 (qW c k)] [[],[],[0,3,4,5,7,20,21,22]] ?_)))
   iterate 3 refine op1 tok ?_ (hv:=by first | with_reducible exact True.intro | (first | exact qEK (hix k h23) | simp; done) | omega | simp | (simp +contextual; omega))
   refine qA (rgz [] [[],[],[],[0,3,4,20,21,22,27,29],[],[],[0,3,4,5,20,21,22]] ?_)
   iterate 7 refine op1 tok ?_
   refine qA (rgz [] [[],[0,3,4,5,20,21,22]] ?_)
   iterate 2 refine op1 tok ?_
   refine qA ?_
   exact ⟨k+1,by omega,by omega,qB (by simp [hw1,hw2,hw3]),rfl,by simp [hw1,hw2,hw3],by simp [hw1,hw2,hw3]⟩
  intro h23
  try simp at h23
  have hkc:k=c.length:=by omega
  subst hkc
  simp only [List.take_length,hvc]
  have hlz:=qGQ (s:=s) (e:=n) (by omega)
  have h3':acc++[qEB s n]++qAZ s ((n:Int)-9).toNat=qAZ s s.length:=by
   rw [← h3,show ((n:Int)).toNat=n by omega,hlz,show ((n:Int)-9).toNat=n-9 by omega]; simp
  refine AW.exit ?_
  simp
  refine rgz [.int .u64 (qEB s n:Nat)] [[],[],[],[0,4,36],[0,3,4]] ?_
  iterate 5 refine op1 tok ?_ (hv:=by first | with_reducible exact True.intro | ((simp; omega); done) | omega | simp | (simp +contextual; omega))
  refine qA (rgz [] [[],[],[0,3,4]] ?_)
  iterate 3 refine op1 tok ?_
  refine qA ?_
  exact ⟨(n:Int)-9,acc++[qEB s n],⟨by omega,by omega,by simp; omega,h3'⟩,by omega,qB (by simp),rfl,by simp,by simp⟩
 intro h11
 try simp at h11
 have hacc:acc=qAZ s s.length:=by rw [← h3,show e.toNat=0 by omega,xX]; simp
 subst hacc
 refine AW.exit ?_
 simp
 refine rgn [.nilp,.sl 1 ((jN s).map zQ)] [[],[],[2]] ?_
 iterate 3 refine op1 tok ?_ (hv:=by first | with_reducible exact True.intro | (exact qML _; done) | omega | simp | (simp +contextual; omega))
 exact qA (AW.ret qG)
theorem qSP (l m:List Nat) (h1:l.length≤1000000) (h2:m.length≤1000000):AFn Tryz.prog G 140 [.sl 1 (l.map zQ),.sl 1 (m.map zQ)] (.int .i64 (xU l m)):=by
 refine AFn.introU tok Tryz.func140 (by kernel_rfl) rfl rfl ?_
 simp only [Tryz.f140,qI,List.map_cons,List.map_nil]
 have hixl:∀ k:Nat,k<l.length→l[k]?=some (l.getD k 0):=fun k h=>by simp [List.getD_eq_getElem?_getD,h]
 have hixm:∀ k:Nat,k<m.length→m[k]?=some (m.getD k 0):=fun k h=>by simp [List.getD_eq_getElem?_getD,h]
 refine rgn [] [[0,1]] ?_
 refine op1 tok ?_
 refine qA (AW.seq (rgn [] [[],[],[],[],[0,1,10]] ?_))
 iterate 5 refine op1 tok ?_
 refine qA (cnd ?_ ?_)
 ·intro h10
  try simp at h10
  have hN:xU l m=(l.length:Int)-m.length:=by simp only [xU]; rw [if_pos (by omega)]
  refine rgn [] [[],[],[],[12,14],[],[4]] ?_
  iterate 6 refine op1 tok ?_
  refine qA ?_
  exact AW.ret (qG (k:=by simp [hN]))
 intro h10
 try simp at h10
 have hlen:l.length=m.length:=by omega
 have hN:xU l m=vN l m l.length:=by simp only [xU]; rw [if_neg (by omega)]
 rw [hN]
 refine AW.skip (AW.seq (rgn [] [[],[],[],[0,1,5]] ?_))
 iterate 4 refine op1 tok ?_
 refine qA (AW.block ?_)
 refine AW.loop (α:=Nat) (fun k=>k≤l.length∧vN l m l.length=vN l m k) (fun k=>⟨qV 41 [(0,.p (.sl 1 (l.map zQ))),(1,.p (.sl 1 (m.map zQ))),(5,.p (.int .i64 (k-1)))],[],[],0⟩) (fun k=>k) (l.length) ⟨Nat.le_refl _,rfl⟩ ⟨qB (by simp),rfl,by simp,by simp⟩ ?_
 rintro k ⟨hk,ht⟩
 refine AW.seq (rgn [] [[],[0,1,5,20]] ?_)
 iterate 2 refine op1 tok ?_
 refine qA (cnd ?_ ?_)
 ·intro h20
  try simp at h20
  obtain ⟨k,rfl⟩:∃ j,k=j+1:=⟨k-1,by omega⟩
  have hkl:k<l.length:=by omega
  have hkm:k<m.length:=by omega
  have hgl:=hixl k hkl
  have hgm:=hixm k hkm
  have hti:((k+1:Nat):Int)-1=k:=by omega
  simp only [hti]
  generalize hx:l.getD k 0=x at *
  generalize hy:m.getD k 0=y at *
  simp only [vN,hx,hy] at ht
  rw [ht]
  refine AW.skip (AW.seq (AW.block ?_))
  refine AW.seqRunDrawK tok mixed [0,1,5,31] 9 [[0],[5],[23,24],[25],[1],[5],[27,28],[29],[26,30]] [.int .u64 x,.int .u64 y] [] (by kernel_rfl) (by intro C; conv=>lhs; simp) (by simp [hgl,hgm]) (by simp [Sm.sum,Sm.foot,Sm.tch,Sm.refs]; kernel_rfl) (by intro C; conv=>lhs; simp) (by first | with_reducible exact True.intro | omega | simp | (simp +contextual; omega)) ?_
  refine cnd ?_ ?_
  ·intro h31
   try simp at h31
   rw [if_neg (by omega)]
   refine AW.seq ?_
   refine AW.seqRunDrawK tok mixed [40] 9 [[0],[5],[32,33],[34],[1],[5],[36,37],[38],[35,39]] [.int .u64 x,.int .u64 y] [] (by kernel_rfl) (by intro C; conv=>lhs; simp) (by simp [hgl,hgm]) (by simp [Sm.sum,Sm.foot,Sm.tch,Sm.refs]; kernel_rfl) (by intro C; conv=>lhs; simp) (by first | with_reducible exact True.intro | omega | simp | (simp +contextual; omega)) ?_
   refine cnd ?_ ?_
   ·intro h40
    try simp at h40
    rw [if_pos (by omega)]
    refine rgn [] [[]] ?_
    refine op1 tok ?_
    exact qA (AW.ret qG)
   intro h40
   try simp at h40
   rw [if_neg (by omega)]
   refine AW.skip (rgn [] [[]] ?_)
   refine op1 tok ?_
   exact qA (AW.ret qG)
  intro h31
  try simp at h31
  refine AW.skip (rgz [] [[],[],[0,1,5]] ?_)
  iterate 3 refine op1 tok ?_
  refine qA ?_
  exact ⟨k,⟨by omega,by rw [if_pos (by omega)]⟩,by omega,qB (by simp),rfl,by simp,by simp⟩
 intro h20
 try simp at h20
 have hk0:k=0:=by omega
 subst hk0
 rw [ht]
 simp only [vN]
 refine AW.exit ?_
 simp
 refine rgn [] [[]] ?_
 refine op1 tok ?_
 exact qA (AW.ret qG)
def yI (d:Dc) (sc:Int):List UInt8:=d.digits++List.replicate (sc-d.scale).toNat 48
theorem zBH (d:Dc) (sc:Int) (h1:d.digits.length≤1000) (h2:0≤d.scale) (h3:d.scale≤sc) (h4:sc≤1000) (hd:d.digits.all qH=true):AFn Tryz.prog G 189 [d.enc,.ref [.int .i64 sc]] (.sl 1 ((jN (yI d sc)).map zQ)):=by
 refine AFn.introU tok Tryz.func189 (by kernel_rfl) rfl rfl ?_
 simp only [Tryz.f189,qI,List.map_cons,List.map_nil]
 have hre:=qDO (G:=G) [48] (sc-d.scale).toNat (by simp; omega)
 rw [qGF,show (((sc-d.scale).toNat:Nat):Int)=sc-d.scale by omega] at hre
 have hna:=qOS (G:=G) (yI d sc) (wX hd _) (by simp [yI]; omega)
 unfold yI at hna
 unfold yI
 refine rgn [] [[],[1,2]] ?_
 iterate 2 refine op1 tok ?_
 refine qA ?_
 refine AW.seqRunDrawK tok mixed [3] 9 [[2],[4],[1],[2],[7],[6,8],[9],[5,10],[11]] [.nilp,.str (List.replicate (sc-d.scale).toNat 48),.nilp,.sl 1 ((jN (d.digits++List.replicate (sc-d.scale).toNat 48)).map zQ)] [] (by kernel_rfl) (by intro C; conv=>lhs; simp) (by ((repeat' (first | with_reducible apply And.intro | intro _)) <;> first | exact (hre) | exact (hna) | assumption | omega | contradiction | simp_all)) (by simp [Sm.sum,Sm.foot,Sm.tch,Sm.refs]; kernel_rfl) (by intro C; conv=>lhs; simp) (by first | with_reducible exact True.intro | omega | simp | (simp +contextual; omega)) ?_
 exact AW.ret qG
def qX (a b:Dc):Int:=if a.scale<b.scale then b.scale else a.scale
def okD (d:Dc):Prop:=d.digits.length≤1000∧0≤d.scale∧d.scale≤1000∧d.digits.all qH=true
theorem qQR (a b:Dc) (ha:okD a) (hb:okD b):AFn Tryz.prog G 138 [a.enc,b.enc] (.tup [.sl 1 ((jN (yI a (qX a b))).map zQ),.sl 1 ((jN (yI b (qX a b))).map zQ),.int .i64 (qX a b)]):=by
 refine AFn.introU tok Tryz.func138 (by kernel_rfl) rfl rfl ?_
 simp only [Tryz.f138,qI,List.map_cons,List.map_nil]
 obtain ⟨a1,a2,a3,a4⟩:=ha
 obtain ⟨b1,b2,b3,b4⟩:=hb
 have hm1:a.scale≤qX a b:=by unfold qX; split <;> omega
 have hm2:b.scale≤qX a b:=by unfold qX; split <;> omega
 have hm3:qX a b≤1000:=by unfold qX; split <;> omega
 have e1:=zBH (G:=G) a (qX a b) a1 a2 hm1 hm3 a4
 have e2:=zBH (G:=G) b (qX a b) b1 b2 hm2 hm3 b4
 have hmx:(if a.scale<b.scale then b.scale else a.scale)=qX a b:=rfl
 refine rgn [] [[],[],[],[2,3],[2,3]] ?_
 iterate 5 refine op1 tok ?_
 refine qA (rgn [] [[],[],[],[],[2,3,13],[],[2,3,7]] ?_)
 iterate 7 refine op1 tok ?_
 refine qA (rgn [] [[],[2,3,7,8]] ?_)
 iterate 2 refine op1 tok ?_
 refine qA ?_
 refine AW.freezeV 7 (by conv=>lhs; simp [hmx]) ?_
 refine AW.seqRunDrawK tok mixed [4,5,6] 9 [[8],[2],[15,16],[8],[3],[18,19],[7],[17],[20]] [.nilp,.sl 1 ((jN (yI a (qX a b))).map zQ),.nilp,.sl 1 ((jN (yI b (qX a b))).map zQ)] [] (by kernel_rfl) (by intro C; conv=>lhs; simp) (by ((repeat' (first | with_reducible apply And.intro | intro _)) <;> first | exact (e1) | exact (e2) | assumption | omega | contradiction | simp_all)) (by simp [Sm.sum,Sm.foot,Sm.tch,Sm.refs]; kernel_rfl) (by intro C; conv=>lhs; simp) (by first | with_reducible exact True.intro | omega | simp | (simp +contextual; omega)) ?_
 exact AW.ret qG
def qCB (a b:Dc):Int:=xU (jN (yI a (qX a b))) (jN (yI b (qX a b)))
def qBN (a b:Dc):Int:=if a.neg=b.neg then (if a.neg=true then sgn (- qCB a b) else sgn (qCB a b)) else if a.neg=true then -1 else 1
theorem zHM (n:Int):(if 1<(if n < -1 then -1 else n) then 1 else (if n < -1 then -1 else n))=sgn n:=by unfold sgn; split <;> split <;> (try split) <;> omega
theorem zRK (a b:Dc) (ha:okD a) (hb:okD b):AFn Tryz.prog G 103 [a.enc,b.enc] (.int .i64 (qBN a b)):=by
 refine AFn.introU tok Tryz.func103 (by kernel_rfl) rfl rfl ?_
 simp only [Tryz.f103,qI,List.map_cons,List.map_nil]
 have hal:=qQR (G:=G) a b ha hb
 have hl:∀ (d:Dc),okD d→∀ sc:Int,sc≤1000→(jN (yI d sc)).length≤1000000:=fun d hd sc hs=>by
  have:=qFL (yI d sc); have:=hd.1; have:=hd.2.1; simp [yI] at *; omega
 have hm3:qX a b≤1000:=by have:=ha.2.2.1; have:=hb.2.2.1; unfold qX; split <;> omega
 have hcm:=qSP (G:=G) (jN (yI a (qX a b))) (jN (yI b (qX a b))) (hl a ha _ hm3) (hl b hb _ hm3)
 have hrg:=qVS (jN (yI a (qX a b))) (jN (yI b (qX a b))) (hl a ha _ hm3) (hl b hb _ hm3)
 rw [show xU (jN (yI a (qX a b))) (jN (yI b (qX a b)))=qCB a b from rfl] at hcm hrg
 have hwn:IntKind.i64.wrap (- qCB a b) = - qCB a b:=by simp [IntKind.wrap,IntKind.bits,IntKind.signed]; omega
 refine rgn [] [[],[],[2,3]] ?_
 iterate 3 refine op1 tok ?_
 refine qA (rgn [.nilp,.tup [.sl 1 ((jN (yI a (qX a b))).map zQ),.sl 1 ((jN (yI b (qX a b))).map zQ),.int .i64 (qX a b)]] [[],[],[],[],[],[],[2,3,13,14,15],[],[],[2,3,5,6]] ?_)
 iterate 10 refine oq1 tok hal ?_
 refine qA (rgn [.nilp,.int .i64 (qCB a b)] [[],[],[2,3,18],[2,3,8]] ?_)
 iterate 4 refine oq1 tok hcm ?_
 refine qA (AW.seq (AW.block (rgn [] [[],[],[],[],[2,8,24],[2,8,19]] ?_)))
 iterate 6 refine op1 tok ?_
 refine qA (cnd ?_ ?_)
 ·intro h19
  try simp at h19
  refine rgn [] [[]] ?_
  refine op1 tok ?_
  refine qA (rgn [] [[],[8,26]] ?_)
  iterate 2 refine op1 tok ?_
  refine qA (cnd ?_ ?_)
  ·intro h26
   try simp at h26
   have hC:qBN a b = -1:=by unfold qBN; rw [if_neg h19,if_pos h26]
   refine rgz [] [[]] ?_
   refine op1 tok ?_
   refine qA (rgn [] [[],[],[],[4]] ?_)
   iterate 4 refine op1 tok ?_
   refine qA ?_
   exact AW.ret (qG (k:=by simp [hC]))
  intro h26
  try simp at h26
  have hC:qBN a b=1:=by unfold qBN; rw [if_neg h19,if_neg (by simp [h26])]
  refine AW.skip (rgn [] [[],[],[],[4]] ?_)
  iterate 4 refine op1 tok ?_
  refine qA ?_
  exact AW.ret (qG (k:=by simp [hC]))
 intro h19
 try simp at h19
 refine rgn [] [[],[],[8,27]] ?_
 iterate 3 refine op1 tok ?_
 refine qA (cnd ?_ ?_)
 ·intro h27
  try simp at h27
  have hC:qBN a b=sgn (- qCB a b):=by unfold qBN; rw [if_pos h19,if_pos h27]
  refine rgz [] [[],[],[8]] ?_
  iterate 3 refine op1 tok ?_
  refine qA (rgn [] [[],[],[],[4]] ?_)
  iterate 4 refine op1 tok ?_
  refine qA ?_
  exact AW.ret (qG (k:=by (simp [hwn,hC]; unfold sgn; (repeat' split) <;> omega)))
 intro h27
 try simp at h27
 have hC:qBN a b=sgn (qCB a b):=by unfold qBN; rw [if_pos h19,if_neg (by simp [h27])]
 refine AW.skip (rgn [] [[],[],[],[4]] ?_)
 iterate 4 refine op1 tok ?_
 refine qA ?_
 exact AW.ret (qG (k:=by simp [zHM,hC]))
theorem zF {d:Dc} (h:zO d=true):okD d∧d.digits.length≤60∧d.scale≤60:=by
 unfold zO at h
 simp only [Bool.and_eq_true,decide_eq_true_eq] at h
 obtain ⟨⟨h1,h2⟩,_⟩:=h
 exact ⟨⟨by omega,by omega,by omega,h1⟩,by omega,by omega⟩
def qN (d:Dc):Nat:=qE d.digits * 10 ^ (60-d.scale.toNat)
def qD (d:Dc):Int:=if d.neg=true then-(qN d:Int) else qN d
theorem zQF {a:Int} {k:Int} (hk:0<k):sgn (a * k)=sgn a:=by
 unfold sgn
 by_cases h1:a<0
 ·rw [if_pos h1,if_pos (Int.mul_neg_of_neg_of_pos h1 hk)]
 rw [if_neg h1]
 by_cases h2:a=0
 ·subst h2; simp
 have:=Int.mul_pos (show 0<a by omega) hk
 rw [if_neg h2,if_neg (by omega),if_neg (by omega)]
theorem zLY {a b:Dc} (ha:zO a=true) (hb:zO b=true):sgn (qCB a b)=sgn ((qN a:Int)-qN b):=by
 obtain ⟨⟨a1,a2,a3,a4⟩,a5,a6⟩:=zF ha
 obtain ⟨⟨b1,b2,b3,b4⟩,b5,b6⟩:=zF hb
 have hm1:a.scale≤qX a b:=by unfold qX; split <;> omega
 have hm2:b.scale≤qX a b:=by unfold qX; split <;> omega
 have hm3:qX a b≤60:=by unfold qX; split <;> omega
 unfold qCB yI
 rw [qLV (qDA (wX a4 _)) (qDA (wX b4 _)),qCZ (wX a4 _),qCZ (wX b4 _),jA,jA]
 have ea:(qN a:Int)=((qE a.digits * 10 ^ (qX a b-a.scale).toNat:Nat):Int) * ((10 ^ (60-(qX a b).toNat):Nat):Int):=by
  rw [← Int.natCast_mul,Nat.mul_assoc,← Nat.pow_add,show (qX a b-a.scale).toNat+(60-(qX a b).toNat)=60-a.scale.toNat by omega]; rfl
 have eb:(qN b:Int)=((qE b.digits * 10 ^ (qX a b-b.scale).toNat:Nat):Int) * ((10 ^ (60-(qX a b).toNat):Nat):Int):=by
  rw [← Int.natCast_mul,Nat.mul_assoc,← Nat.pow_add,show (qX a b-b.scale).toNat+(60-(qX a b).toNat)=60-b.scale.toNat by omega]; rfl
 rw [ea,eb,← Int.sub_mul,zQF (by have:=Nat.pow_pos (n:=60-(qX a b).toNat) (show 0<10 by omega); omega)]
theorem zEP (n:Int):sgn (- n) = - sgn n:=by unfold sgn; split <;> split <;> (try split) <;> omega
theorem uN {s:List UInt8} (hd:s.all qH=true) (hl:0<s.length) (h:qW s 0≠48):10 ^ (s.length-1)≤qE s:=by
 cases s with
 | nil=>simp at hl
 | cons b s =>
  simp only [List.all_cons,Bool.and_eq_true] at hd
  have h1:=(zK b).1 hd.1
  have h2:b.toNat≠48:=by simp [qW] at h; omega
  rw [wY]
  have:=Nat.mul_le_mul_right (10 ^ s.length) (show 1≤b.toNat-48 by omega)
  simp; omega
theorem zES {d:Dc} (h:zO d=true) (h0:qN d=0):d.neg=false:=by
 have hk:=zF h
 unfold zO at h
 simp only [Bool.and_eq_true,decide_eq_true_eq] at h
 obtain ⟨⟨h1,h2⟩,h3⟩:=h
 by_cases hz:d.digits=[48]
 ·rw [if_pos hz] at h3; simp at h3; exact h3.2
 rw [if_neg hz] at h3
 simp at h3
 have:=uN h1 (by omega) h3.1
 have hp:=Nat.pow_pos (n:=d.digits.length-1) (show 0<10 by omega)
 have hq:0<qN d:=Nat.mul_pos (by omega) (Nat.pow_pos (by omega))
 omega
theorem qTZ {a b:Dc} (ha:zO a=true) (hb:zO b=true):qBN a b=sgn (qD a-qD b):=by
 have hr:=zLY ha hb
 unfold qBN
 by_cases h:a.neg=b.neg
 ·rw [if_pos h]
  unfold qD
  rw [← h]
  split
  ·rw [zEP,hr,← zEP]; congr 1; omega
  exact hr
 rw [if_neg h]
 have hz1:=fun h0=>zES ha h0
 have hz2:=fun h0=>zES hb h0
 unfold qD
 cases hna:a.neg with
 | true =>
  have hnb:b.neg=false:=by rw [hna] at h; simpa using h
  have:qN a≠0:=fun e=>by have:=hz1 e; rw [hna] at this; cases this
  rw [hnb]; simp [sgn]; omega
 | false =>
  have hnb:b.neg=true:=by rw [hna] at h; simpa using h
  have:qN b≠0:=fun e=>by have:=hz2 e; rw [hnb] at this; cases this
  rw [hnb]; simp [sgn]; omega
def vQ (s:List UInt8) (i:Nat):Nat→Nat→Int→Option Int
 | 0,_,v=>some v
 | r+1,j,v=>match s[i+j]? with
  | none=>none
  | some c=>if (c.toNat:Int)<128∨192≤(c.toNat:Int) then none else vQ s i r (j+1) (64 * v+c.toNat-128)
def kK (c:Int):Nat × Int × Int :=
 if 194≤c∧c<224 then (2,128,c-192) else if 224≤c∧c<240 then (3,2048,c-224) else if 240≤c∧c<245 then (4,65536,c-240) else (0,0,0)
def qMI (low:Int) (need:Nat):Option Int→Int × Int
 | none=>(0,0)
 | some v=>if v<low∨v > 1114111∨(55296≤v∧v<57344) then (0,0) else (v,need)
def jB (s:List UInt8) (i:Nat) (x:Nat × Int × Int):Int × Int:=if x.1=0∨s.length<i+x.1 then (0,0) else qMI x.2.1 x.1 (vQ s i (x.1-1) 1 x.2.2)
def wC (s:List UInt8) (i:Nat):Int × Int:=match s[i]? with
 | none=>(0,0)
 | some b=>if (b.toNat:Int)<128 then (b.toNat,1) else jB s i (kK b.toNat)
def rS (s:List UInt8) (i:Nat) (x:Nat × Int × Int):St:=⟨[.p (.str s),.p (.int .i64 i),.dead,.dead,.p (.int .i64 0),.p (.int .i64 0),.dead,.p (.int .i64 x.1),.p (.int .i64 x.2.1),.p (.int .i64 x.2.2)]++List.replicate 86 .dead,[],[],0⟩
def rS2 (s:List UInt8) (i:Nat) (need:Nat) (low:Int) (a:Nat × Int):St:=⟨[.p (.str s),.p (.int .i64 i),.dead,.dead,.p (.int .i64 0),.p (.int .i64 0),.dead,.p (.int .i64 need),.p (.int .i64 low),.p (.int .i64 a.2),.p (.int .i64 a.1)]++List.replicate 85 .dead,[],[],0⟩
theorem zGJ (s:List UInt8) (i:Nat) (hi:i<s.length) (hs:s.length≤1000000000):AFn Tryz.prog G 133 [.str s,.int .i64 i] (.tup [.int .i64 (wC s i).1,.int .i64 (wC s i).2]):=by
 refine AFn.intro tok Tryz.func133 (by kernel_rfl) rfl ?_
 simp only [Tryz.f133,St.start]
 obtain ⟨b,hb⟩:∃ b,s[i]?=some b:=⟨s[i],by simp [hi]⟩
 have hblt:b.toNat<256:=b.toNat_lt
 have hrune:wC s i=if (b.toNat:Int)<128 then ((b.toNat:Int),1) else jB s i (kK b.toNat):=by simp only [wC,hb]
 refine AW.seqRun tok [] (by intro C; conv=>lhs; simp) trivial ?_
 refine AW.seqRun tok [.int .u8 b.toNat] (by intro C; conv=>lhs; simp) (by simp [hb]) ?_
 refine AW.seqRun tok [] (by intro C; conv=>lhs; simp) trivial ?_
 refine AW.seqRun tok [] (by intro C; conv=>lhs; simp) trivial ?_
 refine AW.seqRun tok [] (by intro C; conv=>lhs; simp) trivial ?_
 refine AW.join (α:=Nat × Int × Int) (fun x=>wC s i=jB s i x∧x.1≤4∧0≤x.2.2∧x.2.2≤40) (fun x=>rS s i x) ?_ ?_
 ·refine AW.block ?_
  refine AW.seqRun tok [] (by intro C; conv=>lhs; simp) trivial ?_
  refine AW.cond (c := .tmp 16) (by conv=>lhs; simp) trivial ?_ ?_
  ·intro h1
   simp at h1
   refine AW.seqRun tok [] (by intro C; conv=>lhs; simp) trivial ?_
   exact AW.ret ⟨.inr rfl,_,_,by (conv=>lhs; simp),trivial,by rw [hrune,if_pos h1]; simp⟩
  intro h1
  simp at h1
  have hr2:wC s i=jB s i (kK b.toNat):=by rw [hrune,if_neg (by omega)]
  refine AW.seqRun tok [] (by intro C; conv=>lhs; simp) (by simp) ?_
  refine AW.cond (c := .tmp 20) (by conv=>lhs; simp) trivial ?_ ?_
  ·intro h2
   simp at h2
   refine AW.seqRun tok [] (by intro C; conv=>lhs; simp) trivial ?_
   refine AW.seqRun tok [] (by intro C; conv=>lhs; simp) trivial ?_
   refine AW.run tok [] (by intro C; conv=>lhs; simp) (by omega) ?_
   exact ⟨(2,128,b.toNat-192),⟨by rw [hr2]; simp [kK,h2],by simp,by simp; omega,by simp; omega⟩,by simp [rS],rfl,by simp [rS],by simp [rS]⟩
  intro h2
  refine AW.seqRun tok [] (by intro C; conv=>lhs; simp) (by simp) ?_
  refine AW.cond (c := .tmp 29) (by conv=>lhs; simp) trivial ?_ ?_
  ·intro h3
   simp at h3
   refine AW.seqRun tok [] (by intro C; conv=>lhs; simp) trivial ?_
   refine AW.seqRun tok [] (by intro C; conv=>lhs; simp) trivial ?_
   refine AW.run tok [] (by intro C; conv=>lhs; simp) (by omega) ?_
   exact ⟨(3,2048,b.toNat-224),⟨by rw [hr2]; simp [kK,h3,show ¬ ((b.toNat:Int)<224) by omega],by simp,by simp; omega,by simp; omega⟩,by simp [rS],rfl,by simp [rS],by simp [rS]⟩
  intro h3
  refine AW.seqRun tok [] (by intro C; conv=>lhs; simp) (by simp) ?_
  refine AW.cond (c := .tmp 38) (by conv=>lhs; simp) trivial ?_ ?_
  ·intro h4
   simp at h4
   refine AW.seqRun tok [] (by intro C; conv=>lhs; simp) trivial ?_
   refine AW.seqRun tok [] (by intro C; conv=>lhs; simp) trivial ?_
   refine AW.run tok [] (by intro C; conv=>lhs; simp) (by omega) ?_
   exact ⟨(4,65536,b.toNat-240),⟨by rw [hr2]; simp [kK,h4,show ¬ ((b.toNat:Int)<224) by omega,show ¬ ((b.toNat:Int)<240) by omega],by simp,by simp; omega,by simp; omega⟩,by simp [rS],rfl,by simp [rS],by simp [rS]⟩
  intro h4
  simp at h2 h3 h4
  refine AW.skip ?_
  exact ⟨(0,0,0),⟨by rw [hr2]; simp [kK,show ¬ (194≤(b.toNat:Int)∧(b.toNat:Int)<224) by omega,show ¬ (224≤(b.toNat:Int)∧(b.toNat:Int)<240) by omega,show ¬ (240≤(b.toNat:Int)∧(b.toNat:Int)<245) by omega],
   by simp,by simp,by simp⟩,by simp [rS],rfl,by simp [rS],by simp [rS]⟩
 rintro ⟨need,low,v0⟩ ⟨hr,hneed,hv0,hv1⟩
 simp only at hneed hv0 hv1
 simp only [rS]
 rw [hr]
 refine AW.seq ?_
 refine AW.seqRun tok [] (by intro C; conv=>lhs; simp) (by simp +contextual; omega) ?_
 refine AW.cond (c := .tmp 56) (by conv=>lhs; simp) trivial ?_ ?_
 ·intro h1
  simp at h1
  refine AW.seqRun tok [] (by intro C; conv=>lhs; simp) trivial ?_
  exact AW.ret ⟨.inr rfl,_,_,by (conv=>lhs; simp),trivial,by simp [jB,show need=0∨s.length<i+need by omega]⟩
 intro h1
 simp at h1
 have hfit:¬ (need=0∨s.length<i+need):=by omega
 have htl:jB s i (need,low,v0)=qMI low need (vQ s i (need-1) 1 v0):=by simp only [jB]; rw [if_neg hfit]
 rw [htl]
 refine AW.skip (AW.seq ?_)
 refine AW.seqRun tok [] (by intro C; conv=>lhs; simp) trivial ?_
 refine AW.block ?_
 refine AW.loop (α:=Nat × Int) (fun a=>1≤a.1∧a.1≤need∧vQ s i (need-1) 1 v0=vQ s i (need-a.1) a.1 a.2∧0≤a.2∧(a.1=1→a.2≤40)∧(a.1=2→a.2≤3000)∧(a.1=3→a.2≤200000)∧(a.1=4→a.2≤14000000))
  (fun a=>rS2 s i need low a) (fun a=>need-a.1) (1,v0) ⟨by simp,by omega,rfl,hv0,fun _=>hv1,by simp,by simp,by simp⟩ ⟨by simp [rS2],rfl,by simp [rS2],by simp [rS2]⟩ ?_
 rintro ⟨j,v⟩ ⟨hj1,hj2,hlp,hv,hb1,hb2,hb3,hb4⟩
 simp only at hj1 hj2 hlp hv hb1 hb2 hb3 hb4
 simp only [rS2]
 refine AW.seq ?_
 refine AW.seqRun tok [] (by intro C; conv=>lhs; simp) trivial ?_
 refine AW.cond (c := .tmp 59) (by conv=>lhs; simp) trivial ?_ ?_
 ·intro h4
  simp at h4
  obtain ⟨c,hc⟩:∃ c,s[i+j]?=some c:=⟨s[i+j]'(by omega),by simp [show i+j<s.length by omega]⟩
  have hclt:c.toNat<256:=c.toNat_lt
  have hstep:vQ s i (need-j) j v=if (c.toNat:Int)<128∨192≤(c.toNat:Int) then none else vQ s i (need-(j+1)) (j+1) (64 * v+c.toNat-128):=by
   rw [show need-j=(need-(j+1))+1 by omega]; simp only [vQ,hc]
  refine AW.skip (AW.seq (AW.block ?_))
  refine AW.seqRun tok [.int .u8 c.toNat] (by intro C; conv=>lhs; simp) (by rw [show ((i:Int)+j).toNat=i+j by omega]; simp [hc]; omega) ?_
  refine AW.seq ?_
  refine AW.seqRun tok [] (by intro C; conv=>lhs; simp) (by simp) ?_
  refine AW.cond (c := .tmp 73) (by conv=>lhs; simp) trivial ?_ ?_
  ·intro h5
   simp at h5
   refine AW.seqRun tok [] (by intro C; conv=>lhs; simp) trivial ?_
   exact AW.ret ⟨.inr rfl,_,_,by (conv=>lhs; simp),trivial,by rw [hlp,hstep,if_pos (by omega)]; simp [qMI]⟩
  intro h5
  simp at h5
  refine AW.skip ?_
  refine AW.run tok [] (by intro C; conv=>lhs; simp) (by omega) ?_
  refine AW.run tok [] (by intro C; conv=>lhs; simp) (by omega) ?_
  exact ⟨(j+1,64 * v+c.toNat-128),⟨by simp,by simp; omega,by rw [hlp,hstep,if_neg (by omega)],by simp; omega,by simp; omega,by simp; omega,by simp; omega,by simp; omega⟩,by simp; omega,by simp [rS2],rfl,by simp [rS2],by simp [rS2]⟩
 intro h4
 simp at h4
 have hjn:j=need:=by omega
 subst hjn
 rw [hlp]
 simp only [Nat.sub_self,vQ]
 refine AW.exit ?_
 simp
 refine AW.seq ?_
 refine AW.seqRun tok [] (by intro C; conv=>lhs; simp) (by omega) ?_
 refine AW.cond (c := .tmp 93) (by conv=>lhs; simp) trivial ?_ ?_
 ·intro h5
  simp at h5
  refine AW.seqRun tok [] (by intro C; conv=>lhs; simp) trivial ?_
  exact AW.ret ⟨.inr rfl,_,_,by (conv=>lhs; simp),trivial,by simp only [qMI]; rw [if_pos (by omega)]; simp⟩
 intro h5
 simp at h5
 refine AW.skip ?_
 refine AW.seqRun tok [] (by intro C; conv=>lhs; simp) trivial ?_
 exact AW.ret ⟨.inr rfl,_,_,by (conv=>lhs; simp),trivial,by simp only [qMI]; rw [if_neg (by omega)]; simp⟩
theorem qGL (s:List UInt8) (i:Nat) (hi:i<s.length):0≤(wC s i).2∧(i:Int)+(wC s i).2≤s.length∧(wC s i).2≤4:=by
 unfold wC
 split
 ·simp; omega
 rename_i b hb
 split
 ·simp; omega
 have h4:(kK b.toNat).1≤4:=by
  unfold kK; split
  ·simp
  split
  ·simp
  split <;> simp
 generalize kK b.toNat=x at h4
 unfold jB
 split
 ·simp; omega
 rename_i h
 have h':i+x.1≤s.length:=by omega
 unfold qMI
 split
 ·simp; omega
 split
 ·simp; omega
 simp only; omega
def qLI (s:List UInt8):Nat→Nat→Bool
 | 0,_=>true
 | f+1,i=>if i<s.length then (if (wC s i).2=0 then false else qLI s f (i+(wC s i).2.toNat)) else true
def qFA (s:List UInt8):Bool:=qLI s (s.length+1) 0
def vS (s:List UInt8) (i:Nat):St:=⟨[.p (.str s),.dead,.p (.bool false),.p (.int .i64 i)]++List.replicate 17 .dead,[],[],0⟩
theorem qYL (s:List UInt8) (hs:s.length≤1000000000):AFn Tryz.prog G 75 [.str s] (.bool (qFA s)):=by
 refine AFn.intro tok Tryz.func75 (by kernel_rfl) rfl ?_
 simp only [Tryz.f75,St.start]
 refine AW.seqRun tok [] (by intro C; conv=>lhs; simp) trivial ?_
 refine AW.seqRun tok [] (by intro C; conv=>lhs; simp) trivial ?_
 refine AW.seq (AW.block ?_)
 refine AW.loop (α:=Nat × Nat) (fun a=>qFA s=qLI s a.2 a.1∧a.1≤s.length∧s.length+1≤a.2+a.1) (fun a=>vS s a.1) (fun a=>s.length-a.1) (0,s.length+1) ⟨rfl,by simp,by simp⟩ ⟨by simp [vS],rfl,by simp [vS],by simp [vS]⟩ ?_
 rintro ⟨i,f⟩ ⟨hI,hi,hf⟩
 simp only at hI hi hf
 simp only [vS]
 refine AW.seq ?_
 refine AW.seqRun tok [] (by intro C; conv=>lhs; simp) trivial ?_
 refine AW.cond (c := .tmp 9) (by conv=>lhs; simp) trivial ?_ ?_
 ·intro h1
  simp at h1
  obtain ⟨f,rfl⟩:∃ f',f=f'+1:=⟨f-1,by omega⟩
  have hl:=qGL s i h1
  have hR:=zGJ (G:=G) s i h1 hs
  simp only [qLI,h1,if_true] at hI
  refine AW.skip (AW.block ?_)
  refine AW.seqRun tok [.tup [.str s,.int .i64 i],.tup [.int .i64 (wC s i).1,.int .i64 (wC s i).2]] (by intro C; conv=>lhs; simp) (by simp [hR]) ?_
  refine AW.seq ?_
  refine AW.seqRun tok [] (by intro C; conv=>lhs; simp) trivial ?_
  refine AW.cond (c := .tmp 17) (by conv=>lhs; simp) trivial ?_ ?_
  ·intro h2
   simp at h2
   refine AW.seqRun tok [] (by intro C; conv=>lhs; simp) trivial ?_
   exact AW.ret ⟨.inr rfl,_,_,by (conv=>lhs; simp),trivial,by rw [hI]; simp [h2]⟩
  intro h2
  simp at h2
  rw [if_neg h2] at hI
  refine AW.skip ?_
  refine AW.run tok [] (by intro C; conv=>lhs; simp) (by omega) ?_
  exact ⟨(i+(wC s i).2.toNat,f),⟨hI,by simp; omega,by simp; omega⟩,by simp; omega,by simp [vS]; omega,rfl,by simp [vS],by simp [vS]⟩
 intro h1
 simp at h1
 refine AW.exit ?_
 simp
 refine AW.seqRun tok [] (by intro C; conv=>lhs; simp) trivial ?_
 exact AW.ret ⟨.inr rfl,_,_,by (conv=>lhs; simp),trivial,by
  rw [hI]
  cases f with
  | zero=>simp [qLI]
  | succ f=>simp only [qLI]; rw [if_neg (by omega)]; simp⟩
theorem zDX {s:List UInt8} {j:Nat} {c:UInt8} (h:s[j]?=some c):(⟨s.toArray⟩:ByteArray).get! j=c:=by
 have hj:=(List.getElem?_eq_some_iff.1 h).1
 have hc:=(List.getElem?_eq_some_iff.1 h).2
 show s.toArray[j]! = c
 rw [getElem!_pos s.toArray j (by simpa using hj)]
 simpa using hc
def xC (o:Option UInt8):Nat:=match o with
 | some c=>c.toNat
 | none=>0
def yC (o:Option UInt8):Bool:=match o with
 | some c=>c.toNat / 64 == 2
 | none=>false
def qGX (b0:Nat) (o1 o2 o3:Option UInt8):Nat × Nat :=
 if b0<0x80 then (b0,1)
 else if b0 / 32 == 6 && yC o1 then
  if (b0 % 32) * 64+xC o1 % 64 ≥ 0x80 then ((b0 % 32) * 64+xC o1 % 64,2) else (65533,1)
 else if b0 / 16 == 14 && yC o1 && yC o2 then
  if (b0 % 16) * 4096+(xC o1 % 64) * 64+xC o2 % 64 ≥ 0x800 && Utf8.valid ((b0 % 16) * 4096+(xC o1 % 64) * 64+xC o2 % 64:Nat) then ((b0 % 16) * 4096+(xC o1 % 64) * 64+xC o2 % 64,3) else (65533,1)
 else if b0 / 8 == 30 && yC o1 && yC o2 && yC o3 then
  if (b0 % 8) * 262144+(xC o1 % 64) * 4096+(xC o2 % 64) * 64+xC o3 % 64 ≥ 0x10000 && Utf8.valid ((b0 % 8) * 262144+(xC o1 % 64) * 4096+(xC o2 % 64) * 64+xC o3 % 64:Nat) then
   ((b0 % 8) * 262144+(xC o1 % 64) * 4096+(xC o2 % 64) * 64+xC o3 % 64,4) else (65533,1)
 else (65533,1)
theorem zAM {s:List UInt8} {i:Nat} {b:UInt8} (h:s[i]?=some b):Utf8.decode ⟨s.toArray⟩ i=qGX b.toNat s[i+1]? s[i+2]? s[i+3]?:=by
 have hsz:(⟨s.toArray⟩:ByteArray).size=s.length:=by simp [ByteArray.size]
 have cont:∀ k,(decide (i+k<(⟨s.toArray⟩:ByteArray).size) && ((⟨s.toArray⟩:ByteArray).get! (i+k)).toNat / 64 == 2)=yC s[i+k]?:=by
  intro k
  rw [hsz]
  cases hk:s[i+k]? with
  | none =>
   have:¬ i+k<s.length:=by have:=List.getElem?_eq_none_iff.1 hk; omega
   simp [yC,this]
  | some c =>
   have:=(List.getElem?_eq_some_iff.1 hk).1
   simp [yC,this,zDX hk]
 have byt:∀ k,yC s[i+k]?=true→((⟨s.toArray⟩:ByteArray).get! (i+k)).toNat=xC s[i+k]?:=by
  intro k hk
  cases hc:s[i+k]? with
  | none=>rw [hc] at hk; cases hk
  | some c=>rw [zDX hc]; rfl
 have b0:((⟨s.toArray⟩:ByteArray).get! (i+0)).toNat=b.toNat:=by rw [Nat.add_zero,zDX h]
 unfold Utf8.decode qGX
 simp only [cont,b0]
 by_cases h1:yC s[i+1]?=true
 ·rw [byt 1 h1]
  by_cases h2:yC s[i+2]?=true
  ·rw [byt 2 h2]
   by_cases h3:yC s[i+3]?=true
   ·rw [byt 3 h3]; simp only [h1,h2,h3]; rfl
   simp only [h1,h2,h3,Bool.and_false,Bool.false_eq_true,if_false]; rfl
  simp only [h1,h2,Bool.and_false,Bool.false_and,Bool.false_eq_true,if_false]; rfl
 simp only [h1,Bool.and_false,Bool.false_and,Bool.false_eq_true,if_false]; rfl
theorem zNS (low v : Int) (m k : Nat) (hk : k ≠ 0) (hv : v = (m : Int)) : (if (qMI low k (some v)).2 = 0 then ((65533 : Nat), (1 : Nat)) else ((qMI low k (some v)).1.toNat, (qMI low k (some v)).2.toNat)) =
  if (m:Int)<low∨(m:Int) > 1114111∨(55296≤(m:Int)∧(m:Int)<57344) then (65533,1) else (m,k):=by
 subst hv
 unfold qMI
 by_cases h:(m:Int)<low∨(m:Int) > 1114111∨(55296≤(m:Int)∧(m:Int)<57344)
 ·simp only [h,if_true]
 simp only [h,if_false]
 rw [if_neg (by omega)]
 rfl
theorem qHG (m:Nat):Utf8.valid (m:Int)=decide (¬ ((m:Int) > 1114111∨(55296≤(m:Int)∧(m:Int)<57344))):=by
 rw [Bool.eq_iff_iff]; simp only [Utf8.valid,Bool.or_eq_true,Bool.and_eq_true,decide_eq_true_eq]; omega
theorem isC (c:UInt8):(c.toNat / 64 == 2)=decide (128≤c.toNat∧c.toNat<192):=by rw [Bool.eq_iff_iff]; simp only [beq_iff_eq,decide_eq_true_eq]; omega
theorem yQ (c:UInt8):yC (some c)=decide (128≤c.toNat∧c.toNat<192):=isC c
theorem xL {s:List UInt8} {i r j:Nat} {v:Int} {c:UInt8} (h:s[i+j]?=some c) (hc:128≤c.toNat∧c.toNat<192):vQ s i (r+1) j v=vQ s i r (j+1) (64 * v+c.toNat-128):=by
 simp only [vQ,h]; rw [if_neg (by omega)]
theorem qCV {s:List UInt8} {i r j:Nat} {v:Int} {c:UInt8} (h:s[i+j]?=some c) (hc:¬ (128≤c.toNat∧c.toNat<192)):vQ s i (r+1) j v=none:=by
 simp only [vQ,h]; rw [if_pos (by omega)]
theorem xN {n : Nat} {o1 o2 o3 : Option UInt8} (h0 : ¬ n < 128) (h : (n / 32 = 6 → yC o1 = true → n % 32 * 64 + xC o1 % 64 < 128) ∧ (n / 16 = 14 → yC o1 = true → yC o2 = false) ∧ (n / 8 = 30 → yC o1 = true → yC o2 = true → yC o3 = true → 1114111 < n % 8 * 262144)) :
  qGX n o1 o2 o3=(65533,1):=by
 obtain ⟨h1,h2,h3⟩:=h
 unfold qGX
 rw [if_neg h0]
 by_cases a:n / 32=6
 ·have b:¬ n / 16=14:=by omega
  have c:¬ n / 8=30:=by omega
  cases hc:yC o1 with
  | true=>simp only [a,beq_self_eq_true,Bool.and_self,if_true]; rw [if_neg (by have:=h1 a hc; omega)]
  | false=>simp [a,b,c]
 by_cases b:n / 16=14
 ·have c:¬ n / 8=30:=by omega
  cases hc:yC o1 with
  | true=>simp [a,b,c,h2 b hc]
  | false=>simp [a,b,c]
 by_cases c:n / 8=30
 ·cases hc1:yC o1 with
  | false=>simp [a,b]
  | true =>
   cases hc2:yC o2 with
   | false=>simp [a,b]
   | true =>
    cases hc3:yC o3 with
    | false=>simp [a,b]
    | true =>
     have hb:=h3 c hc1 hc2 hc3
     simp only [a,b,c,beq_iff_eq,beq_self_eq_true,Bool.false_and,Bool.and_self,Bool.and_true,if_false,if_true,Bool.false_eq_true]
     rw [if_neg]
     rw [qHG]
     simp only [Bool.and_eq_true,decide_eq_true_eq]
     omega
 simp [a,b,c]
theorem zUG {n : Nat} {c : UInt8} {o2 o3 : Option UInt8} (h0 : ¬ n < 128) (hn : n / 32 = 6) (hc : 128 ≤ c.toNat ∧ c.toNat < 192) :
  qGX n (some c) o2 o3=if n % 32 * 64+c.toNat % 64 ≥ 128 then (n % 32 * 64+c.toNat % 64,2) else (65533,1):=by
 have h1:yC (some c)=true:=by rw [yQ]; exact decide_eq_true hc
 unfold qGX
 rw [if_neg h0,if_pos (by rw [h1,hn]; rfl)]
 rfl
theorem zUF {n : Nat} {c d : UInt8} {o3 : Option UInt8} (h0 : ¬ n < 128) (hn : n / 16 = 14) (hc : 128 ≤ c.toNat ∧ c.toNat < 192) (hd : 128 ≤ d.toNat ∧ d.toNat < 192) {m : Nat} (hm : m = n % 16 * 4096 + c.toNat % 64 * 64 + d.toNat % 64) :
  qGX n (some c) (some d) o3=if (m:Int)<2048∨(m:Int) > 1114111∨(55296≤(m:Int)∧(m:Int)<57344) then (65533,1) else (m,3):=by
 have h1:yC (some c)=true:=by rw [yQ]; exact decide_eq_true hc
 have h2:yC (some d)=true:=by rw [yQ]; exact decide_eq_true hd
 have e1:¬ n / 32=6:=by omega
 unfold qGX
 rw [if_neg h0,if_neg (by rw [h1]; simp [e1]),if_pos (by rw [h1,h2,hn]; rfl)]
 simp only [xC,← hm,qHG]
 clear hm
 by_cases hb:(m:Int)<2048∨(m:Int) > 1114111∨55296≤(m:Int)∧(m:Int)<57344
 ·rw [if_pos hb,if_neg]; simp only [Bool.and_eq_true,decide_eq_true_eq]; omega
 rw [if_neg hb,if_pos]; simp only [Bool.and_eq_true,decide_eq_true_eq]; omega
theorem zUE {n : Nat} {c d e : UInt8} (h0 : ¬ n < 128) (hn : n / 8 = 30) (hc : 128 ≤ c.toNat ∧ c.toNat < 192) (hd : 128 ≤ d.toNat ∧ d.toNat < 192) (he : 128 ≤ e.toNat ∧ e.toNat < 192) {m : Nat}
  (hm:m=n % 8 * 262144+c.toNat % 64 * 4096+d.toNat % 64 * 64+e.toNat % 64) :
  qGX n (some c) (some d) (some e)=if (m:Int)<65536∨(m:Int) > 1114111∨(55296≤(m:Int)∧(m:Int)<57344) then (65533,1) else (m,4):=by
 have h1:yC (some c)=true:=by rw [yQ]; exact decide_eq_true hc
 have h2:yC (some d)=true:=by rw [yQ]; exact decide_eq_true hd
 have h3:yC (some e)=true:=by rw [yQ]; exact decide_eq_true he
 have e1:¬ n / 32=6:=by omega
 have e2:¬ n / 16=14:=by omega
 unfold qGX
 rw [if_neg h0,if_neg (by rw [h1]; simp [e1]),if_neg (by rw [h1,h2]; simp [e2]),if_pos (by rw [h1,h2,h3,hn]; rfl)]
 simp only [xC,← hm,qHG]
 clear hm
 by_cases hb:(m:Int)<65536∨(m:Int) > 1114111∨55296≤(m:Int)∧(m:Int)<57344
 ·rw [if_pos hb,if_neg]; simp only [Bool.and_eq_true,decide_eq_true_eq]; omega
 rw [if_neg hb,if_pos]; simp only [Bool.and_eq_true,decide_eq_true_eq]; omega
theorem qLP {s:List UInt8} {i:Nat} (hi:i<s.length):Utf8.decode ⟨s.toArray⟩ i=if (wC s i).2=0 then (65533,1) else ((wC s i).1.toNat,(wC s i).2.toNat):=by
 obtain ⟨b,hb⟩:∃ b,s[i]?=some b:=⟨s[i],by simp [hi]⟩
 rw [zAM hb]
 have hblt:b.toNat<256:=b.toNat_lt
 have hr:wC s i=if (b.toNat:Int)<128 then ((b.toNat:Int),1) else jB s i (kK b.toNat):=by simp only [wC,hb]
 have in1:∀ k,s[i+k]?=none↔s.length≤i+k:=fun k=>List.getElem?_eq_none_iff
 have has:∀ k,i+k<s.length→∃ c,s[i+k]?=some c:=fun k hk=>⟨s[i+k],by simp [hk]⟩
 generalize b.toNat=n at hblt hr
 by_cases h0:n<128
 ·rw [if_pos (by omega)] at hr
  rw [hr]
  simp [qGX,h0]
 rw [if_neg (by omega)] at hr
 rw [hr]
 clear hr
 have tail0:∀ x:Nat × Int × Int,(x.1=0∨s.length<i+x.1)→(if (jB s i x).2=0 then ((65533:Nat),(1:Nat)) else ((jB s i x).1.toNat,(jB s i x).2.toNat))=(65533,1):=by
  intro x hx; unfold jB; rw [if_pos hx]; rfl
 have tailn:∀ x:Nat × Int × Int, ¬ (x.1=0∨s.length<i+x.1)→vQ s i (x.1-1) 1 x.2.2=none→(if (jB s i x).2=0 then ((65533:Nat),(1:Nat)) else ((jB s i x).1.toNat,(jB s i x).2.toNat))=(65533,1):=by
  intro x hx hn; unfold jB; rw [if_neg hx,hn]; rfl
 have tails : ∀ (x : Nat × Int × Int) (v : Int) (m : Nat), ¬ (x.1 = 0 ∨ s.length < i + x.1) → vQ s i (x.1 - 1) 1 x.2.2 = some v → v = m → (if (jB s i x).2 = 0 then ((65533 : Nat), (1 : Nat)) else ((jB s i x).1.toNat, (jB s i x).2.toNat)) =
   if (m:Int)<x.2.1∨(m:Int) > 1114111∨(55296≤(m:Int)∧(m:Int)<57344) then (65533,1) else (m,x.1):=by
  intro x v m hx hl hv; unfold jB; rw [if_neg hx,hl]; exact zNS _ _ _ _ (by omega) hv
 by_cases hA:194≤n∧n<224
 ·have hrc:kK n=(2,128,(n:Int)-192):=by unfold kK; rw [if_pos (by omega)]
  rw [hrc]
  by_cases hl:s.length<i+2
  ·rw [tail0 _ (Or.inr hl)]
   refine xN h0 ⟨fun _ h => ?_,fun h=>by omega,fun h=>by omega⟩
   rw [(in1 1).2 (by omega)] at h; cases h
  obtain ⟨c,h1⟩:=has 1 (by omega)
  rw [h1]
  by_cases hc:128≤c.toNat∧c.toNat<192
  ·rw [tails (2,128,(n:Int)-192) _ (n % 32 * 64+c.toNat % 64) (by simp; omega) (by rw [show (2:Nat)-1=0+1 from rfl,xL h1 hc]; rfl) (by simp only []; omega)]
   rw [zUG h0 (by omega) hc,if_pos (by omega),if_neg (by simp only []; omega)]
  rw [tailn _ (by simp; omega) (by rw [show ((2:Nat),(128:Int),(n:Int)-192).1-1=0+1 from rfl,qCV h1 hc])]
  refine xN h0 ⟨fun _ h => ?_,fun h=>by omega,fun h=>by omega⟩
  rw [yQ] at h; exact (hc (of_decide_eq_true h)).elim
 by_cases hB:224≤n∧n<240
 ·have hrc:kK n=(3,2048,(n:Int)-224):=by unfold kK; rw [if_neg (by omega),if_pos (by omega)]
  rw [hrc]
  by_cases hl:s.length<i+3
  ·rw [tail0 _ (Or.inr hl)]
   refine xN h0 ⟨fun h=>by omega,fun _ _ => ?_,fun h=>by omega⟩
   rw [(in1 2).2 (by omega)]; rfl
  obtain ⟨c,h1⟩:=has 1 (by omega)
  obtain ⟨d,h2⟩:=has 2 (by omega)
  rw [h1,h2]
  by_cases hc:128≤c.toNat∧c.toNat<192
  ·by_cases hd:128≤d.toNat∧d.toNat<192
   ·rw [tails (3,2048,(n:Int)-224) _ (n % 16 * 4096+c.toNat % 64 * 64+d.toNat % 64) (by simp; omega) (by rw [show (3:Nat)-1=1+1 from rfl,xL h1 hc,show (1:Nat)=0+1 from rfl,xL h2 hd]; rfl) (by simp only []; omega)]
    exact zUF h0 (by omega) hc hd rfl
   rw [tailn _ (by simp; omega) (by rw [show ((3:Nat),(2048:Int),(n:Int)-224).1-1=1+1 from rfl,xL h1 hc,show (1:Nat)=0+1 from rfl,qCV h2 hd])]
   refine xN h0 ⟨fun h=>by omega,fun _ _ => ?_,fun h=>by omega⟩
   rw [yQ]; exact decide_eq_false hd
  rw [tailn _ (by simp; omega) (by rw [show ((3:Nat),(2048:Int),(n:Int)-224).1-1=1+1 from rfl,qCV h1 hc])]
  refine xN h0 ⟨fun h=>by omega,fun _ h => ?_,fun h=>by omega⟩
  rw [yQ] at h; exact (hc (of_decide_eq_true h)).elim
 by_cases hC:240≤n∧n<245
 ·have hrc:kK n=(4,65536,(n:Int)-240):=by unfold kK; rw [if_neg (by omega),if_neg (by omega),if_pos (by omega)]
  rw [hrc]
  by_cases hl:s.length<i+4
  ·rw [tail0 _ (Or.inr hl)]
   refine xN h0 ⟨fun h=>by omega,fun h=>by omega,fun _ _ _ h => ?_⟩
   rw [(in1 3).2 (by omega)] at h; cases h
  obtain ⟨c,h1⟩:=has 1 (by omega)
  obtain ⟨d,h2⟩:=has 2 (by omega)
  obtain ⟨e,h3⟩:=has 3 (by omega)
  rw [h1,h2,h3]
  by_cases hc:128≤c.toNat∧c.toNat<192
  ·by_cases hd:128≤d.toNat∧d.toNat<192
   ·by_cases he:128≤e.toNat∧e.toNat<192
    ·rw [tails (4,65536,(n:Int)-240) _ (n % 8 * 262144+c.toNat % 64 * 4096+d.toNat % 64 * 64+e.toNat % 64) (by simp; omega)
      (by rw [show (4:Nat)-1=2+1 from rfl,xL h1 hc,show (2:Nat)=1+1 from rfl,xL h2 hd,show (1:Nat)=0+1 from rfl,xL h3 he]; rfl) (by simp only []; omega)]
     exact zUE h0 (by omega) hc hd he rfl
    rw [tailn _ (by simp; omega) (by rw [show ((4:Nat),(65536:Int),(n:Int)-240).1-1=2+1 from rfl,xL h1 hc,show (2:Nat)=1+1 from rfl,xL h2 hd,show (1:Nat)=0+1 from rfl,qCV h3 he])]
    refine xN h0 ⟨fun h=>by omega,fun h=>by omega,fun _ _ _ h => ?_⟩
    rw [yQ] at h; exact (he (of_decide_eq_true h)).elim
   rw [tailn _ (by simp; omega) (by rw [show ((4:Nat),(65536:Int),(n:Int)-240).1-1=2+1 from rfl,xL h1 hc,show (2:Nat)=1+1 from rfl,qCV h2 hd])]
   refine xN h0 ⟨fun h=>by omega,fun h=>by omega,fun _ _ h => ?_⟩
   rw [yQ] at h; exact (hd (of_decide_eq_true h)).elim
  rw [tailn _ (by simp; omega) (by rw [show ((4:Nat),(65536:Int),(n:Int)-240).1-1=2+1 from rfl,qCV h1 hc])]
  refine xN h0 ⟨fun h=>by omega,fun h=>by omega,fun _ h => ?_⟩
  rw [yQ] at h; exact (hc (of_decide_eq_true h)).elim
 have hrc:kK n=(0,0,0):=by unfold kK; rw [if_neg (by omega),if_neg (by omega),if_neg (by omega)]
 rw [hrc,tail0 _ (.inl rfl)]
 refine xN h0 ⟨fun h _ => ?_,fun h=>by omega,fun h _ _ _=>by omega⟩
 have:xC s[i+1]? % 64<64:=Nat.mod_lt _ (by omega)
 omega
theorem qNT (s:List UInt8) (i:Nat):wC s i=wC (s.drop i) 0:=by
 have h:∀ k,(s.drop i)[k]?=s[i+k]?:=fun k=>by rw [List.getElem?_drop]
 have hl:∀ (f:Nat) (j:Nat) (v:Int),vQ s i f j v=vQ (s.drop i) 0 f j v:=by
  intro f
  induction f with
  | zero=>intro j v; rfl
  | succ f ih =>
   intro j v
   simp only [vQ,Nat.zero_add,h,ih]
 unfold wC
 rw [h 0,Nat.add_zero]
 cases hb:s[i]? with
 | none=>rfl
 | some b =>
  have hi:=(List.getElem?_eq_some_iff.1 hb).1
  simp only [jB,hl,List.length_drop]
  have e:(s.length<i+(kK ↑b.toNat).1)↔(s.length-i<0+(kK ↑b.toNat).1):=by omega
  simp only [e]
theorem qXN (s:List UInt8):Lib.validD s=qFA s:=by
 have key:∀ (n:Nat) (s:List UInt8) (i f:Nat),n=s.length-i→i≤s.length→s.length+1≤f+i→qLI s f i=Lib.validD (s.drop i):=by
  intro n
  induction n using Nat.strongRecOn with
  | _ n ih =>
   intro s i f hn hi hf
   cases f with
   | zero=>omega
   | succ f =>
    simp only [qLI]
    by_cases hlt:i<s.length
    ·rw [if_pos hlt]
     have hne:s.drop i≠[]:=by simp; omega
     rw [Lib.validD_step _ hne]
     have hd:=qLP (s:=s.drop i) (i:=0) (by simp; omega)
     rw [← qNT] at hd
     have hl:=qGL s i hlt
     have hdl:Lib.decodeL (s.drop i)=Utf8.decode ⟨(s.drop i).toArray⟩ 0:=rfl
     rw [hdl,hd]
     by_cases h0:(wC s i).2=0
     ·rw [if_pos h0,if_pos h0,if_pos ⟨rfl,rfl⟩]
     rw [if_neg h0,if_neg h0]
     have hne2:¬ ((wC s i).1.toNat=65533∧(wC s i).2.toNat=1):=by
      rintro ⟨h1,h2⟩
      have:(wC s i).1=65533:=by omega
      have h3:(wC s i).2=1:=by omega
      obtain ⟨b,hb⟩:∃ b,s[i]?=some b:=⟨s[i],by simp [hlt]⟩
      have hb256:b.toNat<256:=b.toNat_lt
      have hr:wC s i=if (b.toNat:Int)<128 then ((b.toNat:Int),1) else jB s i (kK b.toNat):=by simp only [wC,hb]
      rw [hr] at this h3
      split at this
      ·simp only [] at this; omega
      rename_i hge
      rw [if_neg hge] at h3
      unfold jB at h3
      split at h3
      ·simp at h3
      rename_i hx
      have:(kK b.toNat).1=0∨2≤(kK b.toNat).1:=by
       unfold kK; repeat' split
       all_goals simp
      unfold qMI at h3
      split at h3
      ·simp at h3
      split at h3
      ·simp at h3
      simp only [] at h3; omega
     simp only []
     rw [if_neg hne2,List.drop_drop]
     exact ih _ (by omega) s (i+(wC s i).2.toNat) f rfl (by omega) (by omega)
    rw [if_neg hlt,List.drop_eq_nil_of_le (by omega)]; rfl
 exact (key _ s 0 (s.length+1) rfl (by omega) (by omega)).symm
def vU (s:List UInt8):Bool:=decide (0<s.length) && decide (qW s 0=45)
def qIQ (s:List UInt8) (k:Nat) (digits:List UInt8):Option (Nat × List UInt8 × Nat) :=
 if k<s.length∧qW s k=46 then (if wR s (k+1)=0 then none else some (k+1+wR s (k+1),digits++(s.take (k+1+wR s (k+1))).drop (k+1),wR s (k+1))) else some (k,digits,0)
def upM (s:List UInt8) (k:Nat):Nat→Int
 | 0=>0
 | i+1=>10 * upM s k i+(qW s (k+i)-48)
def kQ (s:List UInt8) (k:Nat):Nat:=if k<s.length∧(qW s k=45∨qW s k=43) then k+1 else k
def qLT (s:List UInt8) (k:Nat):Option (Nat × Int) :=
 if k<s.length∧(qW s k=101∨qW s k=69) then
  (if wR s (kQ s (k+1))<1∨2<wR s (kQ s (k+1)) then none
   else some (kQ s (k+1)+wR s (kQ s (k+1)),if k+1<s.length∧qW s (k+1)=45 then-upM s (kQ s (k+1)) (wR s (kQ s (k+1))) else upM s (kQ s (k+1)) (wR s (kQ s (k+1)))))
 else some (k,0)
def xO:Dc × Int:=(⟨false,[],0⟩,4)
def vW (neg:Bool) (digits:List UInt8) (sc:Int):Dc × Int:=if sc<0 then yX neg (digits++qL (-sc).toNat) 0 else yX neg digits sc.toNat
def qFE (s:List UInt8) (neg:Bool) (digits:List UInt8) (scale:Nat):Option (Nat × Int)→Dc × Int
 | none=>xO
 | some (k,up)=>if k=s.length then vW neg digits (scale-up) else xO
def qXX (s:List UInt8) (neg:Bool):Option (Nat × List UInt8 × Nat)→Dc × Int
 | none=>xO
 | some (k,digits,scale)=>qFE s neg digits scale (qLT s k)
def a0M (s:List UInt8):Nat:=if vU s=true then 1 else 0
def vC (s:List UInt8):Dc × Int :=
 if wR s (a0M s)=0∨(1<wR s (a0M s)∧qW s (a0M s)=48) then xO
 else qXX s (vU s) (qIQ s (a0M s+wR s (a0M s)) ((s.take (a0M s+wR s (a0M s))).drop (a0M s)))
theorem qVD (s:List UInt8) (k:Nat) (h:k≤s.length):k+wR s k≤s.length:=by
 unfold wR
 have:=(List.takeWhile_sublist (l:=s.drop k) fun b:UInt8=>kX b.toNat).length_le
 simp at this; omega
theorem qYK {s:List UInt8} {k:Nat} (h:0<wR s k):k<s.length:=((qVB (Nat.zero_le _)).1 h).1
theorem qDU {s:List UInt8} {k i:Nat} (h:i<wR s k):k+i<s.length∧48≤qW s (k+i)∧qW s (k+i)≤57:=by
 have:=(qVB (Nat.le_of_lt h)).1 h
 simpa [kX] using this
theorem zGQ {s:List UInt8} {k:Nat}:∀ {i:Nat},i≤2→i≤wR s k→0≤upM s k i∧upM s k i≤99∧(i≤1→upM s k i≤9)
 | 0,_,_=>by simp [upM]
 | 1,_,h=>by have:=qDU (s:=s) (k:=k) (i:=0) (by omega); simp [upM] at this ⊢; omega
 | 2,_,h=>by
  have h1:=qDU (s:=s) (k:=k) (i:=0) (by omega)
  have h2:=qDU (s:=s) (k:=k) (i:=1) (by omega)
  simp [upM] at h1 h2 ⊢; omega
theorem zPA (s:List UInt8):a0M s≤1:=by unfold a0M; split <;> omega
theorem zBL (s:List UInt8) (hs:s.length≤100000):AFn Tryz.prog G 26 [.str s] (.tup [(vC s).1.enc,.int .i64 (vC s).2]):=by
 refine AFn.introU tok Tryz.func26 (by kernel_rfl) rfl rfl ?_
 simp only [Tryz.f26,qI,List.map_cons,List.map_nil]
 have hrun:=fun k hk=>zTI (G:=G) s k (by omega) hk
 have hix:∀ k:Nat,k<s.length→s[k]?=some (s.getD k 0):=fun k h=>xZ h
 refine rgn [] [[],[0,2]] ?_
 iterate 2 refine op1 tok ?_
 refine qA (rgn [] [[]] ?_)
 refine op1 tok ?_
 refine qA (rgn [.int .u8 (qW s 0)] [[],[],[],[],[],[0,2,4,15,17],[],[],[0,2,4,5]] ?_)
 iterate 4 refine op1 tok ?_ (hv:=by first | with_reducible exact True.intro | (first | exact fun h=>⟨h,by omega,_,hix 0 (by omega),rfl⟩ | exact fun h=>⟨h,_,hix 0 (by omega),rfl⟩ | simp; done) | omega | simp | (simp +contextual; omega))
 iterate 3 refine op2 tok ?_ (hv:=by first | with_reducible exact True.intro | (first | exact fun h=>⟨h,by omega,_,hix 0 (by omega),rfl⟩ | exact fun h=>⟨h,_,hix 0 (by omega),rfl⟩ | simp; done) | omega | simp | (simp +contextual; omega))
 iterate 2 refine op1 tok ?_ (hv:=by first | with_reducible exact True.intro | (first | exact fun h=>⟨h,by omega,_,hix 0 (by omega),rfl⟩ | exact fun h=>⟨h,_,hix 0 (by omega),rfl⟩ | simp; done) | omega | simp | (simp +contextual; omega))
 refine qA ?_
 refine AW.join (α:=Unit) (fun _=>True) (fun a=>⟨qV 175 [(0,.p (.str s)),(2,.ptr 2 0),(4,.p (.int .i64 (a0M s))),(5,.p (.bool (vU s)))],[],[(2,.vars 26 [.p (.bool false),.p (.str []),.p (.int .i64 0)])],0⟩) ?_ ?_
 ·
  refine rgn [] [[]] ?_
  refine op1 tok ?_
  refine qA (cnd ?_ ?_)
  ·intro h20
   try simp at h20
   refine rgz [] [[]] ?_
   refine op1 tok ?_
   refine qA ?_
   exact ⟨(),trivial,qB (by simp [a0M,vU,h20]),rfl,by simp [a0M,vU,h20],by simp [a0M,vU,h20]⟩
  intro h20
  try simp at h20
  have hneg:vU s=false:=by
   rw [← Bool.not_eq_true]; intro h; simp only [vU,Bool.and_eq_true,decide_eq_true_eq] at h; exact h20 h.1 h.2
  have hneg0:=hneg
  have ha00:a0M s=0:=by simp [a0M,hneg]
  simp only [vU] at hneg0
  refine AW.skip ?_
  exact ⟨(),trivial,qB (by simp [ha00,hneg0,hneg]),rfl,by simp [ha00,hneg0,hneg],by simp [ha00,hneg0,hneg]⟩
 ·
  rintro a hI
  have ha0:=zPA s
  have hn0:=qVC s (a0M s)
  have hp0:=qYK (s:=s) (k:=a0M s)
  have hin0:=qVD s (a0M s)
  refine rgn [.nilp,.int .i64 (wR s (a0M s))] [[],[],[],[0,2,4,5,6]] ?_
  iterate 4 refine op1 tok ?_ (hv:=by first | with_reducible exact True.intro | (simp [hrun (a0M s) (by have:=zPA s; omega)]; done) | omega | simp | (simp +contextual; omega))
  refine qA (AW.seq (rgn [.int .u8 (qW s (a0M s))] [[],[],[],[],[],[0,2,4,5,6,26,29],[],[],[],[],[0,2,4,5,6,26,34],[0,2,4,5,6,35]] ?_))
  iterate 3 refine op1 tok ?_ (hv:=by first | with_reducible exact True.intro | (first | exact fun h1 h2=>⟨⟨h1,h2⟩,_,hix (a0M s) (hp0 (by omega)),rfl⟩ | exact fun h1=>⟨h1,fun h2=>⟨h1,h2⟩⟩ | simp; done) | omega | simp | (simp +contextual; omega))
  iterate 8 refine op2 tok ?_ (hv:=by first | with_reducible exact True.intro | (first | exact fun h1 h2=>⟨⟨h1,h2⟩,_,hix (a0M s) (hp0 (by omega)),rfl⟩ | exact fun h1=>⟨h1,fun h2=>⟨h1,h2⟩⟩ | simp; done) | omega | simp | (simp +contextual; omega))
  refine op1 tok ?_ (hv:=by first | with_reducible exact True.intro | (first | exact fun h1 h2=>⟨⟨h1,h2⟩,_,hix (a0M s) (hp0 (by omega)),rfl⟩ | exact fun h1=>⟨h1,fun h2=>⟨h1,h2⟩⟩ | simp; done) | omega | simp | (simp +contextual; omega))
  refine qA (cnd ?_ ?_)
  ·intro h35
   try simp at h35
   have hP:vC s=xO:=by unfold vC; rw [if_pos (by omega)]
   refine rgn [] [[],[],[2,3]] ?_
   iterate 3 refine op1 tok ?_
   refine qA ?_
   exact AW.ret (qG (k:=by simp [hP,xO]))
  intro h35
  try simp at h35
  have hP:vC s=qXX s (vU s) (qIQ s (a0M s+wR s (a0M s)) ((s.take (a0M s+wR s (a0M s))).drop (a0M s))):=by unfold vC; rw [if_neg (by omega)]
  rw [hP]
  have hin:=hin0 (by have:=hp0 (by omega); omega)
  generalize hdg:(s.take (a0M s+wR s (a0M s))).drop (a0M s)=dg0
  have hdgl:dg0.length≤s.length:=by rw [← hdg]; simp; omega
  obtain ⟨k1,hk1⟩:∃ k1,k1=a0M s+wR s (a0M s):=⟨_,rfl⟩
  rw [← hk1] at hin hdg ⊢
  refine AW.skip (rgn [] [[],[],[],[],[],[0,2,4,5,6,42],[0,2,4,5,6,7]] ?_)
  iterate 7 refine op1 tok ?_ (hv:=by first | with_reducible exact True.intro | (omega; done) | omega | simp | (simp +contextual; omega))
  refine qA (rgn [] [[],[],[0,2,5,7,45],[0,2,4,5,7]] ?_)
  iterate 4 refine op1 tok ?_
  refine qA ?_
  rw [show ((a0M s:Int)+(wR s (a0M s):Nat))=(k1:Nat) by omega]
  refine rgn [] [[]] ?_
  refine op1 tok ?_
  refine qA ?_
  refine AW.join (α:=Nat × List UInt8 × Nat) (fun a=>qIQ s k1 dg0=some a∧a.1≤s.length∧a.2.1.length≤200000∧a.2.2≤s.length) (fun a=>⟨qV 175 [(0,.p (.str s)),(2,.ptr 2 0),(4,.p (.int .i64 a.1)),(5,.p (.bool (vU s))),(7,.p (.str a.2.1)),(8,.p (.int .i64 a.2.2))],[],[(2,.vars 26 [.p (.bool false),.p (.str []),.p (.int .i64 0)])],0⟩) ?_ ?_
  ·
   have hr1:=qVD s (k1+1)
   refine rgn [.int .u8 (qW s k1)] [[],[],[],[],[0,2,4,5,7,8,50],[],[],[],[],[0,2,4,5,7,8,55]] ?_
   iterate 5 refine op1 tok ?_ (hv:=by first | with_reducible exact True.intro | (first | exact fun h=>⟨h,_,hix k1 (by omega),rfl⟩ | simp; done) | omega | simp | (simp +contextual; omega))
   iterate 4 refine op2 tok ?_ (hv:=by first | with_reducible exact True.intro | (first | exact fun h=>⟨h,_,hix k1 (by omega),rfl⟩ | simp; done) | omega | simp | (simp +contextual; omega))
   refine op1 tok ?_ (hv:=by first | with_reducible exact True.intro | (first | exact fun h=>⟨h,_,hix k1 (by omega),rfl⟩ | simp; done) | omega | simp | (simp +contextual; omega))
   refine qA (cnd ?_ ?_)
   ·intro h55
    try simp at h55
    refine rgn [.nilp,.int .i64 (wR s (k1+1))] [[],[],[],[],[0,2,4,5,7,8]] ?_
    iterate 5 refine op1 tok ?_ (hv:=by first | with_reducible exact True.intro | (first | omega | exact hrun (k1+1) (by omega); done) | omega | simp | (simp +contextual; omega))
    refine qA (AW.seq (rgn [] [[],[0,2,4,5,7,8,61]] ?_))
    iterate 2 refine op1 tok ?_
    refine qA (cnd ?_ ?_)
    ·intro h61
     try simp at h61
     have hP2:qIQ s k1 dg0=none:=by simp [qIQ,h55.1,h55.2,h61]
     refine rgn [] [[],[],[2,3]] ?_
     iterate 3 refine op1 tok ?_
     refine qA ?_
     exact AW.ret (qG (k:=by simp [hP2,qXX,xO]))
    intro h61
    try simp at h61
    refine AW.skip (rgn [] [[],[],[],[],[],[],[],[0,2,4,5,8,63,64,66,70],[],[0,2,4,5,8,72],[0,2,4,5,7,8]] ?_)
    iterate 11 refine op1 tok ?_
    refine qA (rgz [] [[],[],[],[0,2,5,7,8,76],[0,2,4,5,7,8]] ?_)
    iterate 5 refine op1 tok ?_
    refine qA ?_
    exact ⟨(k1+1+wR s (k1+1),dg0++(s.take (k1+1+wR s (k1+1))).drop (k1+1),wR s (k1+1)),⟨by simp [qIQ,h55.1,h55.2,h61],hr1 (by omega),by simp; omega,by have:=hr1 (by omega); show wR s (k1+1)≤s.length; omega⟩,qB (by simp [hdg,show ((k1:Int)+1+(wR s (k1+1):Nat)).toNat=k1+1+wR s (k1+1) from by omega]),rfl,by simp [hdg,show ((k1:Int)+1+(wR s (k1+1):Nat)).toNat=k1+1+wR s (k1+1) from by omega],by simp [hdg,show ((k1:Int)+1+(wR s (k1+1):Nat)).toNat=k1+1+wR s (k1+1) from by omega]⟩
   intro h55
   try simp at h55
   refine AW.skip ?_
   exact ⟨(k1,dg0,0),⟨by simp only [qIQ]; rw [if_neg (by intro h; exact h55 h.1 h.2)],hin,by show dg0.length≤200000; omega,by simp⟩,qB (by simp [hdg]),rfl,by simp [hdg],by simp [hdg]⟩
  ·
   rintro ⟨k,digits,scale⟩ ⟨hp2,hk,hdl,hsc⟩
   simp only at hk hdl hsc
   have hT:qXX s (vU s) (qIQ s k1 dg0)=qFE s (vU s) digits scale (qLT s k):=by rw [hp2]; rfl
   rw [hT]
   have hix1:(k:Int)+1<s.length→s[((k:Int)+1).toNat]?=some (s.getD (k+1) 0):=fun h=>by rw [show ((k:Int)+1).toNat=k+1 by omega]; exact hix (k+1) (by omega)
   refine rgn [] [[]] ?_
   refine op1 tok ?_
   refine qA ?_
   refine AW.join (α:=Nat × Int) (fun b=>qLT s k=some b∧b.1≤300000 ∧ -99≤b.2∧b.2≤99) (fun b=>⟨qV 175 [(0,.p (.str s)),(2,.ptr 2 0),(4,.p (.int .i64 b.1)),(5,.p (.bool (vU s))),(7,.p (.str digits)),(8,.p (.int .i64 scale)),(9,.p (.int .i64 b.2))],[],[(2,.vars 26 [.p (.bool false),.p (.str []),.p (.int .i64 0)])],0⟩) ?_ ?_
   ·
    refine rgn [.int .u8 (qW s k),.int .u8 (qW s k)] [[],[],[],[],[0,2,4,5,7,8,9,81],[],[],[],[],[0,2,4,5,7,8,9,81,86],[],[],[],[],[0,2,4,5,7,8,9,81,91],[0,2,4,5,7,8,9,92]] ?_
    iterate 5 refine op1 tok ?_ (hv:=by first | with_reducible exact True.intro | (((repeat' (first | with_reducible apply And.intro | intro _)) <;> first | omega | assumption | contradiction | exact ⟨_,hix _ (by omega),rfl⟩ | simp_all); done) | omega | simp | (simp +contextual; omega))
    iterate 10 refine op2 tok ?_ (hv:=by first | with_reducible exact True.intro | (((repeat' (first | with_reducible apply And.intro | intro _)) <;> first | omega | assumption | contradiction | exact ⟨_,hix _ (by omega),rfl⟩ | simp_all); done) | omega | simp | (simp +contextual; omega))
    refine op1 tok ?_ (hv:=by first | with_reducible exact True.intro | (((repeat' (first | with_reducible apply And.intro | intro _)) <;> first | omega | assumption | contradiction | exact ⟨_,hix _ (by omega),rfl⟩ | simp_all); done) | omega | simp | (simp +contextual; omega))
    refine qA (cnd ?_ ?_)
    ·intro h92
     try simp at h92
     refine rgn [] [[],[],[0,2,4,5,7,8,9]] ?_
     iterate 3 refine op1 tok ?_
     refine qA (rgn [.int .u8 (qW s (k+1))] [[],[],[],[],[0,2,4,5,7,8,9,99],[],[],[],[],[0,2,4,5,7,8,9,104],[0,2,4,5,7,8,9,10]] ?_)
     iterate 5 refine op1 tok ?_ (hv:=by first | with_reducible exact True.intro | (((repeat' (first | with_reducible apply And.intro | intro _)) <;> first | omega | assumption | contradiction | exact ⟨_,hix _ (by omega),rfl⟩ | simp_all); done) | omega | simp | (simp +contextual; omega))
     iterate 4 refine op2 tok ?_ (hv:=by first | with_reducible exact True.intro | (((repeat' (first | with_reducible apply And.intro | intro _)) <;> first | omega | assumption | contradiction | exact ⟨_,hix _ (by omega),rfl⟩ | simp_all); done) | omega | simp | (simp +contextual; omega))
     iterate 2 refine op1 tok ?_ (hv:=by first | with_reducible exact True.intro | (((repeat' (first | with_reducible apply And.intro | intro _)) <;> first | omega | assumption | contradiction | exact ⟨_,hix _ (by omega),rfl⟩ | simp_all); done) | omega | simp | (simp +contextual; omega))
     refine qA ?_
     refine AW.join (α:=Unit) (fun _=>True) (fun a=>⟨qV 175 [(0,.p (.str s)),(2,.ptr 2 0),(4,.p (.int .i64 (kQ s (k+1)))),(5,.p (.bool (vU s))),(7,.p (.str digits)),(8,.p (.int .i64 scale)),(9,.p (.int .i64 0)),(10,.p (.bool (decide (k+1<s.length) && decide (qW s (k+1)=45))))],[],[(2,.vars 26 [.p (.bool false),.p (.str []),.p (.int .i64 0)])],0⟩) ?_ ?_
     ·
      refine rgn [.int .u8 (qW s (k+1)),.int .u8 (qW s (k+1))] [[],[],[],[],[0,2,4,5,7,8,9,10,109],[],[],[],[],[0,2,4,5,7,8,9,10,109,114],[],[],[],[],[0,2,4,5,7,8,9,10,109,119],[0,2,4,5,7,8,9,10,120]] ?_
      iterate 5 refine op1 tok ?_ (hv:=by first | with_reducible exact True.intro | (((repeat' (first | with_reducible apply And.intro | intro _)) <;> first | omega | assumption | contradiction | exact ⟨_,hix _ (by omega),rfl⟩ | simp_all); done) | omega | simp | (simp +contextual; omega))
      iterate 10 refine op2 tok ?_ (hv:=by first | with_reducible exact True.intro | (((repeat' (first | with_reducible apply And.intro | intro _)) <;> first | omega | assumption | contradiction | exact ⟨_,hix _ (by omega),rfl⟩ | simp_all); done) | omega | simp | (simp +contextual; omega))
      refine op1 tok ?_ (hv:=by first | with_reducible exact True.intro | (((repeat' (first | with_reducible apply And.intro | intro _)) <;> first | omega | assumption | contradiction | exact ⟨_,hix _ (by omega),rfl⟩ | simp_all); done) | omega | simp | (simp +contextual; omega))
      refine qA (cnd ?_ ?_)
      ·intro h120
       try simp at h120
       refine rgz [] [[],[],[0,2,4,5,7,8,9,10]] ?_
       iterate 3 refine op1 tok ?_
       refine qA ?_
       exact ⟨(),trivial,qB (by simp [show kQ s (k+1)=k+1+1 from by (unfold kQ; rw [if_pos ⟨by omega,h120.2⟩]),show ((k:Int)+1<(s.length:Int))=(k+1<s.length) from propext (by omega)]),rfl,by simp [show kQ s (k+1)=k+1+1 from by (unfold kQ; rw [if_pos ⟨by omega,h120.2⟩]),show ((k:Int)+1<(s.length:Int))=(k+1<s.length) from propext (by omega)],by simp [show kQ s (k+1)=k+1+1 from by (unfold kQ; rw [if_pos ⟨by omega,h120.2⟩]),show ((k:Int)+1<(s.length:Int))=(k+1<s.length) from propext (by omega)]⟩
      intro h120
      try simp at h120
      refine AW.skip ?_
      exact ⟨(),trivial,qB (by simp [show kQ s (k+1)=k+1 from by (unfold kQ; rw [if_neg (by intro h; have:=h120 (by omega); omega)]),show ((k:Int)+1<(s.length:Int))=(k+1<s.length) from propext (by omega)]),rfl,by simp [show kQ s (k+1)=k+1 from by (unfold kQ; rw [if_neg (by intro h; have:=h120 (by omega); omega)]),show ((k:Int)+1<(s.length:Int))=(k+1<s.length) from propext (by omega)],by simp [show kQ s (k+1)=k+1 from by (unfold kQ; rw [if_neg (by intro h; have:=h120 (by omega); omega)]),show ((k:Int)+1<(s.length:Int))=(k+1<s.length) from propext (by omega)]⟩
     ·
      rintro a hI
      have hsg:kQ s (k+1)≤s.length+1:=by unfold kQ; split <;> omega
      have hin3:=qVD s (kQ s (k+1))
      have hp3:=qYK (s:=s) (k:=kQ s (k+1))
      have hn3:=qVC s (kQ s (k+1))
      obtain ⟨k3,hk3⟩:∃ k3,k3=kQ s (k+1):=⟨_,rfl⟩
      rw [← hk3] at hsg hin3 hp3 hn3 ⊢
      refine rgn [.nilp,.int .i64 (wR s k3)] [[],[],[],[0,2,4,5,6,7,8,9,10]] ?_
      iterate 4 refine op1 tok ?_ (hv:=by first | with_reducible exact True.intro | (exact hrun k3 (by omega); done) | omega | simp | (simp +contextual; omega))
      refine qA (AW.seq (rgn [] [[],[],[],[],[],[0,2,4,5,6,7,8,9,10,131]] ?_))
      iterate 3 refine op1 tok ?_
      iterate 2 refine op2 tok ?_
      refine op1 tok ?_
      refine qA (cnd ?_ ?_)
      ·intro h131
       try simp at h131
       have hP3:qLT s k=none:=by simp only [qLT]; rw [if_pos h92,← hk3,if_pos (by omega)]
       refine rgn [] [[],[],[2,3]] ?_
       iterate 3 refine op1 tok ?_
       refine qA ?_
       exact AW.ret (qG (k:=by simp [hP3,qFE,xO]))
      intro h131
      try simp at h131
      have hP3:qLT s k=some (k3+wR s k3,if k+1<s.length∧qW s (k+1)=45 then-upM s k3 (wR s k3) else upM s k3 (wR s k3)):=by simp only [qLT]; rw [if_pos h92,← hk3,if_neg (by omega)]
      have hk3l:k3<s.length:=hp3 (by omega)
      have hdig:=fun i=>qDU (s:=s) (k:=k3) (i:=i)
      refine AW.skip (AW.seq (rgn [] [[]] ?_))
      refine op1 tok ?_
      refine qA (AW.block ?_)
      refine AW.loop (α:=Nat) (fun i=>i≤wR s k3) (fun i=>⟨qV 175 [(0,.p (.str s)),(2,.ptr 2 0),(4,.p (.int .i64 k3)),(5,.p (.bool (vU s))),(6,.p (.int .i64 (wR s k3))),(7,.p (.str digits)),(8,.p (.int .i64 scale)),(9,.p (.int .i64 (upM s k3 i))),(10,.p (.bool (decide (k+1<s.length) && decide (qW s (k+1)=45)))),(11,.p (.int .i64 i))],[],[(2,.vars 26 [.p (.bool false),.p (.str []),.p (.int .i64 0)])],0⟩) (fun i=>wR s k3-i) (0) (by omega) ⟨qB (by simp [upM]),rfl,by simp,by simp⟩ ?_
      rintro i hi
      have hup:=zGQ (s:=s) (k:=k3) (i:=i) (by omega) hi
      refine AW.seq (rgn [] [[],[],[0,2,4,5,6,7,8,9,10,11,135]] ?_)
      iterate 3 refine op1 tok ?_
      refine qA (cnd ?_ ?_)
      ·intro h135
       try simp at h135
       have hdi:=hdig i h135
       have hw:IntKind.u8.wrap (qW s (k3+i)-48)=qW s (k3+i)-48:=by simp [IntKind.wrap,IntKind.bits,IntKind.signed]; omega
       refine AW.skip (AW.seq (AW.block (rgz [.int .u8 (qW s (k3+i))] [[],[],[],[],[],[0,2,4,5,6,7,8,10,11,139,140,143],[],[],[0,2,4,5,6,7,8,10,11,139,146],[],[0,2,4,5,6,7,8,9,10,11]] ?_)))
       iterate 11 refine op1 tok ?_ (hv:=by first | with_reducible exact True.intro | (((repeat' (first | with_reducible apply And.intro | intro _)) <;> first | omega | assumption | contradiction | exact ⟨_,hix _ (by omega),rfl⟩ | (rw [hw]; omega) | simp_all); done) | omega | simp | (simp +contextual; omega))
       refine qA (rgz [] [[],[],[0,2,4,5,6,7,8,9,10,11]] ?_)
       iterate 3 refine op1 tok ?_
       refine qA ?_
       exact ⟨i+1,by omega,by omega,qB (by simp [upM,hw]),rfl,by simp [upM,hw],by simp [upM,hw]⟩
      intro h135
      try simp at h135
      have hi2:i=wR s k3:=by omega
      subst hi2
      have hup2:=hin3 (by omega)
      have hw2:IntKind.i64.wrap (- upM s k3 (wR s k3)) = - upM s k3 (wR s k3):=by simp [IntKind.wrap,IntKind.bits,IntKind.signed]; omega
      refine AW.exit ?_
      simp
      refine rgn [] [[],[],[0,2,5,7,8,9,10,150],[0,2,4,5,7,8,9,10]] ?_
      iterate 4 refine op1 tok ?_
      refine qA (rgn [] [[0,2,4,5,7,8,9,151]] ?_)
      refine op1 tok ?_
      refine qA (cnd ?_ ?_)
      ·intro h151
       try simp at h151
       rw [if_pos h151] at hP3
       refine rgz [] [[],[],[0,2,4,5,7,8,9]] ?_
       iterate 3 refine op1 tok ?_
       refine qA ?_
       exact ⟨k3+wR s k3, - upM s k3 (wR s k3),⟨hP3,by omega,by omega,by omega⟩,qB (by simp [hw2]),rfl,by simp [hw2],by simp [hw2]⟩
      intro h151
      try simp at h151
      rw [if_neg (by intro h; exact h151 h.1 h.2)] at hP3
      refine AW.skip ?_
      exact ⟨k3+wR s k3,upM s k3 (wR s k3),⟨hP3,by omega,by omega,by omega⟩,qB (by simp),rfl,by simp,by simp⟩
    intro h92
    try simp at h92
    refine AW.skip ?_
    exact ⟨(k,0),⟨by simp only [qLT]; rw [if_neg (by intro h; have:=h92 h.1; omega)],by show k≤300000; omega,by simp,by simp⟩,qB (by simp),rfl,by simp,by simp⟩
   ·
    rintro ⟨k2,up⟩ ⟨hp3,hk2,hu1,hu2⟩
    simp only at hk2 hu1 hu2
    rw [hp3]
    refine AW.seq (rgn [] [[],[],[],[2,5,7,8,9,157]] ?_)
    iterate 4 refine op1 tok ?_
    refine qA (cnd ?_ ?_)
    ·intro h157
     try simp at h157
     have hR:qFE s (vU s) digits scale (some (k2,up))=xO:=by simp only [qFE]; rw [if_neg (by omega)]
     refine rgn [] [[],[],[2,3]] ?_
     iterate 3 refine op1 tok ?_
     refine qA ?_
     exact AW.ret (qG (k:=by simp [hR,xO]))
    intro h157
    try simp at h157
    have hR:qFE s (vU s) digits scale (some (k2,up))=vW (vU s) digits (scale-up):=by simp only [qFE]; rw [if_pos (by omega)]
    rw [hR]
    clear hR hp3
    have hw3:IntKind.i64.wrap (-((scale:Int)-up)) = -((scale:Int)-up):=by simp [IntKind.wrap,IntKind.bits,IntKind.signed]; omega
    have hz:=qCN (G:=G) (-((scale:Int)-up)) (by omega)
    have hzl:(qL (-((scale:Int)-up)).toNat).length≤300000:=by simp [qL]; omega
    refine AW.skip (rgn [] [[],[],[2,5,7,161],[2,5,7,8]] ?_)
    iterate 4 refine op1 tok ?_
    refine qA (AW.seq (rgn [] [[],[2,5,7,8,163]] ?_))
    iterate 2 refine op1 tok ?_
    refine qA (cnd ?_ ?_)
    ·intro h163
     try simp at h163
     have hL:vW (vU s) digits ((scale:Int)-up)=yX (vU s) (digits++qL (-((scale:Int)-up)).toNat) 0:=by simp only [vW]; rw [if_pos (by omega)]
     have hN:=qWY (G:=G) (vU s) (digits++qL (-((scale:Int)-up)).toNat) 0 (by simp; omega) (by omega)
     refine rgn [.nilp,.str (qL (-((scale:Int)-up)).toNat)] [[],[],[],[2,5,164,167],[],[2,5,7]] ?_
     iterate 6 refine op1 tok ?_ (hv:=by first | with_reducible exact True.intro | (first | (rw [hw3]; exact hz) | omega; done) | omega | simp | (simp +contextual; omega))
     refine qA (rgz [] [[]] ?_)
     refine op1 tok ?_
     refine qA (rgn [.nilp,.tup [(yX (vU s) (digits++qL (-((scale:Int)-up)).toNat) 0).1.enc,.int .i64 (yX (vU s) (digits++qL (-((scale:Int)-up)).toNat) 0).2]] [[],[],[],[2,172],[],[],[],[2,3]] ?_)
     iterate 8 refine oq1 tok hN ?_
     refine qA ?_
     exact AW.ret (qG (k:=by simp [hL]))
    intro h163
    try simp at h163
    obtain ⟨sc,hsc2⟩:∃ sc:Nat,(sc:Int)=(scale:Int)-up:=⟨((scale:Int)-up).toNat,by omega⟩
    have hL:vW (vU s) digits ((scale:Int)-up)=yX (vU s) digits sc:=by simp only [vW]; rw [if_neg (by omega),← hsc2]; rfl
    have hN:=qWY (G:=G) (vU s) digits sc (by omega) (by omega)
    rw [hsc2] at hN
    refine AW.skip (rgn [.nilp,.tup [(yX (vU s) digits sc).1.enc,.int .i64 (yX (vU s) digits sc).2]] [[],[],[],[2,172],[],[],[],[2,3]] ?_)
    iterate 8 refine oq1 tok hN ?_
    refine qA ?_
    exact AW.ret (qG (k:=by simp [hL]))
def xD (s:List UInt8):List UInt8:=s.take 100
theorem qYH (s:List UInt8):AFn Tryz.prog G 27 [.str s] (.str (xD s)):=by
 refine AFn.introU tok Tryz.func27 (by kernel_rfl) rfl rfl ?_
 simp only [Tryz.f27,qI,List.map_cons,List.map_nil]
 refine rgn [] [[0]] ?_
 refine op1 tok ?_
 refine qA (AW.seq (rgn [] [[],[],[0,5]] ?_))
 iterate 3 refine op1 tok ?_
 refine qA (cnd ?_ ?_)
 ·intro h5
  try simp at h5
  refine rgn [] [[],[],[2]] ?_
  iterate 3 refine op1 tok ?_
  refine qA ?_
  exact AW.ret (qG (k:=by simp [xD]))
 intro h5
 try simp at h5
 refine AW.skip (rgn [] [[],[2]] ?_)
 iterate 2 refine op1 tok ?_
 refine qA ?_
 exact AW.ret (qG (k:=by simp [xD]; rw [List.take_of_length_le (by omega)]))
def qCP (s:List UInt8):List UInt8:=if qFA (xD s)=true then xD s else [97]
theorem qHK (s:List UInt8):(xD s).length≤100:=by simp [xD]; omega
theorem qRQ (s:List UInt8):(qCP s).length≤100:=by
 unfold qCP; split
 ·exact qHK s
 simp
theorem zEG (s:List UInt8):AFn Tryz.prog G 28 [.str s] (.str (qCP s)):=by
 refine AFn.introU tok Tryz.func28 (by kernel_rfl) rfl rfl ?_
 simp only [Tryz.f28,qI,List.map_cons,List.map_nil]
 have h1:=qYH (G:=G) s
 have hl:=qHK s
 have h2:=qYL (G:=G) (xD s) (by omega)
 refine rgn [] [[0]] ?_
 refine op1 tok ?_
 refine qA (rgn [.nilp,.str (xD s)] [[],[],[0]] ?_)
 iterate 3 refine op1 tok ?_ (hv:=by first | with_reducible exact True.intro | (simp [h1]; done) | omega | simp | (simp +contextual; omega))
 refine qA (AW.seq (rgn [.nilp,.bool (qFA (xD s))] [[],[],[0,7]] ?_))
 iterate 3 refine op1 tok ?_ (hv:=by first | with_reducible exact True.intro | (simp [h2]; done) | omega | simp | (simp +contextual; omega))
 refine qA (cnd ?_ ?_)
 ·intro h7
  try simp at h7
  refine rgn [] [[]] ?_
  refine op1 tok ?_
  refine qA ?_
  exact AW.ret (qG (k:=by simp [qCP,h7]))
 intro h7
 try simp at h7
 refine AW.skip (rgn [] [[],[2]] ?_)
 iterate 2 refine op1 tok ?_
 refine qA ?_
 exact AW.ret (qG (k:=by simp [qCP,h7]))
def qBB (n:Nat):List UInt8:=List.replicate n 107
def xV (l:List (List UInt8)) (i:Nat):List UInt8:=if h:i<l.length then qCP l[i] else qBB (i-l.length+1)
def qLE (out:List (List UInt8)) (s:List UInt8):List (List UInt8):=if s∈out then out else out++[s]
def vV (l:List (List UInt8)) (many:Nat):Nat→Nat→List (List UInt8)→List (List UInt8)
 | 0,_,out=>out
 | f+1,i,out=>if out.length<many then vV l many f (i+1) (qLE out (xV l i)) else out
def qFN (l:List (List UInt8)) (many:Nat):List (List UInt8):=vV l many (l.length+many+1) 0 []
theorem qZD {α:Type} [DecidableEq α]:∀ {l m:List α},l.Nodup→(∀ x∈l,x∈m)→l.length≤m.length
 | [],m,_,_=>by simp
 | a::l,m,hn,hs=>by
  have ha:=hs a (by simp)
  have hn':=List.nodup_cons.1 hn
  have:=qZD (l:=l) (m:=m.erase a) hn'.2 fun x hx=>(List.mem_erase_of_ne (by rintro rfl; exact hn'.1 hx)).2 (hs x (by simp [hx]))
  rw [List.length_erase_of_mem ha] at this
  have:=List.length_pos_of_mem ha
  simp; omega
theorem zFO {out:List (List UInt8)} {n:Nat} (h:∀ t,1≤t→t≤n→qBB t∈out):n≤out.length:=by
 have hs:((List.range n).map fun t=>qBB (t+1)).Nodup:=by
  unfold List.Nodup
  refine List.Pairwise.map _ (fun a b hab => ?_) List.nodup_range
  intro he; have:=congrArg List.length he; simp [qBB] at this; exact hab this
 have:=qZD hs (m:=out) (by
  intro x hx; obtain ⟨t,ht,rfl⟩:=List.mem_map.1 hx
  simp at ht; exact h _ (by omega) (by omega))
 simpa using this
theorem qZF {l:List (List UInt8)} {many:Nat} {out:List (List UInt8)} (h:¬ out.length<many):∀ f i,vV l many f i out=out
 | 0,_=>rfl
 | f+1,i=>by simp only [vV]; rw [if_neg h]
theorem zMP (l:List (List UInt8)) (many:Nat) (hl:l.length≤140737488351232) (hm:many≤100000):AFn Tryz.prog G 29 [.sl 1 (l.map PD.str),.int .i64 many] (.sl 1 ((qFN l many).map PD.str)):=by
 refine AFn.introU tok Tryz.func29 (by kernel_rfl) rfl rfl ?_
 simp only [Tryz.f29,qI,List.map_cons,List.map_nil]
 have hw:=fun s=>zEG (G:=G) s
 refine rgn [] [[0,1]] ?_
 refine op1 tok ?_
 refine qA (rgn [] [[],[0,1,5]] ?_)
 iterate 2 refine op1 tok ?_
 refine qA (rgn [] [[]] ?_)
 refine op1 tok ?_
 refine qA (AW.seq (rgn [] [[]] ?_))
 refine op1 tok ?_
 refine qA (AW.block ?_)
 refine AW.loop (α:=Nat × List (List UInt8)) (fun a=>a.1≤l.length+many∧qFN l many=vV l many (l.length+many+1-a.1) a.1 a.2∧a.2.length≤many∧(∀ t,1≤t→t+l.length≤a.1→qBB t∈a.2)) (fun a=>⟨qV 52 [(0,.p (.sl 1 (l.map PD.str))),(1,.p (.int .i64 many)),(5,.ms 11),(6,.p (.str (qBB (a.1-l.length+1)))),(7,.p (.int .i64 a.1))],[],[(11,.row 9 1 (a.2.map PD.str))],0⟩) (fun a=>l.length+many-a.1) ((0,[])) ⟨by simp,rfl,by simp,by intro t h1 h2; simp at h2; omega⟩ ⟨qB (by simp [qBB]),rfl,by simp,by simp⟩ ?_
 rintro ⟨i,out⟩ ⟨hi,hn,ho,hk⟩
 simp only at hi hn ho hk
 have hkl:i-l.length≤out.length:=zFO fun t h1 h2=>hk t h1 (by omega)
 refine AW.seq (rgn [] [[],[],[],[0,1,5,6,7,15]] ?_)
 iterate 4 refine op1 tok ?_
 refine qA (cnd ?_ ?_)
 ·intro h15
  try simp at h15
  have hstep:qFN l many=vV l many (l.length+many+1-(i+1)) (i+1) (qLE out (xV l i)):=by
   rw [hn,show l.length+many+1-i=(l.length+many+1-(i+1))+1 by omega]; simp only [vV]; rw [if_pos h15]
  refine AW.skip (AW.seq (AW.block (rgn [] [[],[0,1,5,6,7,8]] ?_)))
  iterate 2 refine op1 tok ?_
  refine qA ?_
  refine AW.join (α:=Unit) (fun _=>True) (fun a=>⟨qV 52 [(0,.p (.sl 1 (l.map PD.str))),(1,.p (.int .i64 many)),(5,.ms 11),(6,.p (.str (qBB (i+1-l.length+1)))),(7,.p (.int .i64 i)),(8,.p (.str (xV l i)))],[],[(11,.row 9 1 (out.map PD.str))],0⟩) ?_ ?_
  ·
   refine rgn [] [[],[],[],[0,1,5,6,7,8,22]] ?_
   iterate 4 refine op1 tok ?_
   refine qA (cnd ?_ ?_)
   ·intro h22
    try simp at h22
    have hs:xV l i=qCP l[i]:=by simp [xV,h22]
    have hsl:=qRQ l[i]
    refine rgz [.str l[i],.nilp,.str (qCP l[i])] [[],[],[],[],[0,1,5,6,7,27],[0,1,5,6,7,8]] ?_
    iterate 6 refine op1 tok ?_ (hv:=by first | with_reducible exact True.intro | (simp [hw,h22]; done) | omega | simp | (simp +contextual; omega))
    refine qA ?_
    exact ⟨(),trivial,qB (by simp [hs,show i+1-l.length=i-l.length from by omega]),rfl,by simp [hs,show i+1-l.length=i-l.length from by omega],by simp [hs,show i+1-l.length=i-l.length from by omega]⟩
   intro h22
   try simp at h22
   have hs:xV l i=qBB (i-l.length+1):=by simp [xV]; omega
   refine rgz [] [[],[],[0,1,5,6,7,8]] ?_
   iterate 3 refine op1 tok ?_ (hv:=by first | with_reducible exact True.intro | (simp [qBB]; omega; done) | omega | simp | (simp +contextual; omega))
   refine qA ?_
   exact ⟨(),trivial,qB (by simp [hs,show i+1-l.length+1=i-l.length+1+1 from by omega,qBB,List.replicate_succ']),rfl,by simp [hs,show i+1-l.length+1=i-l.length+1+1 from by omega,qBB,List.replicate_succ'],by simp [hs,show i+1-l.length+1=i-l.length+1+1 from by omega,qBB,List.replicate_succ']⟩
  ·
   rintro a hI
   generalize hns:xV l i=s at *
   have hkay:∀ t,1≤t→t+l.length≤i+1→qBB t∈qLE out s:=by
    intro t h1 h2
    by_cases h3:t+l.length≤i
    ·have:=hk t h1 h3
     unfold qLE; split
     ·exact this
     simp [this]
    have:qBB t=s:=by rw [← hns]; simp only [xV]; rw [dif_neg (by omega)]; congr 1; omega
    rw [this]; unfold qLE; split
    ·assumption
    simp
   refine rgn [] [[]] ?_
   refine op1 tok ?_
   refine qA (AW.seq (rgn [] [[]] ?_))
   refine op1 tok ?_
   refine qA (AW.block ?_)
   refine AW.loop (α:=Nat) (fun k=>k≤out.length) (fun k=>⟨qV 52 [(0,.p (.sl 1 (l.map PD.str))),(1,.p (.int .i64 many)),(5,.ms 11),(6,.p (.str (qBB (i+1-l.length+1)))),(7,.p (.int .i64 i)),(8,.p (.str s)),(9,.p (.bool (decide (s∈out.take k)))),(10,.p (.int .i64 k))],[],[(11,.row 9 1 (out.map PD.str))],0⟩) (fun k=>out.length-k) (0) (by omega) ⟨qB (by simp),rfl,by simp,by simp⟩ ?_
   rintro k hko
   refine AW.seq (rgn [] [[],[],[],[0,1,5,6,7,8,9,10,33]] ?_)
   iterate 4 refine op1 tok ?_
   refine qA (cnd ?_ ?_)
   ·intro h33
    try simp at h33
    have hsn:(decide (s∈out.take k) || decide (out[k]=s))=decide (s∈out.take (k+1)):=by
     rw [List.take_succ_eq_append_getElem h33,Bool.eq_iff_iff]; simp only [Bool.or_eq_true,decide_eq_true_eq,List.mem_append,List.mem_singleton]; exact ⟨fun h=>h.imp id Eq.symm,fun h=>h.imp id Eq.symm⟩
    refine AW.skip (AW.seq (AW.block (rgz [.str out[k]] [[],[],[],[],[0,1,5,6,7,8,10,37,40],[],[],[],[0,1,5,6,7,8,10,44],[0,1,5,6,7,8,9,10]] ?_)))
    iterate 2 refine op1 tok ?_ (hv:=by first | with_reducible exact True.intro | (simp [h33]; done) | omega | simp | (simp +contextual; omega))
    iterate 6 refine op2 tok ?_ (hv:=by first | with_reducible exact True.intro | (simp [h33]; done) | omega | simp | (simp +contextual; omega))
    iterate 2 refine op1 tok ?_ (hv:=by first | with_reducible exact True.intro | (simp [h33]; done) | omega | simp | (simp +contextual; omega))
    refine qA (rgz [] [[],[],[0,1,5,6,7,8,9,10]] ?_)
    iterate 3 refine op1 tok ?_
    refine qA ?_
    exact ⟨k+1,by omega,by omega,qB (by simp [hsn]),rfl,by simp [hsn],by simp [hsn]⟩
   intro h33
   try simp at h33
   have hkk:k=out.length:=by omega
   subst hkk
   simp only [List.take_length]
   refine AW.exit ?_
   simp
   refine rgn [] [[],[0,1,5,6,7,8,46]] ?_
   iterate 2 refine op1 tok ?_
   refine qA (cnd ?_ ?_)
   ·intro h46
    try simp at h46
    have had:qLE out s=out++[s]:=by unfold qLE; rw [if_neg h46]
    rw [had] at hstep hkay
    refine rgz [.str s] [[],[],[],[0,1,6,7,50],[0,1,5,6,7]] ?_
    iterate 5 refine op1 tok ?_
    refine qA (rgz [] [[],[],[0,1,5,6,7]] ?_)
    iterate 3 refine op1 tok ?_
    refine qA ?_
    exact ⟨i+1,out++[s],⟨by omega,hstep,by simp; omega,hkay⟩,by omega,qB (by simp),rfl,by simp,by simp⟩
   intro h46
   try simp at h46
   have had:qLE out s=out:=by unfold qLE; rw [if_pos h46]
   rw [had] at hstep hkay
   refine AW.skip (rgz [] [[],[],[0,1,5,6,7]] ?_)
   iterate 3 refine op1 tok ?_
   refine qA ?_
   exact ⟨i+1,out,⟨by omega,hstep,by omega,hkay⟩,by omega,qB (by simp),rfl,by simp,by simp⟩
 intro h15
 try simp at h15
 have hn2:qFN l many=out:=by rw [hn]; exact qZF (by omega) _ _
 refine AW.exit ?_
 simp
 refine rgn [] [[],[4]] ?_
 iterate 2 refine op1 tok ?_
 refine qA ?_
 exact AW.ret (qG (k:=by simp [hn2]))
@[simp] def Val.cells (v:Val):List V:=[.p (.int .i64 v.kind),.p (.int .u64 v.mask),.p (.bool v.num.neg),.p (.str v.num.digits),.p (.int .i64 v.num.scale),.p (.str v.text),.p (.sl 1 (v.keys.map PD.str)),.p (.sl 9 (v.kids.map Val.enc)),.p (.int .i64 v.code)]
def xA (s:List UInt8):Bool:=decide ((s.length:Int)≤4096) && Lib.validD s
def qBX (l:List (List UInt8)):Bool:=l.all xA && decide l.Nodup
def zCV (v:Val):Bool:=if v.kind=4 then zO v.num else decide (v.num.neg=false∧v.num.digits=[]∧v.num.scale=0)
def qLO (v:Val):Bool:=if v.kind=5 then xA v.text else decide (v.text=[])
def qFM (v:Val):Bool:=if v.kind=7 then decide ((v.keys.length:Int)=v.kids.length) && qBX v.keys else decide (v.keys=[])
def qTG (v:Val):Bool:=decide (v.kids=[]) || decide (v.kind=6) || decide (v.kind=7)
def qTW (v:Val):Bool:=decide (decide (v.kind=8) = !decide (v.code=0))
def qAA (v:Val):Bool:=qTW v && zCV v && qLO v && qFM v && qTG v
def qAM (v:Val):Bool:=decide (1≤v.kind∧v.kind≤8∧v.kids.length≤200)
mutual
def qS:Val→Bool
 | .mk k m n t ks vs c=>qAM (.mk k m n t ks vs c) && qAA (.mk k m n t ks vs c) && qZK vs
def qZK:List Val→Bool
 | []=>true
 | v::vs=>qS v && qZK vs
end
theorem qST:∀ l,qZK l=l.all qS
 | []=>by simp [qZK]
 | v::vs=>by simp [qZK,qST vs]
theorem jX (v:Val):qS v=(qAM v && qAA v && v.kids.all qS):=by
 cases v; simp only [qS,qST,Val.kids]
def qBW (v:Val) (s:List UInt8):Val:=v.kids.getD (v.keys.idxOf s) zEY
theorem qKN {v:Val} (hl:v.keys.length≤v.kids.length) {s:List UInt8} (h:s∈v.keys):v.kids[v.keys.idxOf s]?=some (qBW v s):=by
 have:=List.idxOf_lt_length_of_mem h
 simp [qBW,List.getD_eq_getElem?_getD,show v.keys.idxOf s<v.kids.length by omega]
theorem yG {v k:Val} (h:qS v=true) (hk:k∈v.kids):qS k=true:=by
 rw [jX] at h; simp only [Bool.and_eq_true,List.all_eq_true] at h; exact h.2 k hk
theorem jW {v:Val} (h:qS v=true) (h7:v.kind=7):v.keys.length=v.kids.length∧v.keys.length≤200∧v.keys.Nodup:=by
 rw [jX] at h
 simp only [Bool.and_eq_true,qAM,qAA,qFM,decide_eq_true_eq] at h
 obtain ⟨⟨h1,⟨⟨_,h2⟩,_⟩⟩,_⟩:=h
 rw [if_pos h7] at h2
 simp [qBX] at h2
 exact ⟨by omega,by omega,h2.2.2⟩
theorem yW {v:Val} (h:qS v=true) (h4:v.kind=4):zO v.num=true:=by
 rw [jX] at h
 simp only [Bool.and_eq_true,qAA,zCV] at h
 obtain ⟨⟨h1,⟨⟨⟨⟨_,h2⟩,_⟩,_⟩,_⟩⟩,_⟩:=h
 rw [if_pos h4] at h2; exact h2
end Go.Proofs.YtdojfdaglbphlaaGreatDoor
