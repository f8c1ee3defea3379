import Derived.Shelf.Unicode.ValidAny
import Derived.Shelf.Unicode.DecodeAny
import Derived.Shelf.Small.Strs
import Derived.Shelf.Strings.Repeat
import Derived.Shelf.Sort.Plain
import Derived.Shelf.Strings.Builder1
import Derived.Shelf.Strings.OnBuilder
import Derived.Test.YtcfcfblbpnpclaaGreatDoorProg
namespace Go.Proofs
open Go.Shelf
def Tryz.lays197_ren:Go.Shelf.Ren:=⟨fun | 197=>93 | 260=>142 | n=>n,fun | 9=>9 | 21=>21 | 3=>3 | 4=>4 | 5=>5 | 105=>189 | 119=>326 | 0=>0 | 46=>132 | 139=>329 | 138=>328 | n=>n,fun | 3=>2 | 4=>3 | n=>n⟩
theorem Tryz.lays197:Go.Proofs.Lays.n197 Tryz.prog Tryz.lays197_ren:={
 mixed:=by kernel_rfl
 f197:=Tryz.func93.trans (congrArg some (by kernel_rfl))
 f260:=Tryz.func142.trans (congrArg some (by kernel_rfl))
 t0:=Tryz.underlying0
 a0:=Tryz.isAgg0
 z0:=Tryz.sizeOf0
 v0:=Tryz.zeroValue0
 t3:=Tryz.underlying3
 a3:=Tryz.isAgg3
 z3:=Tryz.sizeOf3
 v3:=Tryz.zeroValue3
 t4:=Tryz.underlying4
 a4:=Tryz.isAgg4
 z4:=Tryz.sizeOf4
 v4:=Tryz.zeroValue4
 t5:=Tryz.underlying5
 a5:=Tryz.isAgg5
 z5:=Tryz.sizeOf5
 v5:=Tryz.zeroValue5
 t9:=Tryz.underlying9
 a9:=Tryz.isAgg9
 z9:=Tryz.sizeOf9
 v9:=Tryz.zeroValue9
 t21:=Tryz.underlying21
 a21:=Tryz.isAgg21
 z21:=Tryz.sizeOf21
 v21:=Tryz.zeroValue21
 t46:=Tryz.underlying132
 a46:=Tryz.isAgg132
 z46:=Tryz.sizeOf132
 v46:=Tryz.zeroValue132
 t105:=Tryz.underlying189
 a105:=Tryz.isAgg189
 z105:=Tryz.sizeOf189
 v105:=Tryz.zeroValue189
 t119:=Tryz.underlying326
 a119:=Tryz.isAgg326
 z119:=Tryz.sizeOf326
 t138:=Tryz.underlying328
 a138:=Tryz.isAgg328
 z138:=Tryz.sizeOf328
 v138:=Tryz.zeroValue328
 t139:=Tryz.underlying329
 a139:=Tryz.isAgg329
 z139:=Tryz.sizeOf329
 v139:=Tryz.zeroValue329
 g3:=by kernel_rfl
 g4:=by kernel_rfl }
def Tryz.lays156_ren:Go.Shelf.Ren:=⟨fun | 156=>26 | 165=>45 | 166=>46 | 169=>47 | 240=>78 | 241=>79 | 276=>125 | 277=>126 | n=>n,fun | 31=>55 | 9=>9 | 3=>3 | 4=>4 | 0=>0 | 20=>20 | 72=>125 | 76=>129 | 70=>123 | 37=>26 | 75=>128 | 127=>178 | 164=>236 | 5=>5 | 80=>131 | n=>n,fun | n=>n⟩
theorem Tryz.lays156:Go.Proofs.Lays.n156 Tryz.prog Tryz.lays156_ren:={
 mixed:=by kernel_rfl
 f156:=Tryz.func26.trans (congrArg some (by kernel_rfl))
 f165:=Tryz.func45.trans (congrArg some (by kernel_rfl))
 f166:=Tryz.func46.trans (congrArg some (by kernel_rfl))
 f169:=Tryz.func47.trans (congrArg some (by kernel_rfl))
 f240:=Tryz.func78.trans (congrArg some (by kernel_rfl))
 f241:=Tryz.func79.trans (congrArg some (by kernel_rfl))
 f276:=Tryz.func125.trans (congrArg some (by kernel_rfl))
 f277:=Tryz.func126.trans (congrArg some (by kernel_rfl))
 t0:=Tryz.underlying0
 a0:=Tryz.isAgg0
 z0:=Tryz.sizeOf0
 v0:=Tryz.zeroValue0
 t3:=Tryz.underlying3
 a3:=Tryz.isAgg3
 z3:=Tryz.sizeOf3
 v3:=Tryz.zeroValue3
 t4:=Tryz.underlying4
 a4:=Tryz.isAgg4
 z4:=Tryz.sizeOf4
 v4:=Tryz.zeroValue4
 t9:=Tryz.underlying9
 a9:=Tryz.isAgg9
 z9:=Tryz.sizeOf9
 v9:=Tryz.zeroValue9
 t20:=Tryz.underlying20
 a20:=Tryz.isAgg20
 z20:=Tryz.sizeOf20
 v20:=Tryz.zeroValue20
 t31:=Tryz.underlying55
 a31:=Tryz.isAgg55
 z31:=Tryz.sizeOf55
 v31:=Tryz.zeroValue55
 t37:=Tryz.underlying26
 a37:=Tryz.isAgg26
 z37:=Tryz.sizeOf26
 v37:=Tryz.zeroValue26
 t70:=Tryz.underlying123
 a70:=Tryz.isAgg123
 z70:=Tryz.sizeOf123
 v70:=Tryz.zeroValue123
 t72:=Tryz.underlying125
 a72:=Tryz.isAgg125
 z72:=Tryz.sizeOf125
 v72:=Tryz.zeroValue125
 t75:=Tryz.underlying128
 a75:=Tryz.isAgg128
 z75:=Tryz.sizeOf128
 v75:=Tryz.zeroValue128
 t76:=Tryz.underlying129
 a76:=Tryz.isAgg129
 z76:=Tryz.sizeOf129
 v76:=Tryz.zeroValue129
 t127:=Tryz.underlying178
 a127:=Tryz.isAgg178
 z127:=Tryz.sizeOf178
 v127:=Tryz.zeroValue178
 t164:=Tryz.underlying236
 a164:=Tryz.isAgg236
 z164:=Tryz.sizeOf236
 v164:=Tryz.zeroValue236 }
end Go.Proofs
