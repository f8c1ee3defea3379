import Derived.Test.YtdojfdaglbphlaaGreatDoorSTwoLaw
import Derived.Test.YtdojfdaglbphlaaGreatDoorSShown14
import Derived.Test.YtdojfdaglbphlaaGreatDoorK2
import Derived.Test.YtdojfdaglbphlaaGreatDoorK4
import Derived.Test.YtdojfdaglbphlaaGreatDoorSRefMay
namespace Go.Proofs.YtdojfdaglbphlaaGreatDoor
open Sy Go
set_option maxRecDepth 100000
set_option maxHeartbeats 4000000
set_option linter.unusedSimpArgs false
set_option linter.unusedVariables false
variable {G:qR}
def qYY:List (List UInt8):=[[43],[45],[42],[47],[37],[61,61],[33,61],[60],[60,61],[62],[62,61],[97,110,100],[111,114]]
def opN (n:Nat):List UInt8:=qYY.getD (n % 13) []
theorem zEV (n:Nat):qYY[n % 13]?=some (opN n):=by
 unfold opN
 have:n % 13<qYY.length:=Nat.mod_lt _ (by decide)
 rw [List.getD_eq_getElem?_getD,List.getElem?_eq_getElem this]; rfl
theorem zYL (n:Nat) (hn:n<256):AFn Tryz.prog G 13 [.int .u8 n] (.str (opN n)):=by
 refine AFn.introU tok Tryz.func13 (by kernel_rfl) rfl rfl ?_
 simp only [Tryz.f13,qI,List.map_cons,List.map_nil]
 have hg:=zEV n
 have w1:IntKind.i64.wrap (n:Int)=n:=by simp [IntKind.wrap,IntKind.bits,IntKind.signed]; omega
 have w2:(n:Int).tmod 13=((n % 13:Nat):Int):=(Int.ofNat_tmod n 13).symm
 have h13:n % 13<13:=Nat.mod_lt _ (by decide)
 have hg':(qYY.map PD.str)[n % 13]?=some (.str (opN n)):=by rw [List.getElem?_map,hg]; rfl
 generalize n % 13=k at *
 simp only [qYY,List.map_cons,List.map_nil] at hg'
 refine rgn [] [[0]] ?_
 refine op1 tok ?_
 refine qA (rgn [.str [43],.str [45],.str [42],.str [47],.str [37],.str [61,61],.str [33,61],.str [60],.str [60,61],.str [62],.str [62,61],.str [97,110,100],.str [111,114],.str (opN n)] [[],[],[],[],[7],[],[2]] ?_)
 iterate 7 refine op1 tok ?_ (h:=by intro C; conv=>lhs; simp [w1,w2]) (hv:=by first | with_reducible exact True.intro | (first | exact hg' | (simp; done) | (simp; omega) | (simp [w1,w2]; done) | (simp [w1,w2]; omega); done) | omega | simp | (simp +contextual; omega))
 exact qA (AW.ret qG)
end Go.Proofs.YtdojfdaglbphlaaGreatDoor
