import Derived.Test.YtlmedakhioiahaaGreatDoorK1
import Derived.Test.YtlmedakhioiahaaGreatDoorSShelf3
import Derived.Shelf.Strconv.Itoa3
import Derived.Lib.ItoaLen
import Derived.Lib.AppendIntMem
import Derived.Lib.LaidU8
namespace Go.Proofs.YtlmedakhioiahaaGreatDoor
open Sy Go
set_option linter.unusedVariables false
variable {G:qR}
def zDI:List PD:=Lib.pow10Tab.map (PD.int .u64)
def qSE (g3 g4 g5:Nat):qR:=fun g=>if g=g5 then some zDI else u8G g3 g4 g
theorem zCJ {g3 g4 g5:Nat} (h:g4≠g3) (h3:g3≠g5) (h4:g4≠g5):qVI g3 g4 (qSE g3 g4 g5):=by
 obtain ⟨a,b⟩:=zGO h
 exact ⟨by simp only [qSE]; rw [if_neg h3]; exact a,by simp only [qSE]; rw [if_neg h4]; exact b⟩
theorem zAF:∀ j:Fin 20,(0:Int)≤Lib.pow10Tab.getD j.val 0∧Lib.pow10Tab.getD j.val 0≤18446744073709551615:=by decide
theorem zGM {g3 g4 g5 : Nat} {W : World} (h : Lib.Utf8Tabs g3 g4 W) (hne : g4 ≠ g3) (hn : Tryz.prog.globalNamed "internal/strconv.uint64pow10" = some g5) (ht : Lib.TabIs Tryz.prog W "internal/strconv.uint64pow10" .u64 Lib.pow10Tab) : GOK (qSE g3 g4 g5) (jM W) W := by
 have hu:=zJK h hne
 refine ⟨fun g cs hg => ?_,fun g cs hg hi => ?_⟩
 ·simp only [qSE] at hg
  split at hg
  ·rename_i e; subst e; cases hg
   have key:∀ (j:Nat) d,zDI[j]?=some d→∃ z:Int,d = .int .u64 z∧0≤z∧z≤18446744073709551615∧jM W g j=some (.int .u64 z):=fun j d hd=>by
    have hj:j<Lib.pow10Tab.length:=by have:=(List.getElem?_eq_some_iff.1 hd).1; simpa [zDI] using this
    have h20:j<20:=by simpa [Lib.pow10Tab] using hj
    have hb:=zAF ⟨j,h20⟩
    refine ⟨Lib.pow10Tab.getD j 0, ?_,hb.1,hb.2,ht.cell hn j hj⟩
    simp only [zDI,List.getElem?_map,List.getElem?_eq_getElem hj,Option.map_some,Option.some.injEq] at hd
    rw [← hd,List.getD_eq_getElem?_getD,List.getElem?_eq_getElem hj]; rfl
   refine ⟨fun j d hd => ?_,fun j d u hd hu => ?_⟩
   ·obtain ⟨z,rfl,_,_,hm⟩:=key j d hd; exact ⟨_,hm,rfl⟩
   obtain ⟨z,rfl,h0,h1,hm⟩:=key j d hd
   have:=hu.symm.trans hm
   cases this
   exact .int (by rw [jD]; exact h0) (by rw [kQ]; exact h1)
  exact hu.1 g cs hg
 simp only [qSE] at hg
 split at hg
 ·rename_i e; subst e; cases hg
  unfold Lib.TabIs World.var? at ht
  rw [hn] at ht
  simp only [Option.bind_some] at ht
  split at ht
  ·rename_i cs t q hb
   refine ⟨cs,t,q,hb, ?_⟩
   rw [Option.some.inj ht]; simp [zDI]
  cases ht
 exact hu.2 g cs hg hi
theorem qPU {P : Program} {W : World} {name : String} {k : IntKind} {zs : List Int} {g : Nat} {t e : TypeId} {n : Nat} (hg : P.globalNamed name = some g) (hty : (P.globals[g]?).map (·.type) = some t) (ht : P.underlying t = some (.array n e)) (he : P.underlying e = some (.int k))
  (hce:P.cellsOf e=1) (hct:P.cellsOf t=n) (h:Lib.VarReads P W name (Lib.tabData k zs)):Lib.TabIs P W name k zs:=by
 obtain ⟨g',t',cs,fuel,p,hg',ht',hvar,hd⟩:=h
 obtain rfl:=Option.some.inj (hg.symm.trans hg')
 obtain rfl:=Option.some.inj (hty.symm.trans ht')
 unfold Lib.TabIs
 rw [hvar,← Lib.cells_of_tab ht he hce hct hd]
end Go.Proofs.YtlmedakhioiahaaGreatDoor
