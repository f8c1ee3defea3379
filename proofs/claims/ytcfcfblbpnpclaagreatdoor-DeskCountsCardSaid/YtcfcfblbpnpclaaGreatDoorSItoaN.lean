import Derived.Test.YtcfcfblbpnpclaaGreatDoorSLibG
import Derived.Test.YtcfcfblbpnpclaaGreatDoorSShelf3
import Derived.Shelf.Strconv.Itoa3
import Derived.Lib.ItoaLen
import Derived.Lib.AppendIntMem
import Derived.Lib.LaidU8
namespace Go.Proofs.YtcfcfblbpnpclaaGreatDoor
open Sy Go
set_option linter.unusedVariables false
variable {G:qK}
def uK:List PD:=Lib.pow10Tab.map (PD.int .u64)
def qBM (g:Nat) (G:qK):Prop:=G g=some uK
theorem qKD {g : Nat} {M : qQ} {w : World} (hG : qBM g G) (hn : Tryz.prog.globalNamed "internal/strconv.uint64pow10" = some g) (hg : GOK G M w) (hmem : ∀ b o v, M b o = some v → w.cell? ⟨b, o, none⟩ = some v) : Lib.TabIs Tryz.prog w "internal/strconv.uint64pow10" .u64 Lib.pow10Tab := by
 obtain ⟨arr,t,q,h1,h2⟩:=hg.2 g uK hG rfl
 obtain ⟨h3,h4⟩:=hg.1 g uK hG
 unfold Lib.TabIs World.var?
 rw [hn]
 simp only [Option.bind_some,h1]
 congr 1
 have hl:uK.length=Lib.pow10Tab.length:=by simp [uK]
 refine Array.ext (by simp [h2,hl]) fun j hj1 hj2 => ?_
 have hj:j<Lib.pow10Tab.length:=by simpa using hj2
 have hd:uK[j]?=some (.int .u64 (Lib.pow10Tab[j])):=by simp [uK,hj]
 obtain ⟨u,hu,_⟩:=h3 j _ hd
 have hr:=h4 j _ u hd hu
 cases hr
 have hc:=hmem _ _ _ hu
 have hw:w.cell? ⟨g,j,none⟩=some arr[j]:=by
  unfold World.cell?
  simp [h1,hj1]
 have e:=Option.some.inj (hw.symm.trans hc)
 rw [e]; simp
theorem qIV {M:qQ} {vs:Array Value} {n:Int} (hsz:vs.size=1) (h:∀ (i:Nat) u d,vs[i]?=some u→[PD.int .i64 n][i]?=some d→Rd M u d):vs = #[.int .i64 n] ∧ -9223372036854775808≤n∧n≤9223372036854775807:=by
 obtain ⟨l⟩:=vs
 match l,hsz with
 | [u],_ =>
  have h1:=h 0 u (.int .i64 n) rfl rfl
  cases h1 with
  | int h3 h4=>exact ⟨rfl,by rw [wQ] at h3; simpa [wE] using h3,by rw [wR] at h4; simpa [wF] using h4⟩
theorem qJE {g : Nat} (hG : qBM g G) (hn : Tryz.prog.globalNamed "internal/strconv.uint64pow10" = some g) (n : Int) : AFn Tryz.prog G 25 [.int .i64 n] (.str (Lib.itoa n)) := by
 refine AFn.of_calls (uI Tryz.func25 (by kernel_rfl) rfl) fun M w vs hg hmem hsz hrd => ?_
 obtain ⟨rfl,h0,h1⟩:=qIV hsz hrd
 refine (Any.strconv_Itoa Tryz.laysM171 n h0 h1 w (qKD hG hn hg hmem)).mono ?_
 rintro e w' ⟨rfl,k,os,rfl⟩
 have hl:=Lib.itoa_length_le n h0 h1
 exact ⟨_,rfl,.str (by simp) (by simp; omega),Lib.below_grow _ w (Nat.le_refl _) k os⟩
def qGN (g3 g4 g5:Nat):qK:=fun g=>if g=g5 then some uK else u8G g3 g4 g
theorem qHN (g3 g4 g5:Nat):qBM g5 (qGN g3 g4 g5):=by simp [qBM,qGN]
theorem qGV:∀ j:Fin 20,(0:Int)≤Lib.pow10Tab.getD j.val 0∧Lib.pow10Tab.getD j.val 0≤18446744073709551615:=by decide
theorem qJX {g3 g4 g5 : Nat} {W : World} (h : Lib.Utf8Tabs g3 g4 W) (hne : g4 ≠ g3) (hn : Tryz.prog.globalNamed "internal/strconv.uint64pow10" = some g5) (ht : Lib.TabIs Tryz.prog W "internal/strconv.uint64pow10" .u64 Lib.pow10Tab) : GOK (qGN g3 g4 g5) (yU W) W := by
 have hu:=qLL h hne
 refine ⟨fun g cs hg => ?_,fun g cs hg hi => ?_⟩
 ·simp only [qGN] at hg
  split at hg
  ·rename_i e; subst e; cases hg
   have key:∀ (j:Nat) d,uK[j]?=some d→∃ z:Int,d = .int .u64 z∧0≤z∧z≤18446744073709551615∧yU W g j=some (.int .u64 z):=fun j d hd=>by
    have hj:j<Lib.pow10Tab.length:=by have:=(List.getElem?_eq_some_iff.1 hd).1; simpa [uK] using this
    have h20:j<20:=by simpa [Lib.pow10Tab] using hj
    have hb:=qGV ⟨j,h20⟩
    refine ⟨Lib.pow10Tab.getD j 0, ?_,hb.1,hb.2,ht.cell hn j hj⟩
    simp only [uK,List.getElem?_map,List.getElem?_eq_getElem hj,Option.map_some,Option.some.injEq] at hd
    rw [← hd,List.getD_eq_getElem?_getD,List.getElem?_eq_getElem hj]; rfl
   refine ⟨fun j d hd => ?_,fun j d u hd hu => ?_⟩
   ·obtain ⟨z,rfl,_,_,hm⟩:=key j d hd; exact ⟨_,hm,rfl⟩
   obtain ⟨z,rfl,h0,h1,hm⟩:=key j d hd
   have:=hu.symm.trans hm
   cases this
   exact .int (by rw [wQ]; exact h0) (by rw [wR]; exact h1)
  exact hu.1 g cs hg
 simp only [qGN] at hg
 split at hg
 ·rename_i e; subst e; cases hg
  unfold Lib.TabIs World.var? at ht
  rw [hn] at ht
  simp only [Option.bind_some] at ht
  split at ht
  ·rename_i cs t q hb
   refine ⟨cs,t,q,hb, ?_⟩
   rw [Option.some.inj ht]; simp [uK]
  cases ht
 exact hu.2 g cs hg hi
theorem qCT {P : Program} {W : World} {name : String} {k : IntKind} {zs : List Int} {g : Nat} {t e : TypeId} {n : Nat} (hg : P.globalNamed name = some g) (hty : (P.globals[g]?).map (·.type) = some t) (ht : P.underlying t = some (.array n e)) (he : P.underlying e = some (.int k))
  (hce:P.cellsOf e=1) (hct:P.cellsOf t=n) (h:Lib.VarReads P W name (Lib.tabData k zs)):Lib.TabIs P W name k zs:=by
 obtain ⟨g',t',cs,fuel,p,hg',ht',hvar,hd⟩:=h
 obtain rfl:=Option.some.inj (hg.symm.trans hg')
 obtain rfl:=Option.some.inj (hty.symm.trans ht')
 unfold Lib.TabIs
 rw [hvar,← Lib.cells_of_tab ht he hce hct hd]
end Go.Proofs.YtcfcfblbpnpclaaGreatDoor
