import Derived.Test.YtcfcfblbpnpclaaGreatDoorM4
import Derived.Lib.ValidU
import Derived.Lib.LaidU8T
namespace Go.Proofs.YtcfcfblbpnpclaaGreatDoor
open Sy Go
namespace Sy
variable {P:Program} {G:qK}
theorem AFn.of_calls {f : FuncId} {args : List PD} {r : PD} (hc : yZ P f) (h : ∀ (M : qQ) (w : World) (vs : Array Value), GOK G M w → (∀ b o v, M b o = some v → w.cell? ⟨b, o, none⟩ = some v) → vs.size = args.length →
  (∀ (i:Nat) u d,vs[i]?=some u→args[i]?=some d→Rd M u d)→Calls P f vs w fun e w'=>∃ v,e = .returned v∧Rd M v r∧RowKit.Below w.heap.size w w'):AFn P G f args r:=by
 refine ⟨hc,fun M w vs hg hmem hsz hrd=>(h M w vs hg hmem hsz hrd).mono ?_⟩
 rintro e w' ⟨v,rfl,hv,hb⟩
 refine ⟨v,M,rfl,hv,fun b o u hu => ?_,fun _ _ _ h=>h,fun _ _ _=>rfl,hb⟩
 have h1:=hmem b o u hu
 exact (World.cell?_of_block (w:=w) (hb.block b (yV h1))).trans h1
theorem uI {f : FuncId} {fn : Func} {c : Code} (hf : P.funcs[f]? = some fn) (hn : (fn.name == "runtime.NumGoroutine") = false) (hb : fn.body = some c) : yZ P f := ⟨fn, c, hf, hn, hb⟩
def qDD:List PD:=(List.range 256).map fun c => .int .u8 (Lib.firstT c)
def qKU:List PD:=(List.range 32).map fun i => .int .u8 (if i % 2=0 then Lib.accLo (i / 2) else Lib.accHi (i / 2))
def u8G (g3 g4:Nat):qK:=fun g=>if g=g3 then some qDD else if g=g4 then some qKU else none
theorem qLL {g3 g4:Nat} {W:World} (h:Lib.Utf8Tabs g3 g4 W) (hne:g4≠g3):GOK (u8G g3 g4) (yU W) W:=by
 have one : ∀ (g j : Nat) (cs : List PD), (∀ (j : Nat) d, cs[j]? = some d → ∃ n : Int, d = .int .u8 n ∧ 0 ≤ n ∧ n ≤ 255 ∧ W.cell? ⟨g, j, none⟩ = some (.int .u8 n)) →
   (∀ (j:Nat) d,cs[j]?=some d→∃ u,yU W g j=some u∧u.oneCell'=true)∧(∀ (j:Nat) d u,cs[j]?=some d→yU W g j=some u→Rd (yU W) u d):=by
  intro g _ cs hc
  refine ⟨fun j d hd => ?_,fun j d u hd hu => ?_⟩
  ·obtain ⟨n,rfl,_,_,h⟩:=hc j d hd; exact ⟨_,h,rfl⟩
  obtain ⟨n,rfl,h0,h1,h⟩:=hc j d hd
  have:some u=some (Value.int .u8 n):=hu.symm.trans h
  cases this
  exact .int (by rw [wQ]; exact h0) (by rw [wR]; exact h1)
 have hft:∀ c,(0:Int)≤Lib.firstT c∧(Lib.firstT c:Int)≤255:=fun c=>by
  rcases Lib.firstT_cases c with h | h | h | h | h | h | h | h | h <;> rw [h] <;> omega
 have hno:GX (u8G g3 g4) W:=fun g cs hg ht=>by
  simp only [u8G] at hg
  split at hg
  ·cases hg; exact absurd ht (by rw [show qGD qDD=false from rfl]; simp)
  split at hg
  ·cases hg; exact absurd ht (by rw [show qGD qKU=false from rfl]; simp)
  cases hg
 refine ⟨?_,hno⟩
 intro g cs hg
 simp only [u8G] at hg
 split at hg
 ·rename_i e
  subst e
  cases hg
  refine one g 0 _ fun j d hd => ?_
  have hj:j<256:=by have:=(List.getElem?_eq_some_iff.1 hd).1; simpa [qDD] using this
  simp [qDD,hj] at hd
  exact ⟨_,hd.symm,(hft j).1,(hft j).2,h.1 j hj⟩
 split at hg
 ·rename_i _ e
  subst e
  cases hg
  refine one g 0 _ fun j d hd => ?_
  have hj:j<32:=by have:=(List.getElem?_eq_some_iff.1 hd).1; simpa [qKU] using this
  simp only [qKU,List.getElem?_map,List.getElem?_range hj,Option.map_some,Option.some.injEq] at hd
  have hb:=h.2 (j / 2) (by omega)
  have hacc:∀ i,i<16→(0:Int)≤Lib.accLo i∧(Lib.accLo i:Int)≤255∧(0:Int)≤Lib.accHi i∧(Lib.accHi i:Int)≤255:=by decide
  have hac:=hacc (j / 2) (by omega)
  by_cases h2:j % 2=0
  ·rw [if_pos h2] at hd
   exact ⟨_,hd.symm,hac.1,hac.2.1,by have:=hb.1; rwa [show 2 * (j / 2)=j by omega] at this⟩
  rw [if_neg h2] at hd
  exact ⟨_,hd.symm,hac.2.2.1,hac.2.2.2,by have:=hb.2; rwa [show 2 * (j / 2)+1=j by omega] at this⟩
 cases hg
end Sy
variable {G:qK}
end Go.Proofs.YtcfcfblbpnpclaaGreatDoor
