import Derived.Test.YtlmedakhioiahaaGreatDoorK1
import Derived.Test.YtlmedakhioiahaaGreatDoorSShelf4
import Derived.Shelf.Strconv.AtoiAll
namespace Go.Proofs.YtlmedakhioiahaaGreatDoor
open Sy Go
set_option linter.unusedVariables false
variable {G:qO}
def qWL (g1 g2:Nat) (G:qO):Prop:=G g1=some [.err]∧G g2=some [.err]
abbrev PE (G:qO):Prop:=qWL 2 3 G
def uR (s:List UInt8):Int × PD:=match Lib.atoiAll s with
 | .ok v=>(v,.noerr)
 | .range=>(Lib.atoiSat s,.err)
 | _=>(0,.err)
theorem qTO {g:Nat} {M:qX} {w:World} (hG:G g=some [.err]) (hg:GOK G M w) (hmem:∀ b o v,M b o=some v→w.cell? ⟨b,o,none⟩=some v):∃ t p,w.cell? ⟨g,0,none⟩=some (.iface t p):=by
 obtain ⟨h1,h2⟩:=hg.1 g _ hG
 obtain ⟨u,hu,_⟩:=h1 0 .err rfl
 have:=h2 0 .err u rfl hu
 cases this
 exact ⟨_,_,hmem _ _ _ hu⟩
theorem qYE (hE:PE G) (s:List UInt8) (hs:s.length≤281474976710656):AFn Tryz.prog G 56 [.str s] (.tup [.int .i64 (uR s).1,(uR s).2]):=by
 refine AFn.of_calls (kP Tryz.func56 (by kernel_rfl) rfl) fun M w vs hg hmem hsz hrd => ?_
 obtain ⟨b,rfl,hb,hm⟩:=qQQ hsz hrd
 have hbs:b.size=s.length:=kM hb
 obtain ⟨t1,p1,hc1⟩:=qTO hE.1 hg hmem
 obtain ⟨t2,p2,hc2⟩:=qTO hE.2 hg hmem
 have two:∀ (u:Value) (v:Int) (d:PD),Rd M (.int .i64 v) (.int .i64 v)→Rd M u d→Rd M (.tuple #[.int .i64 v,u]) (.tup [.int .i64 v,d]):=by
  intro u v d h1 h2
  refine .tup rfl fun i x y hx hy => ?_
  match i with
  | 0=>simp at hx hy; subst hx; subst hy; exact h1
  | 1=>simp at hx hy; subst hx; subst hy; exact h2
  | i+2=>simp at hx
 have hsat:=Lib.atoiSat_bounds s
 rcases h:Lib.atoiAll s with v | _ | _
 ·have hv:=Lib.atoiAll_bounds h
  have ht:uR s=(v,.noerr):=by unfold uR; rw [h]
  rw [ht]
  refine (Any.strconv_Atoi_ok Tryz.laysC172 b (by omega) v (by rw [hb]; exact h) w).mono ?_
  rintro e w' ⟨rfl,hW⟩
  refine ⟨_,rfl,two _ _ _ (Rd.intOf (by simp only [yY]; omega) (by simp only [yZ]; omega)) .noerr, ?_⟩
  rcases hW with rfl | ⟨t,rfl⟩
  ·exact RowKit.Below.refl _ _
  exact Lib.bytesWorld_below _ _ _
 ·have ht:uR s=(0,.err):=by unfold uR; rw [h]
  rw [ht]
  refine (Any.strconv_Atoi_syntax Tryz.laysC172 b (by omega) (by rw [hb]; exact h) _ w hc1 (.inr ⟨_,_,rfl⟩)).mono ?_
  rintro e w' ⟨N,rfl,_,_,hB⟩
  exact ⟨_,rfl,two _ _ _ (Rd.intOf (by simp [yY]) (by simp [yZ])) .err,hB⟩
 have ht:uR s=(Lib.atoiSat s,.err):=by unfold uR; rw [h]
 rw [ht]
 refine (Any.strconv_Atoi_range Tryz.laysC172 b (by omega) (by rw [hb]; exact h) _ w hc2 (.inr ⟨_,_,rfl⟩)).mono ?_
 rintro e w' ⟨N,rfl,_,_,hB⟩
 rw [hb]
 exact ⟨_,rfl,two _ _ _ (Rd.intOf (by simp only [yY]; omega) (by simp only [yZ]; omega)) .err,hB⟩
end Go.Proofs.YtlmedakhioiahaaGreatDoor
