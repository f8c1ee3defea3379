import Derived.Test.YtlmedakhioiahaaGreatDoorSItoaN
import Derived.Test.YtlmedakhioiahaaGreatDoorSAtoiN
import Derived.LaidLaws
namespace Go.Proofs.YtlmedakhioiahaaGreatDoor
open Sy Go
set_option linter.unusedVariables false
def qOX (g3 g4 g5 g6 g7:Nat):qO:=fun g=>if g=g6∨g=g7 then some [.err] else qRK g3 g4 g5 g
theorem zBD (g3 g4 g5 g6 g7:Nat):qWL g6 g7 (qOX g3 g4 g5 g6 g7):=by simp [qWL,qOX]
theorem zBC {g3 g4 g5 g6 g7:Nat} (h:g4≠g3) (h3:g3≠g5) (h4:g4≠g5) (h5:g3≠g6∧g3≠g7∧g4≠g6∧g4≠g7):qUD g3 g4 (qOX g3 g4 g5 g6 g7):=by
 obtain ⟨a,b⟩:=zBB h h3 h4
 exact ⟨by simp only [qOX]; rw [if_neg (by omega)]; exact a,by simp only [qOX]; rw [if_neg (by omega)]; exact b⟩
theorem qFY {P:Program} {W:World} {name nm:String} {g:Nat} {t:TypeId} {d:DataW Unit} (hg:P.globalNamed name=some g) (hty:(P.globals[g]?).map (·.type)=some t) (hi0:((P.underlying t).any fun d=>match d with | .interface _=>true | _=>false)=true) (h:Lib.VarReads P W name (.iface nm d)):∃ u v,jE W g 0=some (.iface u v):=by
 obtain ⟨ms,hi⟩:∃ ms,P.underlying t=some (.interface ms):=by
  cases hu:P.underlying t with
  | none=>rw [hu] at hi0; cases hi0
  | some d =>
   rw [hu] at hi0
   cases d <;> first | exact ⟨_,rfl⟩ | cases hi0
 obtain ⟨g',t',cs,fuel,p,hg',ht',hvar,hd⟩:=h
 obtain rfl:=Option.some.inj (hg.symm.trans hg')
 obtain rfl:=Option.some.inj (hty.symm.trans ht')
 obtain ⟨f1,u,v,hcs,_,_⟩:=iface_of_trod hi hd
 refine ⟨u,v, ?_⟩
 have h0:=World.var?_cell hg hvar 0
 obtain ⟨l⟩:=cs
 simp only at hcs
 subst hcs
 show W.cell? ⟨g,0,none⟩=_
 simpa using h0
theorem zEY {g3 g4 g5 g6 g7:Nat} {W:World} (h:GOK (qRK g3 g4 g5) (jE W) W) (e6:∃ u v,jE W g6 0=some (.iface u v)) (e7:∃ u v,jE W g7 0=some (.iface u v)):GOK (qOX g3 g4 g5 g6 g7) (jE W) W:=by
 have key:∀ g,g=g6∨g=g7→∃ u v,jE W g 0=some (.iface u v):=by
  rintro g (rfl | rfl)
  ·exact e6
  exact e7
 refine ⟨fun g cs hg => ?_,fun g cs hg hi => ?_⟩
 ·simp only [qOX] at hg
  split at hg
  ·rename_i e
   cases hg
   obtain ⟨u,v,hm⟩:=key g e
   refine ⟨fun j d hd => ?_,fun j d w hd hw => ?_⟩
   ·match j with
    | 0=>exact ⟨_,hm,rfl⟩
    | j+1=>simp at hd
   match j with
   | 0 =>
    cases hd
    have:=hw.symm.trans hm
    cases this
    exact .err
   | j+1=>simp at hd
  exact h.1 g cs hg
 simp only [qOX] at hg
 split at hg
 ·cases hg; cases hi
 exact h.2 g cs hg hi
end Go.Proofs.YtlmedakhioiahaaGreatDoor
