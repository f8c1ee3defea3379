import Derived.Test.YtlmedakhioiahaaGreatDoorSItoaN
import Derived.Test.YtlmedakhioiahaaGreatDoorK3
import Derived.LaidLaws
namespace Go.Proofs.YtlmedakhioiahaaGreatDoor
open Sy Go
set_option linter.unusedVariables false
def qPP (g3 g4 g5 g6 g7:Nat):qR:=fun g=>if g=g6∨g=g7 then some [.err] else qSE g3 g4 g5 g
theorem zCL (g3 g4 g5 g6 g7:Nat):qXQ g6 g7 (qPP g3 g4 g5 g6 g7):=by simp [qXQ,qPP]
theorem zCK {g3 g4 g5 g6 g7:Nat} (h:g4≠g3) (h3:g3≠g5) (h4:g4≠g5) (h5:g3≠g6∧g3≠g7∧g4≠g6∧g4≠g7):qVI g3 g4 (qPP g3 g4 g5 g6 g7):=by
 obtain ⟨a,b⟩:=zCJ h h3 h4
 exact ⟨by simp only [qPP]; rw [if_neg (by omega)]; exact a,by simp only [qPP]; rw [if_neg (by omega)]; exact b⟩
theorem qGK {P:Program} {W:World} {name nm:String} {g:Nat} {t:TypeId} {d:DataW Unit} (hg:P.globalNamed name=some g) (hty:(P.globals[g]?).map (·.type)=some t) (hi0:((P.underlying t).any fun d=>match d with | .interface _=>true | _=>false)=true) (h:Lib.VarReads P W name (.iface nm d)):∃ u v,jM W g 0=some (.iface u v):=by
 obtain ⟨ms,hi⟩:∃ ms,P.underlying t=some (.interface ms):=by
  cases hu:P.underlying t with
  | none=>rw [hu] at hi0; cases hi0
  | some d =>
   rw [hu] at hi0
   cases d <;> first | exact ⟨_,rfl⟩ | cases hi0
 obtain ⟨g',t',cs,fuel,p,hg',ht',hvar,hd⟩:=h
 obtain rfl:=Option.some.inj (hg.symm.trans hg')
 obtain rfl:=Option.some.inj (hty.symm.trans ht')
 obtain ⟨f1,u,v,hcs,_,_⟩:=iface_of_trod hi hd
 refine ⟨u,v, ?_⟩
 have h0:=World.var?_cell hg hvar 0
 obtain ⟨l⟩:=cs
 simp only at hcs
 subst hcs
 show W.cell? ⟨g,0,none⟩=_
 simpa using h0
theorem zGN {g3 g4 g5 g6 g7:Nat} {W:World} (h:GOK (qSE g3 g4 g5) (jM W) W) (e6:∃ u v,jM W g6 0=some (.iface u v)) (e7:∃ u v,jM W g7 0=some (.iface u v)):GOK (qPP g3 g4 g5 g6 g7) (jM W) W:=by
 have key:∀ g,g=g6∨g=g7→∃ u v,jM W g 0=some (.iface u v):=by
  rintro g (rfl | rfl)
  ·exact e6
  exact e7
 refine ⟨fun g cs hg => ?_,fun g cs hg hi => ?_⟩
 ·simp only [qPP] at hg
  split at hg
  ·rename_i e
   cases hg
   obtain ⟨u,v,hm⟩:=key g e
   refine ⟨fun j d hd => ?_,fun j d w hd hw => ?_⟩
   ·match j with
    | 0=>exact ⟨_,hm,rfl⟩
    | j+1=>simp at hd
   match j with
   | 0 =>
    cases hd
    have:=hw.symm.trans hm
    cases this
    exact .err
   | j+1=>simp at hd
  exact h.1 g cs hg
 simp only [qPP] at hg
 split at hg
 ·cases hg; cases hi
 exact h.2 g cs hg hi
end Go.Proofs.YtlmedakhioiahaaGreatDoor
