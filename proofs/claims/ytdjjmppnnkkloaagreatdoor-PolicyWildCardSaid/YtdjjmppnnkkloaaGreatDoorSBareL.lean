import Derived.Test.YtdjjmppnnkkloaaGreatDoorSTreeMapL
import Derived.Test.YtdjjmppnnkkloaaGreatDoorSTreeL2
namespace Go.Proofs.YtdjjmppnnkkloaaGreatDoor
open Sy Go
set_option linter.unusedSimpArgs false
set_option linter.unusedVariables false
theorem bareV_eq (v : Val) : bareV v = .mk v.kind 0 v.num v.text v.keys (v.kids.map bareV) v.code := by
 unfold bareV; rw [mapV_eq]; rfl
theorem bare_sz (v : Val) : Val.sz (bareV v) = Val.sz v := by
 have hsz : ∀ l : List Val, Val.szL l = (l.map Val.sz).sum := by
  intro l; induction l with
  | nil => simp [Val.szL]
  | cons x l ih => simp [Val.szL, ih]
 refine Val.induct (p := fun v => Val.sz (bareV v) = Val.sz v) (fun v ih => ?_) v
 rw [bareV_eq]
 cases v with
 | mk k m n t ks vs c =>
  simp only [Val.sz, hsz, Val.kids_mk, List.map_map] at ih ⊢
  congr 2
  exact List.map_congr_left fun x hx => ih x hx
theorem bare_may (v : Val) : mayT (bareV v) = mayT v := by
 refine Val.induct (p := fun v => mayT (bareV v) = mayT v) (fun v ih => ?_) v
 have e : mayT (bareV v) = (boundsT v && partsT v && (v.kids.map bareV).all mayT) := by
  have h0 : boundsT (bareV v) = boundsT v := by rw [bareV_eq]; simp [boundsT]
  have h1 : codeT (bareV v) = codeT v := by rw [bareV_eq]; rfl
  have h2 : numT (bareV v) = numT v := by rw [bareV_eq]; rfl
  have h3 : textT (bareV v) = textT v := by rw [bareV_eq]; rfl
  have h4 : namedT (bareV v) = namedT v := by
   rw [bareV_eq]
   show (if v.kind = 7 then decide ((v.keys.length : Int) = ((v.kids.map bareV).length : Int)) && keysT v.keys else decide (v.keys = [])) = namedT v
   rw [List.length_map]; rfl
  have h5 : kidsT (bareV v) = kidsT v := by
   rw [bareV_eq]
   show (decide (v.kids.map bareV = []) || decide (v.kind = 6) || decide (v.kind = 7)) = kidsT v
   rw [kidsT, show decide (v.kids.map bareV = []) = decide (v.kids = []) by simp]
  have h6 : (bareV v).kids = v.kids.map bareV := by rw [bareV_eq]; rfl
  rw [mayT_eq, h0, h6, partsT, h1, h2, h3, h4, h5]; rfl
 rw [e, mayT_eq]
 congr 1
 rw [List.all_map]
 rw [Bool.eq_iff_iff, List.all_eq_true, List.all_eq_true]
 exact ⟨fun h k hk => by rw [← ih k hk]; exact h k hk, fun h k hk => by simp only [Function.comp]; rw [ih k hk]; exact h k hk⟩
end Go.Proofs.YtdjjmppnnkkloaaGreatDoor
