import Derived.Test.YtdjjmppnnkkloaaGreatDoorSMayL
namespace Go.Proofs.YtdjjmppnnkkloaaGreatDoor
open Sy Go
set_option linter.unusedSimpArgs false
set_option linter.unusedVariables false
mutual
def mapV (ch : Val → Val) : Val → Val
 | .mk k m n t ks vs c => ch (.mk k m n t ks (mapVL ch vs) c)
def mapVL (ch : Val → Val) : List Val → List Val
 | [] => []
 | v :: vs => mapV ch v :: mapVL ch vs
end
theorem mapVL_map (ch : Val → Val) : ∀ l, mapVL ch l = l.map (mapV ch)
 | [] => by simp [mapVL]
 | v :: vs => by simp [mapVL, mapVL_map ch vs]
theorem mapV_eq (ch : Val → Val) (v : Val) : mapV ch v = ch (.mk v.kind v.mask v.num v.text v.keys (v.kids.map (mapV ch)) v.code) := by
 cases v; simp only [mapV, mapVL_map, Val.kind_mk, Val.mask_mk, Val.num_mk, Val.text_mk, Val.keys_mk, Val.kids_mk, Val.code_mk]
theorem may_small {v : Val} (h : mayT v = true) : v.keys.length ≤ 200 ∧ v.kids.length ≤ 200 := by
 by_cases h7 : v.kind = 7
 ·have := may_obj h h7; omega
 ·rw [mayT_eq] at h
  simp only [Bool.and_eq_true, boundsT, partsT, namedT, decide_eq_true_eq] at h
  obtain ⟨⟨h1, ⟨⟨_, h2⟩, _⟩⟩, _⟩ := h
  rw [if_neg h7] at h2
  simp at h2
  rw [h2]; simp; omega
def bare1 (u : Val) : Val := .mk u.kind 0 u.num u.text u.keys u.kids u.code
def bareV (v : Val) : Val := mapV bare1 v
end Go.Proofs.YtdjjmppnnkkloaaGreatDoor
