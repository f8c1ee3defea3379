import Derived.Test.YtdjjmppnnkkloaaGreatDoorSDecMay
import Derived.Test.YtdjjmppnnkkloaaGreatDoorK1
namespace Go.Proofs.YtdjjmppnnkkloaaGreatDoor
open Sy Go
set_option maxRecDepth 100000
set_option linter.unusedSimpArgs false
set_option linter.unusedVariables false
@[simp] def Val.cells (v : Val) : List V := [.p (.int .i64 v.kind), .p (.int .u64 v.mask), .p (.bool v.num.neg), .p (.str v.num.digits), .p (.int .i64 v.num.scale), .p (.str v.text), .p (.sl 1 (v.keys.map PD.str)), .p (.sl 9 (v.kids.map Val.enc)), .p (.int .i64 v.code)]
def wordT (s : List UInt8) : Bool := decide ((s.length : Int) ≤ 4096) && Lib.validD s
def keysT (l : List (List UInt8)) : Bool := l.all wordT && decide l.Nodup
def numT (v : Val) : Bool := if v.kind = 4 then dcMay v.num else decide (v.num.neg = false ∧ v.num.digits = [] ∧ v.num.scale = 0)
def textT (v : Val) : Bool := if v.kind = 5 then wordT v.text else decide (v.text = [])
def namedT (v : Val) : Bool := if v.kind = 7 then decide ((v.keys.length : Int) = v.kids.length) && keysT v.keys else decide (v.keys = [])
def kidsT (v : Val) : Bool := decide (v.kids = []) || decide (v.kind = 6) || decide (v.kind = 7)
def codeT (v : Val) : Bool := decide (decide (v.kind = 8) = !decide (v.code = 0))
def partsT (v : Val) : Bool := codeT v && numT v && textT v && namedT v && kidsT v
def boundsT (v : Val) : Bool := decide (1 ≤ v.kind ∧ v.kind ≤ 8 ∧ v.kids.length ≤ 200)
mutual
def mayT : Val → Bool
 | .mk k m n t ks vs c => boundsT (.mk k m n t ks vs c) && partsT (.mk k m n t ks vs c) && mayTL vs
def mayTL : List Val → Bool
 | [] => true
 | v :: vs => mayT v && mayTL vs
end
theorem mayTL_all : ∀ l, mayTL l = l.all mayT
 | [] => by simp [mayTL]
 | v :: vs => by simp [mayTL, mayTL_all vs]
theorem mayT_eq (v : Val) : mayT v = (boundsT v && partsT v && v.kids.all mayT) := by
 cases v; simp only [mayT, mayTL_all, Val.kids]
theorem may_kid {v k : Val} (h : mayT v = true) (hk : k ∈ v.kids) : mayT k = true := by
 rw [mayT_eq] at h; simp only [Bool.and_eq_true, List.all_eq_true] at h; exact h.2 k hk
theorem may_obj {v : Val} (h : mayT v = true) (h7 : v.kind = 7) : v.keys.length = v.kids.length ∧ v.keys.length ≤ 200 ∧ v.keys.Nodup := by
 rw [mayT_eq] at h
 simp only [Bool.and_eq_true, boundsT, partsT, namedT, decide_eq_true_eq] at h
 obtain ⟨⟨h1, ⟨⟨_, h2⟩, _⟩⟩, _⟩ := h
 rw [if_pos h7] at h2
 simp [keysT] at h2
 exact ⟨by omega, by omega, h2.2.2⟩
end Go.Proofs.YtdjjmppnnkkloaaGreatDoor
