import Derived.Test.YtdjjmppnnkkloaaGreatDoorK2
import Derived.Test.YtdjjmppnnkkloaaGreatDoorSPath4
import Derived.Test.YtdjjmppnnkkloaaGreatDoorSClones
namespace Go.Proofs.YtdjjmppnnkkloaaGreatDoor
open Sy Go
set_option linter.unusedSimpArgs false
set_option linter.unusedVariables false
def maskF (pl : List Step) : List Mk → Int → Int
 | [], m => m
 | x :: ms, m => maskF pl ms (if matchM x.path pl = true then orM m x.mask else m)
def maskAtM (ms : List Mk) (pl : List Step) : Int := maskF pl ms 0
def stepOf (k : Int) (ks : List (List UInt8)) (i : Nat) : Step := if k = 7 then ⟨1, ks.getD i [], 0⟩ else ⟨2, [], i⟩
mutual
def labT (ms : List Mk) : Val → List Step → Val
 | .mk k m n t ks vs c, pl => .mk k (maskAtM ms pl) n t ks (labTs ms k ks vs 0 pl) c
def labTs (ms : List Mk) (k : Int) (ks : List (List UInt8)) : List Val → Nat → List Step → List Val
 | [], _, _ => []
 | v :: vs, i, pl => labT ms v (pl ++ [stepOf k ks i]) :: labTs ms k ks vs (i + 1) pl
end
theorem labTs_get (ms : List Mk) (k : Int) (ks : List (List UInt8)) (pl : List Step) : ∀ (vs : List Val) (i j : Nat), (labTs ms k ks vs i pl)[j]? = (vs[j]?).map fun x => labT ms x (pl ++ [stepOf k ks (i + j)])
 | [], i, j => by simp [labTs]
 | v :: vs, i, 0 => by simp [labTs]
 | v :: vs, i, j + 1 => by
  simp only [labTs, List.getElem?_cons_succ, labTs_get ms k ks pl vs (i + 1) j]
  rw [show i + 1 + j = i + (j + 1) by omega]
theorem labTs_len (ms : List Mk) (k : Int) (ks : List (List UInt8)) (pl : List Step) : ∀ (vs : List Val) (i : Nat), (labTs ms k ks vs i pl).length = vs.length
 | [], i => by simp [labTs]
 | v :: vs, i => by simp [labTs, labTs_len ms k ks pl vs (i + 1)]
def labK (ms : List Mk) (v : Val) (pl : List Step) : List Val := labTs ms v.kind v.keys v.kids 0 pl
theorem labT_eq (ms : List Mk) (v : Val) (pl : List Step) : labT ms v pl = .mk v.kind (maskAtM ms pl) v.num v.text v.keys (labK ms v pl) v.code := by
 cases v; simp only [labT, labK, Val.kind, Val.num, Val.text, Val.keys, Val.kids, Val.code]
def labRow (ms : List Mk) (v : Val) (pl : List Step) (k : Nat) : List PD := ((labK ms v pl).take k ++ v.kids.drop k).map Val.enc
theorem labRow_len (ms : List Mk) (v : Val) (pl : List Step) (k : Nat) : (labRow ms v pl k).length = v.kids.length := by
 simp [labRow, labK, labTs_len]; omega
theorem labRow_get {ms : List Mk} {v x : Val} {pl : List Step} {k : Nat} (h : v.kids[k]? = some x) : (labRow ms v pl k)[k]? = some x.enc := by
 have hk := (List.getElem?_eq_some_iff.1 h).1
 unfold labRow
 rw [List.getElem?_map, List.getElem?_append_right (by simp [labK, labTs_len]; omega)]
 simp only [List.length_take, labK, labTs_len, Nat.min_eq_left (Nat.le_of_lt hk), Nat.sub_self, List.getElem?_drop, Nat.add_zero, h, Option.map_some]
theorem labRow_set {ms : List Mk} {v x : Val} {pl : List Step} {k : Nat} (h : v.kids[k]? = some x) : (labRow ms v pl k).set k (labT ms x (pl ++ [stepOf v.kind v.keys k])).enc = labRow ms v pl (k + 1) := by
 have hk := (List.getElem?_eq_some_iff.1 h).1
 have hg : (labK ms v pl)[k]? = some (labT ms x (pl ++ [stepOf v.kind v.keys k])) := by
  unfold labK; rw [labTs_get, h]; simp
 have hlen : (labK ms v pl).length = v.kids.length := by simp [labK, labTs_len]
 apply List.ext_getElem?
 intro j
 unfold labRow
 rw [List.getElem?_set]
 simp only [List.getElem?_map, List.getElem?_append, List.length_take, hlen, List.getElem?_take, List.getElem?_drop, List.length_map, List.length_append, List.length_drop]
 rw [Nat.min_eq_left (Nat.le_of_lt hk), Nat.min_eq_left (by omega)]
 by_cases h1 : k = j
 ·subst h1
  rw [if_pos rfl, if_pos (by omega), if_pos (by omega), if_pos (by omega), hg]; rfl
 ·rw [if_neg h1]
  by_cases h2 : j < k
  ·rw [if_pos h2, if_pos h2, if_pos (by omega), if_pos (by omega)]
  ·rw [if_neg h2, if_neg (by omega)]
   congr 2; omega
end Go.Proofs.YtdjjmppnnkkloaaGreatDoor
