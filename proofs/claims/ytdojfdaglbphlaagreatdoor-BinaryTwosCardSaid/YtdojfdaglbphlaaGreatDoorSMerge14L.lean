import Derived.Test.YtdojfdaglbphlaaGreatDoorSMergeL
namespace Go.Proofs.YtdojfdaglbphlaaGreatDoor
open Sy Go
set_option maxRecDepth 100000
set_option linter.unusedSimpArgs false
set_option linter.unusedVariables false
def qHN (b:Val) (key:List UInt8) (z:Val):Nat→Val
 | 0=>z
 | j+1=>if b.keys.getD j []=key then b.kids.getD j yR else qHN b key z j
def qAB (b:Val) (ks:List (List UInt8)) (vs:List Val) (n:Nat):List Val:=(ks.zip vs).map fun p=>qHN b p.1 p.2 n
def qCF (b:Val) (ks:List (List UInt8)):Nat→List (List UInt8)
 | 0=>[]
 | j+1=>if b.keys.getD j []∈ks then qCF b ks j else qCF b ks j++[b.keys.getD j []]
def qCE (b:Val) (ks:List (List UInt8)):Nat→List Val
 | 0=>[]
 | j+1=>if b.keys.getD j []∈ks then qCE b ks j else qCE b ks j++[b.kids.getD j yR]
theorem qOK (b:Val) {ks:List (List UInt8)} {vs:List Val} (h:ks.length=vs.length) (n:Nat):(qAB b ks vs n).length=ks.length:=by simp [qAB,h]
theorem qOR (b:Val) (ks:List (List UInt8)) {x:List UInt8}:∀ n,x∈qCF b ks n→∃ j,j<n∧b.keys.getD j []=x
 | 0,h=>by simp [qCF] at h
 | n+1,h=>by
  simp only [qCF] at h
  split at h
  ·obtain ⟨j,h1,h2⟩:=qOR b ks n h; exact ⟨j,by omega,h2⟩
  rcases List.mem_append.1 h with h | h
  ·obtain ⟨j,h1,h2⟩:=qOR b ks n h; exact ⟨j,by omega,h2⟩
  exact ⟨n,by omega,(List.mem_singleton.1 h).symm⟩
theorem qKJ (b:Val) (ks:List (List UInt8)):∀ n,(qCF b ks n).length=(qCE b ks n).length∧(qCE b ks n).length≤n
 | 0=>by simp [qCF,qCE]
 | n+1=>by
  have:=qKJ b ks n
  simp only [qCF,qCE]
  split
  ·exact ⟨this.1,by omega⟩
  simp only [List.length_append,List.length_singleton]; omega
theorem zML (b : Val) {ks : List (List UInt8)} {vs : List Val} (h : ks.length = vs.length) (hn : ks.Nodup) {n : Nat} (hm : b.keys.getD n [] ∈ ks) :
  (qAB b ks vs n).set (ks.idxOf (b.keys.getD n [])) (b.kids.getD n yR)=qAB b ks vs (n+1):=by
 have hi:=List.idxOf_lt_length_iff.2 hm
 have hg:ks[ks.idxOf (b.keys.getD n [])]=b.keys.getD n []:=List.getElem_idxOf hi
 apply List.ext_getElem
 ·simp [qAB]
 intro j h1 h2
 have hj:j<ks.length:=by rw [qOK b h] at h2; exact h2
 rw [List.getElem_set]
 simp only [qAB,List.getElem_map,List.getElem_zip,qHN]
 by_cases e:ks.idxOf (b.keys.getD n [])=j
 ·subst e
  rw [if_pos rfl,if_pos hg.symm]
 rw [if_neg e,if_neg]
 intro hk
 exact e ((List.getElem_inj hn).1 (hg.trans hk))
theorem zQL (b:Val) {ks:List (List UInt8)} {vs:List Val} {n:Nat} (hm:b.keys.getD n [] ∉ ks):qAB b ks vs (n+1)=qAB b ks vs n:=by
 unfold qAB
 apply List.map_congr_left
 intro p hp
 simp only [qHN]
 rw [if_neg]
 intro e
 exact hm (by rw [e]; exact (List.of_mem_zip hp).1)
theorem zFH {b:Val} {ks:List (List UInt8)} {vs:List Val} (h:ks.length=vs.length) (hk:ks.Nodup) (hb:b.keys.Nodup):∀ n,n≤b.keys.length→wU b n ks vs=(ks++qCF b ks n,qAB b ks vs n++qCE b ks n)
 | 0,_=>by
  simp only [wU,qCF,qCE,List.append_nil,Prod.mk.injEq,true_and]
  unfold qAB
  simp only [qHN]
  exact (List.map_snd_zip (by omega)).symm
 | n+1,hn=>by
  have ih:=zFH h hk hb n (by omega)
  have hl:=qOK b h n
  simp only [wU]
  rw [ih]
  simp only
  unfold xE
  by_cases hm:b.keys.getD n []∈ks
  ·rw [if_pos (List.mem_append_left _ hm)]
   have hi:=List.idxOf_lt_length_iff.2 hm
   rw [List.idxOf_append,if_pos hm,List.set_append_left _ _ (by omega),zML b h hk hm]
   simp only [qCF,qCE]
   rw [if_pos hm,if_pos hm]
  have hnew:b.keys.getD n [] ∉ qCF b ks n:=by
   intro hx
   obtain ⟨j,hj,e⟩:=qOR b ks n hx
   have g1:b.keys.getD j []=b.keys[j]'(by omega):=by simp [List.getD_eq_getElem?_getD,show j<b.keys.length by omega]
   have g2:b.keys.getD n []=b.keys[n]'(by omega):=by simp [List.getD_eq_getElem?_getD,show n<b.keys.length by omega]
   rw [g1,g2] at e
   have:=(List.getElem_inj hb).1 e
   omega
  rw [if_neg (by simp only [List.mem_append,not_or]; exact ⟨hm,hnew⟩),zQL b hm]
  simp only [qCF,qCE]
  rw [if_neg hm,if_neg hm,List.append_assoc,List.append_assoc]
end Go.Proofs.YtdojfdaglbphlaaGreatDoor
