import Derived.Test.YtbhhphabggcacaaGreatDoorSLexTail2
import Derived.Test.YtbhhphabggcacaaGreatDoorSLexSh
import Derived.Test.YtbhhphabggcacaaGreatDoorSLexC
import Derived.Test.YtbhhphabggcacaaGreatDoorSSynT
import Derived.Test.YtbhhphabggcacaaGreatDoorSSynFr
namespace Go.Proofs.YtbhhphabggcacaaGreatDoor
open Sy Go
set_option maxRecDepth 100000
set_option linter.unusedSimpArgs false
set_option linter.unusedVariables false
theorem qLH {p:UInt8→Bool} {r:List UInt8} (h:r.drop (spn p r)≠[]) (w:List UInt8):spn p (r++w)=spn p r:=by
 have hl:(r.takeWhile p).length≠r.length:=fun e=>h (by unfold spn; rw [e,List.drop_length])
 unfold spn
 rw [List.takeWhile_append,if_neg hl]
theorem qTG {p:UInt8→Bool} {r:List UInt8} (h:r.drop (spn p r)=[]) (w:List UInt8):spn p (r++w)=r.length+spn p w:=by
 have hl:(r.takeWhile p).length=r.length:=by
  have:=List.drop_eq_nil_iff.1 h
  have:=jY p r
  unfold spn at *; omega
 unfold spn
 rw [List.takeWhile_append,if_pos hl,List.length_append]
theorem qDD {p:UInt8→Bool} {w:List UInt8} (h:w.all p=true):spn p w=w.length:=by
 have:=qQQ w [] h
 rw [List.append_nil] at this
 rw [this]; rfl
theorem qFP (t:List UInt8) (ht:(9::t).all yR=true):∀ (n n' a:Nat) (r:List UInt8),r.length<n→(r++9::t).length<n'→wS n' a (r++9::t)=wS n a r
 | 0,_,a,r,h,_=>by omega
 | n+1,0,a,r,_,h=>by omega
 | n+1,n'+1,a,r,h1,h2=>by
  simp only [wS]
  by_cases hq:r.drop (spn yR r)=[]
  ·rw [if_pos hq,if_pos (by
    rw [qTG hq,qDD ht,← List.length_append,List.drop_length])]
  rw [if_neg hq,qLH hq]
  have hb:=jY yR r
  rw [List.drop_append_of_le_length hb]
  have hne:¬ r.drop (spn yR r)++9::t=[]:=by simp
  rw [if_neg hne,zAR hq]
  have hol:=qGW hq
  have hlen:(r.drop (spn yR r)).length=r.length-spn yR r:=List.length_drop
  by_cases h0:(kI (r.drop (spn yR r))).2=0
  ·rw [if_pos h0,if_pos h0]
  rw [if_neg h0,if_neg h0,List.drop_append_of_le_length hol]
  rw [qFP t ht n n' _ _ (by rw [List.length_drop]; omega) (by rw [List.length_append,List.length_drop]; simp only [List.length_append] at h2; omega)]
theorem qIH {c:UInt8} (hc:c∈xU) (t:List UInt8):∀ (n n' a:Nat) (r:List UInt8) (l:List Tok),r.length<n→(r++c::t).length<n'→wS n a r=some l→∃ m b,(c::t).length<m∧wS n' a (r++c::t)=(wS m b (c::t)).map (l ++ ·)
 | 0,_,a,r,l,h,_,_=>by omega
 | n+1,0,a,r,l,_,h,_=>by omega
 | n+1,n'+1,a,r,l,h1,h2,hl=>by
  simp only [wS] at hl
  by_cases hq:r.drop (spn yR r)=[]
  ·rw [if_pos hq] at hl
   cases hl
   refine ⟨n'+1,a+r.length,by simp only [List.length_append] at h2; omega, ?_⟩
   have hall:r.all yR=true:=by
    have e:=zDJ yR r
    rw [List.take_of_length_le (List.drop_eq_nil_iff.1 hq)] at e
    have e2:(r.takeWhile yR).all yR=true:=by simp
    rw [← e] at e2
    exact e2
   rw [qEK r hall]
   cases wS (n'+1) (a+r.length) (c::t) <;> simp
  rw [if_neg hq] at hl
  have hb:=jY yR r
  have hlen:(r.drop (spn yR r)).length=r.length-spn yR r:=List.length_drop
  have hol:=qGW hq
  by_cases h0:(kI (r.drop (spn yR r))).2=0
  ·rw [if_pos h0] at hl; cases hl
  rw [if_neg h0] at hl
  obtain ⟨l',e1,e2⟩:=Option.map_eq_some_iff.1 hl
  obtain ⟨m,b,i1,i2⟩:=qIH hc t n n' _ _ l' (by rw [List.length_drop]; omega) (by rw [List.length_append,List.length_drop]; simp only [List.length_append] at h2; omega) e1
  refine ⟨m,b,i1, ?_⟩
  simp only [wS]
  rw [qLH hq,List.drop_append_of_le_length hb,if_neg (by simp),qPH hc hq h0,if_neg h0,List.drop_append_of_le_length hol,i2,← e2]
  cases wS m b (c::t) <;> simp
theorem zNO:kI [41]=(⟨6,0,[41],⟨false,[],0⟩⟩,1):=by decide +kernel
theorem qIB {b:UInt8} (h:b∈([40,41,91,93,123,125,44,58,59,124]:List UInt8)) (t:List UInt8):kI (b::t)=(⟨6,0,[b],⟨false,[],0⟩⟩,1):=by
 have h1:b≠36∧b≠46∧kD b=false∧qF b=false∧qFX b=true∧b≠34:=by
  have:∀ b∈([40,41,91,93,123,125,44,58,59,124]:List UInt8),b≠36∧b≠46∧kD b=false∧qF b=false∧qFX b=true∧b≠34:=by decide
  exact this b h
 obtain ⟨h1,h2,h3,h4,h5,h6⟩:=h1
 have hl:wM (b::t)=(0,0):=by
  unfold wM
  rw [if_neg (by simpa using h1),if_neg (by simp [h2])]
 have hp:qY (b::t) [34]=false:=by simp [qY,h6]
 have hs1:spn kD (b::t)=0:=by simp [spn,List.takeWhile_cons,h3]
 have hs2:spn qF (b::t)=0:=by simp [spn,List.takeWhile_cons,h4]
 have hs3:vJ (b::t)=[b]:=by
  have ht:xA.find? (fun w=>qY (b::t) w)=none:=by
   rw [List.find?_eq_none]
   intro w hw
   have hb:∀ b∈([40,41,91,93,123,125,44,58,59,124]:List UInt8),b≠61∧b≠33∧b≠60∧b≠62:=by decide
   obtain ⟨g1,g2,g3,g4⟩:=hb b h
   simp only [xA,List.mem_cons,List.not_mem_nil,or_false] at hw
   rcases hw with rfl | rfl | rfl | rfl <;> simp [qY,g1,g2,g3,g4]
  have hm:min 1 (spn qFX (b::t))=1:=by
   unfold spn
   rw [List.takeWhile_cons,if_pos h5,List.length_cons]; omega
  unfold vJ
  rw [ht,hm]; rfl
 unfold kI
 simp only [hl,List.drop_zero,hp,hs1,hs2,hs3]
 rfl
end Go.Proofs.YtbhhphabggcacaaGreatDoor
