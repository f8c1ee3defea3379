import Derived.Test.YtlmedakhioiahaaGreatDoorSBackA
namespace Go.Proofs.YtlmedakhioiahaaGreatDoor
open Sy Go
set_option linter.unusedSimpArgs false
set_option linter.unusedVariables false
mutual
def qFM:Val→Bool
 | .mk k _ _ _ _ vs _=>decide (k=8) || qZA vs
def qZA:List Val→Bool
 | []=>false
 | v::vs=>qFM v || qZA vs
end
theorem qSK:∀ l,qZA l=l.any qFM
 | []=>by simp [qZA]
 | v::vs=>by simp [qZA,qSK vs]
theorem qJH (v:Val):qFM v=(decide (v.kind=8) || v.kids.any qFM):=by
 cases v; simp only [qFM,qSK,Val.kids,Val.kind]; rfl
theorem zFP {v k:Val} (h:qFM v=false) (hk:k∈v.kids):qFM k=false:=by
 rw [qJH,Bool.or_eq_false_iff] at h
 have:=List.any_eq_false.1 h.2 k hk
 simpa using this
theorem zBV {v:Val} (h:qFM v=false):v.kind≠8:=by
 rw [qJH,Bool.or_eq_false_iff] at h
 simpa using h.1
theorem qNN {v : Val} (h : wF v = true) (hc : v.kind ≠ 8) : v.code = 0 ∧ v.kids.length ≤ 200 ∧
  ((v.kind=1∧v.num=dc0∧v.text=[]∧v.keys=[]∧v.kids=[])∨(v.kind=2∧v.num=dc0∧v.text=[]∧v.keys=[]∧v.kids=[])∨(v.kind=3∧v.num=dc0∧v.text=[]∧v.keys=[]∧v.kids=[]) ∨
   (v.kind=4∧wM v.num=true∧v.text=[]∧v.keys=[]∧v.kids=[])∨(v.kind=5∧v.num=dc0∧uD v.text=true∧v.keys=[]∧v.kids=[]) ∨
   (v.kind=6∧v.num=dc0∧v.text=[]∧v.keys=[])∨(v.kind=7∧v.num=dc0∧v.text=[]∧v.keys.length=v.kids.length∧vW v.keys=true)):=by
 rw [qDG] at h
 simp only [Bool.and_eq_true,xE,xM,decide_eq_true_eq] at h
 obtain ⟨⟨⟨b1,b2,b3⟩,⟨⟨⟨⟨c1,c2⟩,c3⟩,c4⟩,c5⟩⟩,_⟩:=h
 have hcode:v.code=0:=by
  unfold qBP at c1
  simp [hc] at c1
  exact c1
 refine ⟨hcode,b3, ?_⟩
 unfold qGW at c2
 unfold qBV at c3
 unfold qEH at c4
 unfold qLF at c5
 have hnum:v.kind≠4→v.num=dc0:=fun h4=>by
  rw [if_neg h4] at c2
  simp only [decide_eq_true_eq] at c2
  exact Dc.ext' c2.1 c2.2.1 c2.2.2
 have htxt:v.kind≠5→v.text=[]:=fun h4=>by rw [if_neg h4] at c3; simpa using c3
 have hkey:v.kind≠7→v.keys=[]:=fun h4=>by rw [if_neg h4] at c4; simpa using c4
 have hkid:v.kind≠6→v.kind≠7→v.kids=[]:=fun h6 h7=>by simpa [h6,h7] using c5
 have hk:v.kind=1∨v.kind=2∨v.kind=3∨v.kind=4∨v.kind=5∨v.kind=6∨v.kind=7:=by omega
 rcases hk with k | k | k | k | k | k | k
 ·exact .inl ⟨k,hnum (by omega),htxt (by omega),hkey (by omega),hkid (by omega) (by omega)⟩
 ·exact .inr (.inl ⟨k,hnum (by omega),htxt (by omega),hkey (by omega),hkid (by omega) (by omega)⟩)
 ·exact .inr (.inr (.inl ⟨k,hnum (by omega),htxt (by omega),hkey (by omega),hkid (by omega) (by omega)⟩))
 ·rw [if_pos k] at c2
  exact .inr (.inr (.inr (.inl ⟨k,c2,htxt (by omega),hkey (by omega),hkid (by omega) (by omega)⟩)))
 ·rw [if_pos k] at c3
  exact .inr (.inr (.inr (.inr (.inl ⟨k,hnum (by omega),c3,hkey (by omega),hkid (by omega) (by omega)⟩))))
 ·exact .inr (.inr (.inr (.inr (.inr (.inl ⟨k,hnum (by omega),htxt (by omega),hkey (by omega)⟩)))))
 rw [if_pos k] at c4
 simp only [Bool.and_eq_true,decide_eq_true_eq] at c4
 exact .inr (.inr (.inr (.inr (.inr (.inr ⟨k,hnum (by omega),htxt (by omega),by omega,c4.2⟩)))))
theorem zDB (key:List UInt8) (keys:List (List UInt8)) (p:List UInt8) (ps:List (List UInt8)):qAX (key::keys) (p::ps)=(wG key++[58]++p)::qAX keys ps:=rfl
theorem zIQ {v:Val} (k:v.kind=1):qR v=kX:=by rw [kB,if_pos k]
theorem zIP {v:Val} (k:v.kind=2):qR v=yG:=by rw [kB,if_neg (by omega),if_pos k]
theorem zIO {v:Val} (k:v.kind=3):qR v=kW:=by rw [kB,if_neg (by omega),if_neg (by omega),if_pos k]
theorem zIN {v:Val} (k:v.kind=4):qR v=yW v.num:=by rw [kB,if_neg (by omega),if_neg (by omega),if_neg (by omega),if_pos k]
theorem zIM {v:Val} (k:v.kind=5):qR v=wG v.text:=by rw [kB,if_neg (by omega),if_neg (by omega),if_neg (by omega),if_neg (by omega),if_pos k]
theorem zIJ {v:Val} (k:v.kind=8):qR v=33::uL v.code:=by rw [kB,if_neg (by omega),if_neg (by omega),if_neg (by omega),if_neg (by omega),if_neg (by omega),if_pos k]
theorem zIK {v:Val} (k:v.kind=7):qR v=[123]++Lib.join (qAX v.keys (v.kids.map qR)) [44]++[125]:=by rw [kB,if_neg (by omega),if_neg (by omega),if_neg (by omega),if_neg (by omega),if_neg (by omega),if_neg (by omega),if_pos k]
theorem zIL {v:Val} (k:v.kind=6):qR v=[91]++Lib.join (v.kids.map qR) [44]++[93]:=by rw [kB,if_neg (by omega),if_neg (by omega),if_neg (by omega),if_neg (by omega),if_neg (by omega),if_neg (by omega),if_neg (by omega)]
end Go.Proofs.YtlmedakhioiahaaGreatDoor
