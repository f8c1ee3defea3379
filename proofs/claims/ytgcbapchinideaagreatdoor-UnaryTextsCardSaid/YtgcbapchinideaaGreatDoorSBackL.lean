import Derived.Test.YtgcbapchinideaaGreatDoorSBackA
namespace Go.Proofs.YtgcbapchinideaaGreatDoor
open Sy Go
set_option linter.unusedSimpArgs false
set_option linter.unusedVariables false
mutual
def xA:Val→Bool
 | .mk k _ _ _ _ vs _=>decide (k=8) || qQR vs
def qQR:List Val→Bool
 | []=>false
 | v::vs=>xA v || qQR vs
end
theorem qKS:∀ l,qQR l=l.any xA
 | []=>by simp [qQR]
 | v::vs=>by simp [qQR,qKS vs]
theorem qBB (v:Val):xA v=(decide (v.kind=8) || v.kids.any xA):=by
 cases v; simp only [xA,qKS,Val.kids,Val.kind]; rfl
theorem qVS {v k:Val} (h:xA v=false) (hk:k∈v.kids):xA k=false:=by
 rw [qBB,Bool.or_eq_false_iff] at h
 have:=List.any_eq_false.1 h.2 k hk
 simpa using this
theorem qSP {v:Val} (h:xA v=false):v.kind≠8:=by
 rw [qBB,Bool.or_eq_false_iff] at h
 simpa using h.1
theorem qHG {v : Val} (h : xN v = true) (hc : v.kind ≠ 8) : v.code = 0 ∧ v.kids.length ≤ 200 ∧
  ((v.kind=1∧v.num=dc0∧v.text=[]∧v.keys=[]∧v.kids=[])∨(v.kind=2∧v.num=dc0∧v.text=[]∧v.keys=[]∧v.kids=[])∨(v.kind=3∧v.num=dc0∧v.text=[]∧v.keys=[]∧v.kids=[]) ∨
   (v.kind=4∧yT v.num=true∧v.text=[]∧v.keys=[]∧v.kids=[])∨(v.kind=5∧v.num=dc0∧qDX v.text=true∧v.keys=[]∧v.kids=[]) ∨
   (v.kind=6∧v.num=dc0∧v.text=[]∧v.keys=[])∨(v.kind=7∧v.num=dc0∧v.text=[]∧v.keys.length=v.kids.length∧qPN v.keys=true)):=by
 rw [qBE] at h
 simp only [Bool.and_eq_true,qBQ,qCF,decide_eq_true_eq] at h
 obtain ⟨⟨⟨b1,b2,b3⟩,⟨⟨⟨⟨c1,c2⟩,c3⟩,c4⟩,c5⟩⟩,_⟩:=h
 have hcode:v.code=0:=by
  unfold qPT at c1
  simp [hc] at c1
  exact c1
 refine ⟨hcode,b3, ?_⟩
 unfold qST at c2
 unfold qOV at c3
 unfold qIS at c4
 unfold qPM at c5
 have hnum:v.kind≠4→v.num=dc0:=fun h4=>by
  rw [if_neg h4] at c2
  simp only [decide_eq_true_eq] at c2
  exact Dc.ext' c2.1 c2.2.1 c2.2.2
 have htxt:v.kind≠5→v.text=[]:=fun h4=>by rw [if_neg h4] at c3; simpa using c3
 have hkey:v.kind≠7→v.keys=[]:=fun h4=>by rw [if_neg h4] at c4; simpa using c4
 have hkid:v.kind≠6→v.kind≠7→v.kids=[]:=fun h6 h7=>by simpa [h6,h7] using c5
 have hk:v.kind=1∨v.kind=2∨v.kind=3∨v.kind=4∨v.kind=5∨v.kind=6∨v.kind=7:=by omega
 rcases hk with k | k | k | k | k | k | k
 ·exact .inl ⟨k,hnum (by omega),htxt (by omega),hkey (by omega),hkid (by omega) (by omega)⟩
 ·exact .inr (.inl ⟨k,hnum (by omega),htxt (by omega),hkey (by omega),hkid (by omega) (by omega)⟩)
 ·exact .inr (.inr (.inl ⟨k,hnum (by omega),htxt (by omega),hkey (by omega),hkid (by omega) (by omega)⟩))
 ·rw [if_pos k] at c2
  exact .inr (.inr (.inr (.inl ⟨k,c2,htxt (by omega),hkey (by omega),hkid (by omega) (by omega)⟩)))
 ·rw [if_pos k] at c3
  exact .inr (.inr (.inr (.inr (.inl ⟨k,hnum (by omega),c3,hkey (by omega),hkid (by omega) (by omega)⟩))))
 ·exact .inr (.inr (.inr (.inr (.inr (.inl ⟨k,hnum (by omega),htxt (by omega),hkey (by omega)⟩)))))
 rw [if_pos k] at c4
 simp only [Bool.and_eq_true,decide_eq_true_eq] at c4
 exact .inr (.inr (.inr (.inr (.inr (.inr ⟨k,hnum (by omega),htxt (by omega),by omega,c4.2⟩)))))
theorem qTW (key:List UInt8) (keys:List (List UInt8)) (p:List UInt8) (ps:List (List UInt8)):uT (key::keys) (p::ps)=(zM key++[58]++p)::uT keys ps:=rfl
theorem qXR {v:Val} (k:v.kind=1):qS v=qJW:=by rw [wW,if_pos k]
theorem qXQ {v:Val} (k:v.kind=2):qS v=qDY:=by rw [wW,if_neg (by omega),if_pos k]
theorem qXP {v:Val} (k:v.kind=3):qS v=qJV:=by rw [wW,if_neg (by omega),if_neg (by omega),if_pos k]
theorem qXO {v:Val} (k:v.kind=4):qS v=vE v.num:=by rw [wW,if_neg (by omega),if_neg (by omega),if_neg (by omega),if_pos k]
theorem qXN {v:Val} (k:v.kind=5):qS v=zM v.text:=by rw [wW,if_neg (by omega),if_neg (by omega),if_neg (by omega),if_neg (by omega),if_pos k]
theorem qXK {v:Val} (k:v.kind=8):qS v=33::uW v.code:=by rw [wW,if_neg (by omega),if_neg (by omega),if_neg (by omega),if_neg (by omega),if_neg (by omega),if_pos k]
theorem qXL {v:Val} (k:v.kind=7):qS v=[123]++Lib.join (uT v.keys (v.kids.map qS)) [44]++[125]:=by rw [wW,if_neg (by omega),if_neg (by omega),if_neg (by omega),if_neg (by omega),if_neg (by omega),if_neg (by omega),if_pos k]
theorem qXM {v:Val} (k:v.kind=6):qS v=[91]++Lib.join (v.kids.map qS) [44]++[93]:=by rw [wW,if_neg (by omega),if_neg (by omega),if_neg (by omega),if_neg (by omega),if_neg (by omega),if_neg (by omega),if_neg (by omega)]
end Go.Proofs.YtgcbapchinideaaGreatDoor
