import Derived.Test.YtgcbapchinideaaGreatDoorSBackA
namespace Go.Proofs.YtgcbapchinideaaGreatDoor
open Sy Go
set_option linter.unusedSimpArgs false
set_option linter.unusedVariables false
mutual
def xZ:Val→Bool
 | .mk k _ _ _ _ vs _=>decide (k=8) || qSJ vs
def qSJ:List Val→Bool
 | []=>false
 | v::vs=>xZ v || qSJ vs
end
theorem qMO:∀ l,qSJ l=l.any xZ
 | []=>by simp [qSJ]
 | v::vs=>by simp [qSJ,qMO vs]
theorem qBZ (v:Val):xZ v=(decide (v.kind=8) || v.kids.any xZ):=by
 cases v; simp only [xZ,qMO,Val.kids,Val.kind]; rfl
theorem qYJ {v k:Val} (h:xZ v=false) (hk:k∈v.kids):xZ k=false:=by
 rw [qBZ,Bool.or_eq_false_iff] at h
 have:=List.any_eq_false.1 h.2 k hk
 simpa using this
theorem qUT {v:Val} (h:xZ v=false):v.kind≠8:=by
 rw [qBZ,Bool.or_eq_false_iff] at h
 simpa using h.1
theorem qIT {v : Val} (h : xF v = true) (hc : v.kind ≠ 8) : v.code = 0 ∧ v.kids.length ≤ 200 ∧
  ((v.kind=1∧v.num=dc0∧v.text=[]∧v.keys=[]∧v.kids=[])∨(v.kind=2∧v.num=dc0∧v.text=[]∧v.keys=[]∧v.kids=[])∨(v.kind=3∧v.num=dc0∧v.text=[]∧v.keys=[]∧v.kids=[]) ∨
   (v.kind=4∧qQ v.num=true∧v.text=[]∧v.keys=[]∧v.kids=[])∨(v.kind=5∧v.num=dc0∧qID v.text=true∧v.keys=[]∧v.kids=[]) ∨
   (v.kind=6∧v.num=dc0∧v.text=[]∧v.keys=[])∨(v.kind=7∧v.num=dc0∧v.text=[]∧v.keys.length=v.kids.length∧qNH v.keys=true)):=by
 rw [qAM] at h
 simp only [Bool.and_eq_true,qAQ,qBD,decide_eq_true_eq] at h
 obtain ⟨⟨⟨b1,b2,b3⟩,⟨⟨⟨⟨c1,c2⟩,c3⟩,c4⟩,c5⟩⟩,_⟩:=h
 have hcode:v.code=0:=by
  unfold qWO at c1
  simp [hc] at c1
  exact c1
 refine ⟨hcode,b3, ?_⟩
 unfold qYM at c2
 unfold qUK at c3
 unfold qGI at c4
 unfold qVO at c5
 have hnum:v.kind≠4→v.num=dc0:=fun h4=>by
  rw [if_neg h4] at c2
  simp only [decide_eq_true_eq] at c2
  exact Dc.ext' c2.1 c2.2.1 c2.2.2
 have htxt:v.kind≠5→v.text=[]:=fun h4=>by rw [if_neg h4] at c3; simpa using c3
 have hkey:v.kind≠7→v.keys=[]:=fun h4=>by rw [if_neg h4] at c4; simpa using c4
 have hkid:v.kind≠6→v.kind≠7→v.kids=[]:=fun h6 h7=>by simpa [h6,h7] using c5
 have hk:v.kind=1∨v.kind=2∨v.kind=3∨v.kind=4∨v.kind=5∨v.kind=6∨v.kind=7:=by omega
 rcases hk with k | k | k | k | k | k | k
 ·exact .inl ⟨k,hnum (by omega),htxt (by omega),hkey (by omega),hkid (by omega) (by omega)⟩
 ·exact .inr (.inl ⟨k,hnum (by omega),htxt (by omega),hkey (by omega),hkid (by omega) (by omega)⟩)
 ·exact .inr (.inr (.inl ⟨k,hnum (by omega),htxt (by omega),hkey (by omega),hkid (by omega) (by omega)⟩))
 ·rw [if_pos k] at c2
  exact .inr (.inr (.inr (.inl ⟨k,c2,htxt (by omega),hkey (by omega),hkid (by omega) (by omega)⟩)))
 ·rw [if_pos k] at c3
  exact .inr (.inr (.inr (.inr (.inl ⟨k,hnum (by omega),c3,hkey (by omega),hkid (by omega) (by omega)⟩))))
 ·exact .inr (.inr (.inr (.inr (.inr (.inl ⟨k,hnum (by omega),htxt (by omega),hkey (by omega)⟩)))))
 rw [if_pos k] at c4
 simp only [Bool.and_eq_true,decide_eq_true_eq] at c4
 exact .inr (.inr (.inr (.inr (.inr (.inr ⟨k,hnum (by omega),htxt (by omega),by omega,c4.2⟩)))))
theorem qWD (key:List UInt8) (keys:List (List UInt8)) (p:List UInt8) (ps:List (List UInt8)):qAU (key::keys) (p::ps)=(wR key++[58]++p)::qAU keys ps:=rfl
theorem zAO {v:Val} (k:v.kind=1):zB v=qLW:=by rw [yL,if_pos k]
theorem zAN {v:Val} (k:v.kind=2):zB v=qFK:=by rw [yL,if_neg (by omega),if_pos k]
theorem zAM {v:Val} (k:v.kind=3):zB v=qLV:=by rw [yL,if_neg (by omega),if_neg (by omega),if_pos k]
theorem zAL {v:Val} (k:v.kind=4):zB v=zT v.num:=by rw [yL,if_neg (by omega),if_neg (by omega),if_neg (by omega),if_pos k]
theorem zAK {v:Val} (k:v.kind=5):zB v=wR v.text:=by rw [yL,if_neg (by omega),if_neg (by omega),if_neg (by omega),if_neg (by omega),if_pos k]
theorem zAH {v:Val} (k:v.kind=8):zB v=33::qAX v.code:=by rw [yL,if_neg (by omega),if_neg (by omega),if_neg (by omega),if_neg (by omega),if_neg (by omega),if_pos k]
theorem zAI {v:Val} (k:v.kind=7):zB v=[123]++Lib.join (qAU v.keys (v.kids.map zB)) [44]++[125]:=by rw [yL,if_neg (by omega),if_neg (by omega),if_neg (by omega),if_neg (by omega),if_neg (by omega),if_neg (by omega),if_pos k]
theorem zAJ {v:Val} (k:v.kind=6):zB v=[91]++Lib.join (v.kids.map zB) [44]++[93]:=by rw [yL,if_neg (by omega),if_neg (by omega),if_neg (by omega),if_neg (by omega),if_neg (by omega),if_neg (by omega),if_neg (by omega)]
end Go.Proofs.YtgcbapchinideaaGreatDoor
