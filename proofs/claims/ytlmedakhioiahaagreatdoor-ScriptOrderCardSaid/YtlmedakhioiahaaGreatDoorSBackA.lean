import Derived.Test.YtlmedakhioiahaaGreatDoorSParseEq
import Derived.Test.YtlmedakhioiahaaGreatDoorK3
namespace Go.Proofs.YtlmedakhioiahaaGreatDoor
open Sy Go
set_option linter.unusedSimpArgs false
set_option linter.unusedVariables false
theorem qYD {ws l:List UInt8} (hw:ws.all wR=true) (hl:∀ b,l.head?=some b→wR b=false):zO (ws++l)=l:=by
 unfold zO
 induction ws with
 | nil =>
  cases l with
  | nil=>rfl
  | cons b l=>rw [List.nil_append,List.dropWhile_cons,hl b rfl]; rfl
 | cons b ws ih =>
  simp only [List.all_cons,Bool.and_eq_true] at hw
  rw [List.cons_append,List.dropWhile_cons,hw.1]
  exact ih hw.2
theorem qFM {ws l:List UInt8} {b:UInt8} (hw:ws.all wR=true) (hb:wR b=false):zO (ws++b::l)=b::l :=
 qYD hw (by intro c hc; simp at hc; subst hc; exact hb)
theorem qLK (w b:UInt8) (l:List UInt8):([w]:List UInt8).isPrefixOf (b::l)=decide (w=b):=by
 simp only [List.isPrefixOf,Bool.and_true]
 rw [Bool.eq_iff_iff]; simp
theorem qKO {st:RS} {ws rest:List UInt8} {w:UInt8} (h:st.left=ws++w::rest) (hw:ws.all wR=true) (hn:wR w=false):tk [w] st=(true,{ st with left:=rest }):=by
 unfold tk
 rw [h,qFM hw hn,qLK]
 simp
theorem qJR {st:RS} {ws rest:List UInt8} {w b:UInt8} (h:st.left=ws++b::rest) (hw:ws.all wR=true) (hn:wR b=false) (hne:b≠w):tk [w] st=(false,{ st with left:=b::rest }):=by
 unfold tk
 rw [h,qFM hw hn,qLK]
 rw [if_neg (by simp; exact fun e=>hne e.symm)]
theorem qYJ {c : UInt8} {many : Nat} {st : RS} {ws rest : List UInt8} (h : st.left = ws ++ c :: rest) (hb : st.bad = false) (hw : ws.all wR = true) (hc : wR c = false) (hm : many ≤ 200) :
  wJ c many st=(true,{ st with left:=rest }):=by
 unfold wJ
 simp only [hb,Bool.false_eq_true,if_false]
 rw [qKO (st:={ left:=st.left,nodes:=st.nodes,bad:=false,deep:=st.deep,big:=st.big || decide (200<many) }) h hw hc]
 simp [show ¬ 200<many by omega]
theorem qSU {c : UInt8} {many : Nat} {st : RS} {ws rest : List UInt8} (h : st.left = ws ++ 44 :: rest) (hb : st.bad = false) (hw : ws.all wR = true) (hc : c ≠ 44) (hm : many ≤ 200) :
  wJ c many st=(false,{ st with left:=rest }):=by
 unfold wJ
 simp only [hb,Bool.false_eq_true,if_false]
 rw [qJR (st:={ left:=st.left,nodes:=st.nodes,bad:=false,deep:=st.deep,big:=st.big || decide (200<many) }) h hw (by decide) (Ne.symm hc)]
 simp only [Bool.false_eq_true,if_false]
 rw [qKO (ws:=[]) (w:=44) (rest:=rest) rfl rfl (by decide)]
 simp [show ¬ 200<many by omega,hb]
theorem qIL {st:RS} {ws key rest:List UInt8} (h:st.left=ws++(zQ key++rest)) (hw:ws.all wR=true) (hk:xE key=true):qD st=({ st with left:=rest },key):=by
 unfold xE at hk
 simp only [Bool.and_eq_true,decide_eq_true_eq] at hk
 unfold qD
 rw [h,qYD hw (by intro b hb; simp [zQ] at hb; subst hb; rfl),qPO key rest hk.2 (by omega)]
 unfold jP
 simp
theorem qXD {st:RS} {ws rest:List UInt8} (h:st.left=ws++58::rest) (hw:ws.all wR=true) (hb:st.bad=false):qQ st={ st with left:=rest }:=by
 unfold qQ
 rw [hb,qKO h hw (by decide)]
 simp [hb]
theorem zKA:zY=qEE:=rfl
theorem zJL {s rest:List UInt8} (hs:s.all zY=true) (hr:∀ b,rest.head?=some b→zY b=false):(s++rest).takeWhile zY=s∧(s++rest).dropWhile zY=rest:=by
 induction s with
 | nil =>
  cases rest with
  | nil=>exact ⟨rfl,rfl⟩
  | cons b F=>have:=hr b rfl; simp [List.takeWhile_cons,List.dropWhile_cons,this]
 | cons b W ih =>
  simp only [List.all_cons,Bool.and_eq_true] at hs
  obtain ⟨h1,h2⟩:=ih hs.2
  simp [List.takeWhile_cons,List.dropWhile_cons,hs.1,h1,h2]
theorem zET {b:UInt8} (h:b=45∨qJ b=true):wR b=false∧b≠91∧b≠123∧b≠110∧b≠116∧b≠102∧b≠34∧b≠93∧b≠125∧(b=45∨qJ b=true):=by
 rcases h with rfl | h
 ·decide
 have h':=h
 simp only [qJ,yO,Bool.and_eq_true,decide_eq_true_eq] at h
 have ne:∀ c:UInt8,(c.toNat<48∨57<c.toNat)→b≠c:=fun c hc e=>by subst e; omega
 refine ⟨?_,ne _ (by decide),ne _ (by decide),ne _ (by decide),ne _ (by decide),ne _ (by decide),ne _ (by decide),ne _ (by decide),ne _ (by decide),.inr h'⟩
 unfold wR
 simp [ne 32 (by decide),ne 9 (by decide),ne 13 (by decide),ne 10 (by decide)]
def zNX (d:Dc):Val := .mk 4 0 d [] [] [] 0
theorem zCZ {s ws rest : List UInt8} {st : RS} (n d : Nat) (h : st.left = ws ++ (s ++ rest)) (hw : ws.all wR = true) (hp : (zJ s).2 ≠ 4) (hr : ∀ b, rest.head? = some b → zY b = false) :
  qS (n+1) st d=(⟨rest,st.nodes+1,st.bad,st.deep || decide (12<d),(st.big || decide (400<st.nodes+1)) || decide ((zJ s).2=3)⟩,zNX (zJ s).1):=by
 obtain ⟨hn,b,t,rfl,hb⟩:=qOD hp
 obtain ⟨h0,h1,h2,h3,h4,h5,h6,h7,h8,h9⟩:=zET hb
 have he:qT st d=⟨b::t++rest,st.nodes+1,st.bad,st.deep || decide (12<d),st.big || decide (400<st.nodes+1)⟩:=by
  unfold qT; rw [h,List.cons_append,qFM hw h0]
 have hA:wT (qT st d)=wO (qT st d):=by
  unfold wT
  rw [he]
  have p:∀ (c:UInt8) (w l:List UInt8),b≠c→(c::w).isPrefixOf (b::l)=false:=by
   intro c w l hc; simp only [List.isPrefixOf]; rw [show (c == b)=false by simp; exact fun e=>hc e.symm]; rfl
  rw [if_neg (by simp only [yY,List.cons_append]; rw [p _ _ _ h3]; simp),if_neg (by simp only [kE,List.cons_append]; rw [p _ _ _ h4]; simp),if_neg (by simp only [wZ,List.cons_append]; rw [p _ _ _ h5]; simp),if_neg (by simp only [List.cons_append]; rw [p _ _ _ h6]; simp)]
  rw [if_pos]
  refine ⟨by simp, ?_⟩
  simp only [List.cons_append,qN,List.getD_cons_zero]
  rcases h9 with rfl | h9
  ·exact .inl rfl
  exact .inr h9
 rw [← zKA] at hn
 obtain ⟨w1,w2⟩:=zJL hn hr
 simp only [qS]
 rw [if_neg (by rw [he]; simp only [List.cons_append,qLK]; simpa using Ne.symm h1),if_neg (by rw [he]; simp only [List.cons_append,qLK]; simpa using Ne.symm h2),hA]
 unfold wO
 rw [he]
 simp only [w1,w2]
 rw [show decide ((zJ (b::t)).2=4)=false by simpa using hp,Bool.or_false]
 rfl
end Go.Proofs.YtlmedakhioiahaaGreatDoor
